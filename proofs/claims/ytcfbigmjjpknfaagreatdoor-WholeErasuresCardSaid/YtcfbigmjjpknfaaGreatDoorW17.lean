import Derived.Test.YtcfbigmjjpknfaaGreatDoorW16
import Derived.Test.YtcfbigmjjpknfaaGreatDoorW10
namespace Go.Proofs.YtcfbigmjjpknfaaGreatDoor
open Go Go.Sx Go.Pl Go.RowKit Go.Fd Go.Alg
set_option maxRecDepth 10000 in
theorem spOpen (p M : Int) (mo v : Value) (md : List Int) (n : Nat) (L : List (List Int)) (w : World) (ok : OkF p M md) (hmd : Ints w mo md) (hL : LL w v L) (hM : MV (fpOf p M md ok.1.1 ok.1.2.1) n L) (hcan : (Ml.canonM (opsP (fpOf p M md ok.1.1 ok.1.2.1)) L n).1 = L) :
  Calls Tryz.prog 70 #[fv0 p M mo, .agg #[.int .i64 n, v]] w (RetX w fun r w' => ∃ g pv, r = .tuple #[.agg #[g, .int .i64 n, v, pv], .int .i64 0] ∧ g.oneCell' = true ∧ OwnI w.heap.size w' pv 3 ((Ml.canonM (opsP (fpOf p M md ok.1.1 ok.1.2.1)) L n).2.map Int.ofNat)) := by
 have hv1 := hL.one
 have hvc := QB hv1
 refine QD Tryz.func70 rfl rfl (Qc (Qb [0,1,2,3] rfl (BXA rfl wu rfl rfl ?_)))
 intro fb w1 hE1 hF hfb
 refine BXA rfl wu rfl rfl ?_
 intro mb w2 hE2 hB hmb
 replace hF := hF.ext hE2
 refine AL rfl wu rfl zv117 ?_
 intro rb w3 hE3 hC hrb
 replace hF := hF.ext hE3
 replace hB := hB.ext hE3
 refine Qk rfl rfl (Qd (Qa (Qc ?_)))
 have hE := (hE1.trans hE2).trans hE3
 have hz1 := hE1.size
 have hz2 := hE2.size
 have hlC3 := hC.lt
 refine Qb [0,1,2,3,4,5,6,7,8,9,10] rfl (Vw rfl (ldA rfl Zf hF) (Vw rfl (ldA rfl ZP hB) (C rfl wu rfl rfl Tryz.call75 (JZ p M mo v md n L _ ok (hmd.ext hE) (hL.ext hE) hM) ?_)))
 rintro _ w4 hE4 ⟨lv, pv, rfl, hlv, hpv⟩
 refine mvV rfl rfl (QI rfl rfl rfl (QI rfl rfl rfl (QI rfl rfl rfl ?_)))
 have hl1 := hlv.one
 refine AL rfl wu rfl KW ?_
 intro lb w5 hE5 hLb hlb
 refine STB (vs := [.int .i64 n, lv]) (cs' := [.int .i64 n, lv]) rfl wu rfl rfl rfl JN nofun hLb oc2 rfl rfl rfl ?_
 intro w6 hg6 hX6 hL6
 refine Qk rfl rfl (Qk rfl rfl (Qd (Qa (Qc (Qc ?_)))))
 have hE6 := hX6 w4 hlb hE5
 have hE46 := hE4.trans hE6
 have hE0 := hE.trans hE46
 replace hF := hF.ext hE46
 replace hB := hB.ext hE46
 replace hC := hC.ext hE46
 replace hlv := hlv.ext hE6
 replace hpv := OwnI.ext hpv hE6
 have hz46 := hE.size
 refine Qb [0,1] rfl (mvV rfl rfl (QG rfl rfl rfl (Qd (Qa (Qn rfl (rfl) (Qe (Qa (Qc (Qc (Qb [0,1,2,3,4,5] rfl (Qz rfl rfl QR (Vw rfl (ldB rfl Zm hL6) (Qz rfl rfl QR ?_)))))))))))))
 refine Vw rfl (ldB rfl Zm hB) (C rfl wu rfl rfl Tryz.call108 (Qdc lv v _ L _ hlv.ll (hL.ext hE0)) ?_)
 rintro _ w7 hE7 rfl
 refine ZC rfl rfl (Qd (Qa (Qn rfl (by simp [hcan]) (Qe (Qa (Qc ?_))))))
 replace hF := hF.ext hE7
 replace hB := hB.ext hE7
 replace hC := hC.ext hE7
 replace hpv := OwnI.ext hpv hE7
 refine Qb [0,1,2,3,4,5,6] rfl (Vw rfl (ldA rfl Zf hF) (C rfl wu rfl rfl Tryz.call22 (fNew p M mo md _ (hmd.ext (hE0.trans hE7))) ?_))
 rintro r0 w8 hE8 hr0
 obtain ⟨g, rfl, hG⟩ := Qb3 ok hr0
 refine mvV rfl rfl (QI rfl rfl rfl (QI rfl rfl rfl (Qk rfl rfl (Qk rfl rfl (Qd (Qa (Qc ?_)))))))
 replace hB := hB.ext hE8
 replace hC := hC.ext hE8
 replace hpv := OwnI.ext hpv hE8
 have hg1 := hG.one
 have hp1 := (OwnI.ints hpv).one
 have hlC := hC.lt
 refine Qb [0,1,2,3,4,5,6] rfl (mvV rfl rfl (Vw rfl (ldA rfl ZP hB) (mvV rfl rfl (Vw rfl (bld rfl (Qcp g (.int .i64 n) v pv (QB hg1) (QB hp1))) (mvV rfl rfl (STB (vs := [g, .int .i64 n, v, pv]) (cs' := [g, .int .i64 n, v, pv]) rfl wu rfl rfl rfl sv117 nofun hC oc4 rfl rfl rfl ?_))))))
 intro w9 hg9 hX9 hC9
 refine Qk rfl rfl (Qd (Qa (Qq ?_)))
 have hG9 : Gr [rb] w8 w9 := Gr.of_grown hg9 (fun k hk => by simp [Option.some.inj hk])
 refine QJ rfl rfl rfl ag117 hC9 rfl ?_
 have hEall := (hE0.trans hE7).trans hE8
 exact ⟨hX9 w (by omega) hEall, g, pv, rfl, hg1, Own.mono (Own.gr hpv hG9 (fun k hk e => by have := (Own.lt hpv k hk).1; have := List.mem_singleton.1 e; omega)) hz46⟩
theorem spCheck (p M : Int) (mo v : Value) (md : List Int) (n : Nat) (L : List (List Int)) (w : World) (ok : OkF p M md) (hmd : Ints w mo md) (hL : LL w v L) (hM : MV (fpOf p M md ok.1.1 ok.1.2.1) n L) (hcan : (Ml.canonM (opsP (fpOf p M md ok.1.1 ok.1.2.1)) L n).1 = L) :
  Calls Tryz.prog 68 #[fv0 p M mo, .agg #[.int .i64 n, v]] w (RetX w fun r _ => r = .int .i64 0) := by
 have hv1 := hL.one
 have hvc := QB hv1
 refine QD Tryz.func68 rfl rfl (Qc (Qb [0,1,2] rfl (BXA rfl wu rfl rfl ?_)))
 intro fb w1 hE1 hF hfb
 refine BXA rfl wu rfl rfl ?_
 intro mb w2 hE2 hB hmb
 replace hF := hF.ext hE2
 refine Qk rfl rfl (Qd (Qa (Qc ?_)))
 have hE := hE1.trans hE2
 refine Qb [0,1,2,3,4,5,6,7,8] rfl (Vw rfl (ldA rfl Zf hF) (Vw rfl (ldA rfl ZP hB) (C rfl wu rfl rfl Tryz.call70 (spOpen p M mo v md n L _ ok (hmd.ext hE) (hL.ext hE) hM hcan) ?_)))
 rintro _ w3 hE3 ⟨g, pv, rfl, hg1, hpv⟩
 refine mvV rfl rfl (QI rfl rfl rfl (QI rfl rfl rfl ?_))
 have hp1 := (OwnI.ints hpv).one
 refine AL rfl wu rfl zv117 ?_
 intro lb w4 hE4 hLb hlb
 refine STB (vs := [g, .int .i64 n, v, pv]) (cs' := [g, .int .i64 n, v, pv]) rfl wu rfl rfl rfl sv117 nofun hLb oc4 rfl rfl rfl ?_
 intro w5 hg5 hX5 hL5
 refine Qk rfl rfl (Qd (Qa (Qc (Qb [0,1] rfl (mvV rfl rfl (Qk rfl rfl (Qd (Qa (Qq (Qj rfl rfl ?_))))))))))
 exact ⟨(hE.trans hE3).trans (hX5 w3 hlb hE4), rfl⟩
theorem Qa9 (p M : Int) (mo v : Value) (md : List Int) (n : Nat) (L : List (List Int)) (w : World) (ok : OkF p M md) (hmd : Ints w mo md) (hL : LL w v L) (hM : MV (fpOf p M md ok.1.1 ok.1.2.1) n L) (hcan : (Ml.canonM (opsP (fpOf p M md ok.1.1 ok.1.2.1)) L n).1 = L) (h1 : 1 ≤ n) (h2 : n ≤ 64) :
  Calls Tryz.prog 38 #[.agg #[.int .i64 p, .int .i64 M, mo, .int .i64 n, v]] w (RetX w fun r _ => r = .int .i64 0) := by
 have hv1 := hL.one
 have hm1 := hmd.one
 have hvc := QB hv1
 refine QL Tryz.func38 rfl rfl (Qc (Qb [0,1] rfl (BXA rfl wu rfl rfl ?_)))
 intro cb w1 hE hB hcb
 refine Qk rfl rfl (Qd (Qa (Qc (Qc (Qb [0,1,2,3] rfl (Qz rfl rfl Zy (Vw rfl (ldA rfl Zf hB) (C rfl wu rfl rfl Tryz.call66 (fCheckOk p M mo md _ ok (hmd.ext hE)) ?_))))))))
 rintro _ w2 hE2 rfl
 replace hB := hB.ext hE2
 replace hE := hE.trans hE2
 refine QG rfl rfl rfl (Qd (Qa (Qn rfl (rfl) (Qe (Qa (Qc (Qc (Qb [0,1,2,3] rfl (Qz rfl rfl Zr (Vw rfl (ldB rfl na3 hB) (C rfl wu rfl rfl Tryz.call67 (Qc1 n _ (by omega) (by omega)) ?_)))))))))))
 rintro _ w3 hE3 rfl
 replace hB := hB.ext hE3
 replace hE := hE.trans hE3
 refine Qk rfl rfl (Qd (Qa (Qc (Qb [0,1] rfl (mvV rfl rfl (QG rfl rfl rfl (Qd (Qa (Qn rfl (rfl) (Qe (Qa (Qc (Qx QK [0,1,2,3,4,5] (by kernel_rfl) ?_)))))))))))))
 intro w4 hd _
 replace hE := hE.trans hd
 replace hB := hB.ext hd
 refine Qz rfl rfl Zy (Vw rfl (ldA rfl Zf hB) (Vw rfl (ldA rfl Jx hB) (C rfl wu rfl rfl Tryz.call69 (cdGen p M mo n v _ hm1 hv1) ?_)))
 rintro _ w5 hE5 rfl
 replace hE := hE.trans hE5
 refine C rfl wu rfl rfl Tryz.call68 (spCheck p M mo v md n L _ ok (hmd.ext hE) (hL.ext hE) hM hcan) ?_
 rintro _ w6 hE6 rfl
 replace hE := hE.trans hE6
 refine Qk rfl rfl (Qd (Qa (Qq (Qj rfl rfl ?_))))
 exact ⟨hE, rfl⟩
set_option maxRecDepth 10000 in
theorem cdNew (p M : Int) (mo v : Value) (md : List Int) (n : Nat) (L : List (List Int)) (w : World) (ok : OkF p M md) (hmd : Ints w mo md) (hml : md.length ≤ 1000000) (hL : LL w v L) (hM : MV (fpOf p M md ok.1.1 ok.1.2.1) n L) (h1 : 1 ≤ n) (h2 : n ≤ 64) :
  Calls Tryz.prog 40 #[fv0 p M mo, .agg #[.int .i64 n, v]] w (RetX w fun r w' => ∃ mo' lv, r = .tuple #[.agg #[.int .i64 p, .int .i64 M, mo', .int .i64 n, lv], .int .i64 0] ∧ OwnI w.heap.size w' mo' 3 md ∧ LLB w.heap.size w' lv (Ml.canonM (opsP (fpOf p M md ok.1.1 ok.1.2.1)) L n).1) := by
 have hv1 := hL.one
 have hvc := QB hv1
 refine QD Tryz.func40 rfl rfl (Qc (Qb [0,1,2,3] rfl (BXA rfl wu rfl rfl ?_)))
 intro fb w1 hE1 hF hfb
 refine BXA rfl wu rfl rfl ?_
 intro mb w2 hE2 hB hmb
 replace hF := hF.ext hE2
 refine AL rfl wu rfl Qc5 ?_
 intro rb w3 hE3 hC hrb
 replace hF := hF.ext hE3
 replace hB := hB.ext hE3
 refine Qk rfl rfl (Qd (Qa (Qc ?_)))
 have hE := (hE1.trans hE2).trans hE3
 have hz1 := hE1.size
 have hz2 := hE2.size
 have hz3 := hE.size
 refine Qb [0,1,2,3,4,5,6,7,8,9,10] rfl (Vw rfl (ldA rfl Zf hF) (Vw rfl (ldA rfl ZP hB) (C rfl wu rfl rfl Tryz.call75 (JZ p M mo v md n L _ ok (hmd.ext hE) (hL.ext hE) hM) ?_)))
 rintro _ w4 hE4 ⟨lv, pv, rfl, hlv, hpv⟩
 refine mvV rfl rfl (QI rfl rfl rfl (QI rfl rfl rfl (QI rfl rfl rfl ?_)))
 have hl1 := hlv.one
 refine AL rfl wu rfl KW ?_
 intro lb w5 hE5 hLb hlb
 refine STB (vs := [.int .i64 n, lv]) (cs' := [.int .i64 n, lv]) rfl wu rfl rfl rfl JN nofun hLb oc2 rfl rfl rfl ?_
 intro w6 hg6 hX6 hL6
 refine Qk rfl rfl (Qk rfl rfl (Qd (Qa (Qc (Qc ?_)))))
 have hE6 := hX6 w4 hlb hE5
 have hE46 := hE4.trans hE6
 have hE0 := hE.trans hE46
 replace hF := hF.ext hE46
 replace hB := hB.ext hE46
 have hlC := hC.lt
 replace hC := hC.ext hE46
 replace hlv := hlv.ext hE6
 refine Qb [0,1] rfl (mvV rfl rfl (QU rfl rfl rfl (Qd (Qa (QC rfl (rfl) (Qb [0,1,2,3] rfl (Qz rfl rfl QV (Vw rfl (ldB rfl na3 hB) (C rfl wu rfl rfl Tryz.call67 (Qc1 n _ (by omega) (by omega)) ?_)))))))))
 rintro _ w7 hE7 rfl
 refine Qk rfl rfl (Qd (Qa (Qc ?_)))
 replace hF := hF.ext hE7
 replace hC := hC.ext hE7
 replace hL6 := hL6.ext hE7
 replace hlv := hlv.ext hE7
 have hE07 := hE0.trans hE7
 have hz7 := (hE46.trans hE7).size
 refine Qb [0,1,2,3,4,5,6,7] rfl (Vw rfl (ldA rfl Zf hF) (Vw rfl (ldA rfl ZP hL6) (mvV rfl rfl (C rfl wu rfl rfl Tryz.call76 (cdOf p M mo md n lv _ (hmd.ext hE07) hml hl1) ?_))))
 rintro _ w8 hE8 ⟨mo', rfl, ho8⟩
 refine QI rfl rfl rfl (QI rfl rfl rfl ?_)
 have hm1 := (OwnI.ints ho8).one
 refine STB (vs := [.int .i64 p, .int .i64 M, mo', .int .i64 n, lv]) (cs' := [.int .i64 p, .int .i64 M, mo', .int .i64 n, lv]) rfl wu rfl rfl rfl QbS nofun (hC.ext hE8) oc5 rfl rfl rfl ?_
 intro w9 hg9 hX9 hC9
 refine Qk rfl rfl (Qd (Qa (Qq ?_)))
 have hG9 : Gr [rb] w8 w9 := Gr.of_grown hg9 (fun k hk => by simp [Option.some.inj hk])
 refine QJ rfl rfl rfl Jx hC9 rfl ?_
 exact ⟨hX9 w (by omega) (hE07.trans hE8), mo', lv, rfl, Own.mono (Own.gr ho8 hG9 (fun k hk e => by have := (Own.lt ho8 k hk).1; have := List.mem_singleton.1 e; omega)) (by omega), ((hlv.ext hE8).gr hG9 (fun k hk => by rw [List.mem_singleton.1 hk]; exact hlC)).mono hz3⟩
end Go.Proofs.YtcfbigmjjpknfaaGreatDoor
namespace Go.Sx
open Go Go.RowKit Go.Pl
theorem OM.app {B B' : Nat} {w w1 w' : World} {v0 v r0 : Value} {E E' : TypeId} {rows : List Value} {L : List (List Int)} {zs : List Int} (h : OM B w v0 E E' rows L) (hr : OwnI B' w r0 E' zs) (hb : ∀ k ∈ bks v0 rows, k < w1.heap.size) (hB : w1.heap.size ≤ B') (hBB : B ≤ B')
  (hg : w.grownBy w' v0.ownBlock) (ho : Own B w' v E (rows ++ [r0])) (hv : v.ownBlock = v0.ownBlock ∨ v.ownBlock = some w.heap.size) : OM B w' v E E' (rows ++ [r0]) (L ++ [zs]) := by
 have hlen := h.len
 have hkp : ∀ {B2 : Nat} {r : Value} {z : List Int}, OwnI B2 w r E' z → (∀ k, r.ownBlock = some k → v0.ownBlock ≠ some k) → OwnI B2 w' r E' z := fun {B2 r z} ho hn => Own.kept ho hg (by
  cases hb : r.ownBlock with
  | none => exact .inr rfl
  | some k => exact .inl fun e => hn k hb e.symm)
 have hr0 : ∀ k, r0.ownBlock = some k → w1.heap.size ≤ k ∧ k < w.heap.size := fun k hk => by
  have := Own.lt hr k hk
  omega
 have hnv0 : ∀ k, r0.ownBlock = some k → v0.ownBlock ≠ some k := fun k hk e => by
  have := hb k (QQ.2 (.inl e))
  have := hr0 k hk
  omega
 have hnv : ∀ (r : Value) (k : Nat), (∀ k, r.ownBlock = some k → v0.ownBlock ≠ some k) → (∀ k, r.ownBlock = some k → k < w.heap.size) → r.ownBlock = some k → v.ownBlock ≠ some k := fun r k h1 h2 hk e => by
  rcases hv with hv | hv
  ·exact h1 k hk (by rw [← hv]; exact e)
  ·rw [hv] at e
   have := h2 k hk
   have := Option.some.inj e
   omega
 have hget : ∀ (i : Nat) (r : Value), (rows ++ [r0])[i]? = some r → (i < rows.length ∧ rows[i]? = some r) ∨ (i = rows.length ∧ r = r0) := fun i r hi => by
  rcases Nat.lt_or_ge i rows.length with h1 | h1
  ·rw [List.getElem?_append_left h1] at hi
   exact .inl ⟨h1, hi⟩
  ·rw [List.getElem?_append_right h1] at hi
   have h2 := (List.getElem?_eq_some_iff.1 hi).1
   simp at h2
   have h3 : i - rows.length = 0 := by omega
   rw [h3] at hi
   exact .inr ⟨by omega, by simpa using hi.symm⟩
 have hlt : ∀ (i : Nat) (r : Value) k, rows[i]? = some r → r.ownBlock = some k → k < w1.heap.size ∧ k < w.heap.size := fun i r k hi hk => ⟨hb k (QQ.2 (.inr ⟨r, List.mem_of_getElem? hi, hk⟩)), (h.bk k (QQ.2 (.inr ⟨r, List.mem_of_getElem? hi, hk⟩))).2⟩
 refine ⟨ho, by simp [hlen], fun i r z a b => ?_, fun i r k a hk => ?_, fun i j r r' k a b hk hk' => ?_⟩
 ·rcases hget i r a with ⟨hi, a⟩ | ⟨rfl, rfl⟩
  ·rw [List.getElem?_append_left (by omega)] at b
   exact hkp (h.row i r z a b) (fun k hk => h.out i r k a hk)
  ·rw [List.getElem?_append_right (by omega)] at b
   have e : rows.length - L.length = 0 := by omega
   rw [e] at b
   obtain rfl : zs = z := by simpa using b
   exact Own.mono (hkp hr hnv0) hBB
 ·rcases hget i r a with ⟨hi, a⟩ | ⟨rfl, rfl⟩
  ·exact hnv r k (fun k hk => h.out i r k a hk) (fun k hk => (hlt i r k a hk).2) hk
  ·exact hnv r k hnv0 (fun k hk => (hr0 k hk).2) hk
 ·rcases hget i r a with ⟨hi, a'⟩ | ⟨rfl, rfl⟩ <;> rcases hget j r' b with ⟨hj, b'⟩ | ⟨rfl, rfl⟩
  ·exact h.apart i j r r' k a' b' hk hk'
  ·have := (hlt i r k a' hk).1
   have := (hr0 k hk').1
   omega
  ·have := (hlt j r' k b' hk').1
   have := (hr0 k hk).1
   omega
  ·rfl
theorem Qco {v0 v r0 : Value} {rows : List Value} {w : World} (hv : v.ownBlock = v0.ownBlock ∨ v.ownBlock = some w.heap.size) {b : Nat} (hb : b ∈ bks v (rows ++ [r0])) : b ∈ bks v0 rows ∨ r0.ownBlock = some b ∨ b = w.heap.size := by
 rcases QQ.1 hb with h | ⟨r, hr, h⟩
 ·rcases hv with hv | hv
  ·exact .inl (QQ.2 (.inl (by rw [← hv]; exact h)))
  ·rw [hv] at h
   exact .inr (.inr (Option.some.inj h).symm)
 ·rcases List.mem_append.1 hr with hr | hr
  ·exact .inl (QQ.2 (.inr ⟨r, hr, h⟩))
  ·rw [List.mem_singleton.1 hr] at h
   exact .inr (.inl h)
section
variable {P : Program} {N : Nat} {l : Env} {w : World} {ops : Array Oper} {dr : Bool} {Q : Act → World → Prop} {π : List Nat} {i d : Nat} {v : Value} {op : Op} {ty : TypeId} {pos : String} {after : Array Edge} {g : Option (Nat × Bool)}
variable {x y : Operand} {T : TypeId}
theorem APOM {v0 v1 r0 : Value} {B B' b : Nat} {E E' : TypeId} {rows : List Value} {L : List (List Int)} {zs : List Int} {w1 : World} (hi : ops[i]? = some ⟨some d, .call ⟨.builtin .append, #[x, y], #[T, T]⟩, ty, pos, after, g⟩) (hw : Wt ops N l g) (hd : Nat.blt d N = true) (hx : ev l x = some v0) (hy : ev l y = some v1)
  (hT : SlT P T E (.slice none 0 0) 1 b) (htl : dr = true → isTail ops i = false → Ext w w → v0.ownBlock = none) (ho : OM B w v0 E E' rows L) (hs : Sl w v1 [r0]) (hr : OwnI B' w r0 E' zs) (hb : ∀ k ∈ bks v0 rows, k < w1.heap.size) (hB : w1.heap.size ≤ B') (hBB : B ≤ B') (hBw : B ≤ w.heap.size) (hlen : (L.length + 1) * b ≤ 140737488355328)
  (h : ∀ v w', w.grownBy w' v0.ownBlock → OM B w' v E E' (rows ++ [r0]) (L ++ [zs]) → (v.ownBlock = v0.ownBlock ∨ v.ownBlock = some w.heap.size) → WR P N ops dr Q π ((d, v) :: l) w') (hlen1 : L.length + 1 ≤ 140737488355328 := by omega) : WR P N ops dr Q (i :: π) l w := by
 have hl := ho.len
 refine AP hi hw hd hx hy hT rfl htl ho.own hBw hs (Ext.refl _) (fun u hu => ?_) (by rw [hl]; exact hlen) (by rw [hl]; exact hlen1) (fun v w' hg _ ho' hv => h v w' hg (ho.app hr hb hB hBB hg ho' hv) hv)
 rw [List.mem_singleton.1 hu]
 exact (OwnI.ints hr).one
end
end Go.Sx
namespace Go.Proofs.YtcfbigmjjpknfaaGreatDoor
open Go Go.Sx Go.Pl Go.RowKit Go.Fd Go.Alg
theorem Qbw {c : Nat} {ps : List Nat} : ((c : Int) ∈ ps.map Int.ofNat) ↔ c ∈ ps := by
 refine ⟨fun h => ?_, fun h => List.mem_map.2 ⟨c, h, rfl⟩⟩
 obtain ⟨a, ha, e⟩ := List.mem_map.1 h
 have : a = c := Int.ofNat.inj e
 rw [← this]
 exact ha
theorem sIndex (v : Value) (zs : List Int) (x : Int) (w : World) (hu : Ints w v zs) :
  Calls Tryz.prog 59 #[v, .int .i64 x] w (RetX w fun r _ => ∃ k : Int, r = .int .i64 k ∧ (0 ≤ k ↔ x ∈ zs) ∧ (0 ≤ k → k < zs.length ∧ gi zs k = x)) := by
 have hle := hu.le
 refine QD Tryz.func59 rfl rfl (Qc (Qb [0] rfl (Qk rfl rfl (Qd (Qa (Qc (Qc (Qb [0,1,2] rfl (mvV rfl rfl (Vw rfl (Zh rfl QA hu) (mvV rfl rfl (Qd (Qa (Qf ?_))))))))))))))
 refine Qv (fun i : Nat => [(0, v), (1, .int .i64 x), (7, .int .i64 zs.length), (8, .int .i64 i)]) (fun i w' => i ≤ zs.length ∧ w' = w ∧ ∀ j : Nat, j < i → gi zs j ≠ x) (fun i => zs.length - i) 0 ⟨rfl, rfl, rfl, rfl, trivial⟩ ⟨by omega, rfl, fun j hj => by omega⟩ ?_
 rintro i w2 ⟨i1, rfl, hno⟩
 try dsimp only
 refine Qc (Qb [0] rfl (Qy rfl rfl rfl (Qd (Qa (Qc (Qo rfl ?_ ?_))))))
 ·intro hc
  simp at hc
  refine Qe (Qa (Qc (Qf (Qc (Qb [0,1] rfl (mvV rfl rfl (Qk rfl rfl (Qd (Qa (Qc (Qb [0,1,2,3,4,5] rfl (mvV rfl rfl (mvV rfl rfl (mvV rfl rfl (Vw rfl (QO rfl rfl QA hu (by omega) (by omega)) ?_)))))))))))))))
  refine Vw rfl (ldI rfl na3 hu (Ext.refl _) (by omega) (by omega)) (QU rfl rfl rfl (Qd (Qa (Qo rfl ?_ ?_))))
  ·intro he
   simp at he
   refine Qc (Qb [0,1] rfl (mvV rfl rfl (Qk rfl rfl (Qd (Qa (Qq (Qu (Qp (QE (Qu (Qp (Qj rfl rfl ?_))))))))))))
   refine ⟨Ext.refl _, i, rfl, ⟨fun _ => ?_, fun _ => by omega⟩, fun _ => ⟨by omega, he.symm⟩⟩
   rw [he]
   have : gi zs i = zs[i]'(by omega) := by simp [gi, List.getD_eq_getElem?_getD, show i < zs.length by omega]
   rw [this]
   exact List.getElem_mem _
  ·intro he
   simp at he
   refine Qe (Qg (Qa (Qb [0,1] rfl (Qw rfl rfl rfl (mvV rfl rfl (Qd (Qi (i + 1) ⟨rfl, rfl, rfl, rfl, trivial⟩ ⟨by omega, rfl, fun j hj => ?_⟩ (by omega))))))))
   by_cases e : j = i
   ·subst e; exact fun h => he h.symm
   ·exact hno j (by omega)
 ·intro hc
  simp at hc
  refine Qt (Ql (Qm (Qh (Qa (Qc (Qb [0] rfl (Qk rfl rfl (Qd (Qa (Qq (Qj rfl rfl ?_)))))))))))
  refine ⟨Ext.refl _, -1, rfl, ⟨fun h => by omega, fun h => ?_⟩, fun h => by omega⟩
  exfalso
  obtain ⟨j, hj, e⟩ := List.getElem_of_mem h
  refine hno j (by omega) ?_
  rw [← e]
  simp [gi, List.getD_eq_getElem?_getD, hj]
theorem ZX (v : Value) (zs : List Int) (x : Int) (w : World) (hu : Ints w v zs) :
  Calls Tryz.prog 30 #[v, .int .i64 x] w (RetX w fun r _ => r = .bool (decide (x ∈ zs))) := by
 refine QD Tryz.func30 rfl rfl (Qc (Qb [0] rfl (Qk rfl rfl (Qd (Qa (Qc (Qb [0,1,2,3,4] rfl (mvV rfl rfl (mvV rfl rfl (C rfl wu rfl rfl Tryz.call59 (sIndex v zs x _ hu) ?_))))))))))
 rintro _ w2 hE2 ⟨k, rfl, hk, _⟩
 refine Vw rfl (Xb rfl rfl) (Qk rfl rfl (Qd (Qa (Qq (Qj rfl rfl ?_)))))
 exact ⟨hE2, by simp [hk]⟩
set_option maxRecDepth 10000 in
theorem Ki (p M : Int) (mo v : Value) (md : List Int) (n : Nat) (L : List (List Int)) (w : World) (ok : OkF p M md) (hmd : Ints w mo md) (hL : LL w v L) (hM : MV (fpOf p M md ok.1.1 ok.1.2.1) n L) :
  Calls Tryz.prog 73 #[fv0 p M mo, .agg #[.int .i64 n, v]] w (RetX w fun r w' => ∃ kv, r = .tuple #[.agg #[.int .i64 n, kv], .int .i64 0] ∧ LLB w.heap.size w' kv (Ml.kernelM (opsP (fpOf p M md ok.1.1 ok.1.2.1)) L n)) := by
 have hv1 := hL.one
 have hn1 := hM.n1
 have hlen := hM.len
 have hR : Ml.RL n L := fun l hl => by have := hM.row l hl; omega
 have hvc := QB hv1
 refine QD Tryz.func73 rfl rfl (Qc (Qb [0,1,2,3] rfl (BXA rfl wu rfl rfl ?_)))
 intro fb w1 hE1 hF hfb
 refine BXA rfl wu rfl rfl ?_
 intro mb w2 hE2 hB hmb
 replace hF := hF.ext hE2
 refine AL rfl wu rfl Qc4 ?_
 intro rb w3 hE3 hC hrb
 replace hF := hF.ext hE3
 replace hB := hB.ext hE3
 refine Qk rfl rfl (Qd (Qa (Qc ?_)))
 have hE := (hE1.trans hE2).trans hE3
 have hz1 := hE1.size
 have hz2 := hE2.size
 have hlC := hC.lt
 refine Qb [0,1,2,3,4,5,6,7,8] rfl (Vw rfl (ldA rfl Zf hF) (Vw rfl (ldA rfl ZP hB) (BSV (r := [.int .i64 n, v]) rfl wu rfl rfl XX rfl (by decide) (by decide) ?_)))
 intro lv w4 hE4 hlv
 refine C rfl wu rfl rfl Tryz.call101 (Qam p M mo v lv md n L _ ok ((hmd.ext hE).ext hE4) hlv hv1 ((hL.ext hE).ext hE4) hM) ?_
 rintro _ w5 hE5 ⟨g, rfl, hG⟩
 refine mvV rfl rfl (QI rfl rfl rfl (QI rfl rfl rfl (Qk rfl rfl (Qk rfl rfl (Qd (Qa (Qc (Qc (Qb [0,1] rfl (mvV rfl rfl (QG rfl rfl rfl (Qd (Qa ?_)))))))))))))
 refine Qn rfl (rfl) (Qe (Qa (Qc ?_)))
 have hE45 := hE4.trans hE5
 replace hB := hB.ext hE45
 replace hC := hC.ext hE45
 replace hE := hE.trans hE45
 refine Qb [0,1,2,3,4,5,6,7,8,9,10] rfl (mvV rfl rfl (Qz rfl rfl QR (Vw rfl (ldB rfl Zm hB) (Qz rfl rfl QV (Vw rfl (ldB rfl na3 hB) (C rfl wu rfl rfl Tryz.call110 (Qb7 _ g v L n n _ hG (hL.ext hE) hR (Nat.le_refl _) (by omega) (by omega)) ?_))))))
 rintro _ w6 hE6 ⟨lv2, pv, rfl, hlv2, hpv⟩
 refine mvV rfl rfl (QI rfl rfl rfl (QI rfl rfl rfl (Qk rfl rfl (Qk rfl rfl (Qd (Qa (Qc ?_)))))))
 have hcl := Ml.canonM_len (o := opsP (fpOf p M md ok.1.1 ok.1.2.1)) (rows := L) (cols := n)
 have hcR := Ml.canonM_RL (o := opsP (fpOf p M md ok.1.1 ok.1.2.1)) (cols := n) hR
 have hct := Ml.canonM_lt (o := opsP (fpOf p M md ok.1.1 ok.1.2.1)) (rows := L) (cols := n)
 have hke := Ml.kernelM_eq (o := opsP (fpOf p M md ok.1.1 ok.1.2.1)) (rows := L) (cols := n)
 generalize (Ml.canonM (opsP (fpOf p M md ok.1.1 ok.1.2.1)) L n).1 = R at *
 generalize (Ml.canonM (opsP (fpOf p M md ok.1.1 ok.1.2.1)) L n).2 = ps at *
 replace hB := hB.ext hE6
 replace hC := hC.ext hE6
 replace hE := hE.trans hE6
 replace hG := hG.ext hE6
 have hzE := hE.size
 have hpi := OwnI.ints hpv
 obtain ⟨rs, hsl, hrl, hrow⟩ := hlv2.ll.row
 have hpl : (ps.map Int.ofNat).length = ps.length := by simp
 refine Qb [0] rfl (Qk rfl rfl (Qd (Qa (Qc (Qc (Qb [0,1,2] rfl (Qz rfl rfl QV (Vw rfl (ldB rfl na3 hB) (mvV rfl rfl (Qd (Qa (Qf ?_))))))))))))
 refine Qv (fun s : Nat × Value × List Value => [(3, .pointer (some ⟨mb, 0, none⟩)), (4, .pointer (some ⟨rb, 0, none⟩)), (6, g), (8, lv2), (9, pv), (10, s.2.1), (36, .int .i64 n), (37, .int .i64 s.1)])
  (fun s w' => s.1 ≤ n ∧ Ext w6 w' ∧ OM w6.heap.size w' s.2.1 22 3 s.2.2 (Ml.kerRows (opsP (fpOf p M md ok.1.1 ok.1.2.1)) R ps n s.1)) (fun s => n - s.1) (0, .slice none 0 0, []) ⟨rfl, rfl, rfl, rfl, rfl, rfl, rfl, rfl, trivial⟩ ⟨by omega, Ext.refl _, OM.nil _ _ _ _⟩ ?_
 rintro ⟨c, ov, rws⟩ wi ⟨c1, hEi, hom⟩
 dsimp only at c1 hEi hom
 have hBi := hB.ext hEi
 have hGi := hG.ext hEi
 have hpii := hpi.ext hEi
 try dsimp only
 refine Qc (Qb [0] rfl (Qy rfl rfl rfl (Qd (Qa (Qc (Qo rfl ?_ ?_))))))
 ·intro hc
  simp at hc
  refine Qe (Qa (Qc (Qf (Qc (Qb [0,1] rfl (mvV rfl rfl (Qk rfl rfl (Qd (Qa (Qc (Qc (Qb [0,1,2] rfl (mvV rfl rfl (mvV rfl rfl (C rfl wu rfl rfl Tryz.call30 (ZX pv _ c _ hpii) ?_)))))))))))))))
  rintro _ w9 hE9 rfl
  refine Qd (Qa (Qo rfl ?_ ?_))
  ·intro hin
   have hin' : c ∈ ps := Qbw.1 (of_decide_eq_true hin)
   refine Qt (Ql (Qh (Qa (Qb [0,1] rfl (Qw rfl rfl rfl (mvV rfl rfl (Qd (Qi (c + 1, ov, rws) ⟨rfl, rfl, rfl, rfl, rfl, rfl, rfl, rfl, trivial⟩ ⟨by dsimp only; omega, hEi.trans hE9, ?_⟩ (by dsimp only; omega)))))))))
   dsimp only
   rw [Ml.kerRows_yes hin']
   exact hom.ext hE9
  ·intro hin
   have hin' : c ∉ ps := fun h => by rw [decide_eq_true (Qbw.2 h)] at hin; cases hin
   have hE69 := hEi.trans hE9
   have hz69 := hE69.size
   replace hom := hom.ext hE9
   refine Qe (Qa (Qc (Qb [0,1,2,3] rfl (Qz rfl rfl QV (Vw rfl (ldB rfl na3 (hB.ext hE69)) (MKI (n := n) rfl wu rfl rfl QA ?_))))))
   intro xv wa hEa hxa hxi hxb
   refine Qk rfl rfl (Qd (Qa (Qc (Qb [0,1,2,3] rfl (mvV rfl rfl (mvV rfl rfl (Vw rfl (QO rfl rfl QA hxi (by omega) (by rw [Qs]; omega)) (STI rfl wu rfl rfl sz3 nofun ?_ (ho := hxa) (h0 := by omega) (h1 := by rw [Qs]; omega)))))))))
   intro wb hgb hXb hOb hIb
   refine Qd (Qa (Qc (Qc ?_)))
   have hEb := hXb w9 (Nat.le_refl _) hEa
   have hpib := hpi.ext (hE69.trans hEb)
   refine Qb [0,1,2] rfl (mvV rfl rfl (Vw rfl (Zh rfl QA hpib) (mvV rfl rfl (Qd (Qa (Qf ?_))))))
   rw [hpl]
   refine Qv (fun i : Nat => [(3, .pointer (some ⟨mb, 0, none⟩)), (4, .pointer (some ⟨rb, 0, none⟩)), (6, g), (8, lv2), (9, pv), (10, ov), (11, .int .i64 c), (12, xv), (36, .int .i64 n), (37, .int .i64 c), (49, pv), (50, .int .i64 ps.length), (51, .int .i64 i)])
    (fun i w' => i ≤ ps.length ∧ Ext w9 w' ∧ OwnI w9.heap.size w' xv 3 (Ml.kerFold (opsP (fpOf p M md ok.1.1 ok.1.2.1)) R ps n c i)) (fun i => ps.length - i) 0 ⟨rfl, rfl, rfl, rfl, rfl, rfl, rfl, rfl, rfl, rfl, rfl, rfl, rfl, trivial⟩ ⟨by omega, hEb, hOb⟩ ?_
   clear hEb hOb hIb hxa hxi hpib hEa
   rintro i wj ⟨i1, hEj, hxo⟩
   have hfl := Ml.kerFold_length (o := opsP (fpOf p M md ok.1.1 ok.1.2.1)) (rows := R) (ps := ps) (cols := n) (c := c) i
   try dsimp only
   refine Qc (Qb [0] rfl (Qy rfl rfl rfl (Qd (Qa (Qc (Qo rfl ?_ ?_))))))
   ·intro hi
    simp at hi
    obtain ⟨r, hri, hrr⟩ := hrow i (by omega)
    have hE6j := hE69.trans hEj
    have hpij := hpi.ext hE6j
    have hrl' := hcR.get (i := i) (by omega)
    have hpc := hct (ps.getD i 0) (by rw [List.getD_eq_getElem?_getD, List.getElem?_eq_getElem hi]; exact List.getElem_mem _)
    refine Qe (Qa (Qc (Qf (Qc (Qb [0,1,2,3,4] rfl (mvV rfl rfl (Vw rfl (QO rfl rfl QA hpij (by omega) (by omega)) (Vw rfl (ldI rfl na3 hpij (Ext.refl _) (by omega) (by omega)) (Qk rfl rfl (Qk rfl rfl (Qd (Qa ?_))))))))))))
    rw [Ml.gi_ofNat hi]
    refine Qb [0,1,2,3,4,5,6,7,8,9,10,11,12] rfl (mvV rfl rfl (mvV rfl rfl (mvV rfl rfl (mvV rfl rfl (mvV rfl rfl (Vw rfl (iad rfl rfl QN (hsl.ext hE6j) (by omega) (by omega)) (Vw rfl (ldE rfl Zk (hsl.ext hE6j) (by rw [Int.toNat_natCast]; exact hri) (Ext.refl _)) (mvV rfl rfl (Vw rfl (QO rfl rfl QA (hrr.ext hE6j) (by omega) (by omega)) ?_)))))))))
    refine Vw rfl (ldI rfl na3 (hrr.ext hE6j) (Ext.refl _) (by omega) (by omega)) (C rfl wu rfl rfl Tryz.call34 (gNeg _ g _ _ (hG.ext hE6j)) ?_)
    rintro _ wk hEk rfl
    replace hxo := OwnI.ext hxo hEk
    have hxi := OwnI.ints hxo
    refine Vw rfl (QO rfl rfl QA hxi (by omega) (by omega)) (STI rfl wu rfl rfl sz3 nofun ?_ (ho := hxo) (h0 := by omega) (h1 := by omega))
    intro wl hgl hXl hOl hIl
    refine Qd (Qg (Qa (Qb [0,1] rfl (Qw rfl rfl rfl (mvV rfl rfl (Qd (Qi (i + 1) ⟨rfl, rfl, rfl, rfl, rfl, rfl, rfl, rfl, rfl, rfl, rfl, rfl, rfl, trivial⟩ ⟨by omega, hXl w9 (Nat.le_refl _) (hEj.trans hEk), ?_⟩ (by omega))))))))
    rw [Ml.kerFold_succ]
    exact hOl
   ·intro hi
    simp at hi
    obtain rfl : i = ps.length := by omega
    have hb9 := hom.bk
    have hkl := Ml.kerRows_length (o := opsP (fpOf p M md ok.1.1 ok.1.2.1)) (rows := R) (ps := ps) (cols := n) (c := c)
    have hzj := hEj.size
    refine Qt (Ql (Qm (Qh (Qa (Qb [0,1,2,3,4] rfl (mvV rfl rfl (mvV rfl rfl (BS (us := [xv]) rfl wu rfl rfl rfl rfl QN (by have := (OwnI.ints hxo).one; intro u hu; rw [List.mem_singleton.1 hu]; exact this) ?_))))))))
    intro tv wm hEm htv htb
    refine APOM (w1 := w9) rfl wu rfl rfl rfl QN nofun ((hom.ext hEj).ext hEm) htv.sl (OwnI.ext hxo hEm) (fun k hk => (hb9 k hk).2) (Nat.le_refl _) hz69 (by have := hEm.size; omega) (by omega) ?_
    intro ov2 wn hgn homn hbn
    refine Qk rfl rfl (Qd (Qg (Qa (Qb [0,1] rfl (Qw rfl rfl rfl (mvV rfl rfl (Qd (Qi (c + 1, ov2, rws ++ [xv]) ⟨rfl, rfl, rfl, rfl, rfl, rfl, rfl, rfl, trivial⟩ ⟨by dsimp only; omega, (hE69.trans (hEj.trans hEm)).grown hgn ((hom.ext hEj).ext hEm).own (Nat.le_refl _), ?_⟩ (by dsimp only; omega)))))))))
    dsimp only
    rw [Ml.kerRows_no hin', Ml.kerRow_eq]
    exact homn
 ·intro hc
  simp at hc
  obtain rfl : c = n := by omega
  have hkl := Ml.kerRows_length (o := opsP (fpOf p M md ok.1.1 ok.1.2.1)) (rows := R) (ps := ps) (cols := c) (c := c)
  have hkR := Ml.kerRows_RL (o := opsP (fpOf p M md ok.1.1 ok.1.2.1)) (rows := R) (ps := ps) (cols := c) c
  refine Qt (Ql (Qm (Qh (Qa (Qc (Qb [0,1,2,3,4,5,6,7,8] rfl (mvV rfl rfl (mvV rfl rfl (Qz rfl rfl QV (Vw rfl (ldB rfl na3 hBi) (C rfl wu rfl rfl Tryz.call110 (Qb7 _ g ov _ c c _ hGi hom.ll hkR (Nat.le_refl _) (by omega) (by omega)) ?_)))))))))))
  rintro _ w7 hE7 ⟨kv, pv2, rfl, hkv, hpv2⟩
  refine mvV rfl rfl (QI rfl rfl rfl (QI rfl rfl rfl (Qk rfl rfl (Qd (Qa (Qc ?_))))))
  have hkc := QB hkv.one
  have hE67 := hEi.trans hE7
  refine Qb [0,1,2,3,4,5] rfl (Qz rfl rfl QV (Vw rfl (ldB rfl na3 (hB.ext hE67)) (mvV rfl rfl (Vw rfl (bld rfl (QdE c kv hkc)) (STB (vs := [.int .i64 c, kv]) (cs' := [.int .i64 c, kv]) rfl wu rfl rfl rfl JN nofun (hC.ext hE67) (by have := hkv.one; intro v hv; simp only [List.mem_cons, List.not_mem_nil, or_false] at hv; rcases hv with rfl | rfl <;> first | rfl | assumption) rfl rfl rfl ?_)))))
  intro w8 hg8 hX8 hC8
  refine Qk rfl rfl (Qd (Qa (Qq ?_)))
  have hG8 : Gr [rb] w7 w8 := Gr.of_grown hg8 (fun k hk => by simp [Option.some.inj hk])
  refine QJ rfl rfl rfl ZP hC8 rfl ?_
  have hzi := hEi.size
  have hlC6 := hC.lt
  refine ⟨hX8 w (by omega) (hE.trans hE67), kv, rfl, ?_⟩
  rw [hke]
  exact (hkv.gr hG8 (fun k hk => by rw [List.mem_singleton.1 hk]; omega)).mono (by omega)
end Go.Proofs.YtcfbigmjjpknfaaGreatDoor
namespace Go.Proofs.YtcfbigmjjpknfaaGreatDoor
open Go Go.Sx Go.Pl Go.RowKit Go.Fd Go.Alg
set_option maxRecDepth 10000 in
theorem cdDual (p M : Int) (mo v : Value) (md : List Int) (n : Nat) (L : List (List Int)) (w : World) (ok : OkF p M md) (hmd : Ints w mo md) (hml : md.length ≤ 1000000) (hL : LL w v L) (hM : MV (fpOf p M md ok.1.1 ok.1.2.1) n L) (hcan : (Ml.canonM (opsP (fpOf p M md ok.1.1 ok.1.2.1)) L n).1 = L) (h1 : 1 ≤ n) (h2 : n ≤ 64) :
  Calls Tryz.prog 201 #[.agg #[.int .i64 p, .int .i64 M, mo, .int .i64 n, v]] w (RetX w fun r w' => ∃ mo' kv, r = .tuple #[.agg #[.int .i64 p, .int .i64 M, mo', .int .i64 n, kv], .int .i64 0] ∧ OwnI w.heap.size w' mo' 3 md ∧ LLB w.heap.size w' kv (Ml.kernelM (opsP (fpOf p M md ok.1.1 ok.1.2.1)) L n)) := by
 have hv1 := hL.one
 have hm1 := hmd.one
 have hvc := QB hv1
 refine QL Tryz.func201 rfl rfl (Qc (Qb [0,1,2] rfl (BXA rfl wu rfl rfl ?_)))
 intro cb w1 hE1 hB hcb
 refine AL rfl wu rfl Qc5 ?_
 intro rb w2 hE2 hC hrb
 replace hB := hB.ext hE2
 refine Qk rfl rfl (Qd (Qa (Qc (Qc ?_))))
 have hE := hE1.trans hE2
 have hz1 := hE1.size
 refine Qb [0,1,2] rfl (Vw rfl (ldA rfl Jx hB) (C rfl wu rfl rfl Tryz.call38 (Qa9 p M mo v md n L _ ok (hmd.ext hE) (hL.ext hE) hM hcan h1 h2) ?_))
 rintro _ w3 hE3 rfl
 refine Qk rfl rfl (Qd (Qa (Qc ?_)))
 replace hB := hB.ext hE3
 replace hC := hC.ext hE3
 replace hE := hE.trans hE3
 have hzE := hE.size
 have hlC := hC.lt
 refine Qb [0,1] rfl (mvV rfl rfl (QG rfl rfl rfl (Qd (Qa (Qn rfl (rfl) (Qe (Qa (Qc ?_))))))))
 refine Kn (σ := Nat × Value) (fun s => [(1, .pointer (some ⟨cb, 0, none⟩)), (2, .pointer (some ⟨rb, 0, none⟩)), (5, .pointer (some ⟨s.1, 0, none⟩)), (6, .int .i64 0)])
  (fun s w' => Ext w3 w' ∧ Blk w' s.1 39 #[.int .i64 n, s.2] ∧ LLB w3.heap.size w' s.2 (Ml.kernelM (opsP (fpOf p M md ok.1.1 ok.1.2.1)) L n)) ?_ ?_
 ·skip
  have hq := Ext.refl w3
  refine Ka QK (.br [0,1,2] (.br [3] (.leaf [4,5,6,7,8,9,10]) (.leaf [8,4,5,6,7,9,10])) (.leaf [8,3,4,5,6,7,9,10])) (by kernel_rfl) ?_
  intro w4 hd _
  replace hB := hB.ext hd
  replace hq := hq.trans hd
  refine Qc7 (Qz rfl rfl Zy (Vw rfl (ldA rfl Zf hB) (Vw rfl (ldA rfl Jx hB) (Qc8 ?_ ?_))))
  ·skip
   refine Qc7 (C rfl wu rfl rfl Tryz.call69 (cdGen p M mo n v _ hm1 hv1) ?_)
   rintro _ wa hEa rfl
   replace hq := hq.trans hEa
   replace hB := hB.ext hEa
   try replace hmB := hmB.ext hEa
   refine Qc8 ?_ ?_
   ·skip
    refine Jf ?_
    have hq4 := hq.size
    try have hmlt := hmB.lt
    refine C rfl wu rfl rfl Tryz.call73 (Ki p M mo v md n L _ ok ((hmd.ext hE).ext hq) ((hL.ext hE).ext hq) hM) ?_
    rintro _ wa hEa ⟨kv, rfl, hkv⟩
    replace hq := hq.trans hEa
    replace hB := hB.ext hEa
    try replace hmB := hmB.ext hEa
    refine mvV rfl rfl (QI rfl rfl rfl (QI rfl rfl rfl (AL rfl wu rfl Qc4 ?_)))
    intro mb wa hEm hmB hmb
    have hbq := Nat.le_trans hq.size hmb
    replace hq := hq.trans hEm
    replace hB := hB.ext hEm
    have hk1 := hkv.one
    refine STB (vs := [.int .i64 n, kv]) (cs' := [.int .i64 n, kv]) rfl wu rfl rfl rfl JN (by intro h; kernel_rfl) hmB oc2 rfl rfl rfl ?_
    intro wb hgb hXb hmB2
    refine Qk rfl rfl ?_
    exact ZL (mb, kv) ⟨rfl, rfl, rfl, rfl, trivial⟩ ⟨hXb w3 hbq hq, hmB2, by first | exact (hkv.gr (Gr.of_grown hgb (X := [mb]) (fun k hk => by simp [Option.some.inj hk])) (fun k hk => by rw [List.mem_singleton.1 hk]; exact hmlt)).mono hq4 | exact (hkv.ext (hXb _ hmb hEm)).mono hq4⟩
   ·skip
    refine Jf (AL rfl wu rfl Qc4 ?_)
    intro mb wa hEm hmB hmb
    have hbq := Nat.le_trans hq.size hmb
    replace hq := hq.trans hEm
    replace hB := hB.ext hEm
    have hq4 := hq.size
    try have hmlt := hmB.lt
    refine C rfl wu rfl rfl Tryz.call73 (Ki p M mo v md n L _ ok ((hmd.ext hE).ext hq) ((hL.ext hE).ext hq) hM) ?_
    rintro _ wa hEa ⟨kv, rfl, hkv⟩
    replace hq := hq.trans hEa
    replace hB := hB.ext hEa
    try replace hmB := hmB.ext hEa
    refine mvV rfl rfl (QI rfl rfl rfl (QI rfl rfl rfl ?_))
    have hk1 := hkv.one
    refine STB (vs := [.int .i64 n, kv]) (cs' := [.int .i64 n, kv]) rfl wu rfl rfl rfl JN (by intro h; kernel_rfl) hmB oc2 rfl rfl rfl ?_
    intro wb hgb hXb hmB2
    refine Qk rfl rfl ?_
    exact ZL (mb, kv) ⟨rfl, rfl, rfl, rfl, trivial⟩ ⟨hXb w3 hbq hq, hmB2, by first | exact (hkv.gr (Gr.of_grown hgb (X := [mb]) (fun k hk => by simp [Option.some.inj hk])) (fun k hk => by rw [List.mem_singleton.1 hk]; exact hmlt)).mono hq4 | exact (hkv.ext (hXb _ hmb hEm)).mono hq4⟩
  ·skip
   refine Jf (AL rfl wu rfl Qc4 ?_)
   intro mb wa hEm hmB hmb
   have hbq := Nat.le_trans hq.size hmb
   replace hq := hq.trans hEm
   replace hB := hB.ext hEm
   refine C rfl wu rfl rfl Tryz.call69 (cdGen p M mo n v _ hm1 hv1) ?_
   rintro _ wa hEa rfl
   replace hq := hq.trans hEa
   replace hB := hB.ext hEa
   try replace hmB := hmB.ext hEa
   have hq4 := hq.size
   try have hmlt := hmB.lt
   refine C rfl wu rfl rfl Tryz.call73 (Ki p M mo v md n L _ ok ((hmd.ext hE).ext hq) ((hL.ext hE).ext hq) hM) ?_
   rintro _ wa hEa ⟨kv, rfl, hkv⟩
   replace hq := hq.trans hEa
   replace hB := hB.ext hEa
   try replace hmB := hmB.ext hEa
   refine mvV rfl rfl (QI rfl rfl rfl (QI rfl rfl rfl ?_))
   have hk1 := hkv.one
   refine STB (vs := [.int .i64 n, kv]) (cs' := [.int .i64 n, kv]) rfl wu rfl rfl rfl JN (by intro h; kernel_rfl) hmB oc2 rfl rfl rfl ?_
   intro wb hgb hXb hmB2
   refine Qk rfl rfl ?_
   exact ZL (mb, kv) ⟨rfl, rfl, rfl, rfl, trivial⟩ ⟨hXb w3 hbq hq, hmB2, by first | exact (hkv.gr (Gr.of_grown hgb (X := [mb]) (fun k hk => by simp [Option.some.inj hk])) (fun k hk => by rw [List.mem_singleton.1 hk]; exact hmlt)).mono hq4 | exact (hkv.ext (hXb _ hmb hEm)).mono hq4⟩
 ·rintro ⟨mb, kv⟩ w4 ⟨hq, hmB, hkv⟩
  dsimp only at hq hmB hkv
  have hk1 := hkv.one
  have hz4 := hq.size
  refine Qa (Qc (Qb [0,1,2,3,4,5,6,7,8] rfl (Qz rfl rfl Zy (Vw rfl (ldA rfl Zf (hB.ext hq)) (Vw rfl (ldA rfl ZP hmB) (mvV rfl rfl (C rfl wu rfl rfl Tryz.call76 (cdOf p M mo md n kv _ ((hmd.ext hE).ext hq) hml hk1) ?_)))))))
  rintro _ w5 hE5 ⟨mo', rfl, ho5⟩
  refine QI rfl rfl rfl (QI rfl rfl rfl ?_)
  have hm5 := (OwnI.ints ho5).one
  refine STB (vs := [.int .i64 p, .int .i64 M, mo', .int .i64 n, kv]) (cs' := [.int .i64 p, .int .i64 M, mo', .int .i64 n, kv]) rfl wu rfl rfl rfl QbS nofun ((hC.ext hq).ext hE5) oc5 rfl rfl rfl ?_
  intro w6 hg6 hX6 hC6
  refine Qk rfl rfl (Qd (Qa (Qq ?_)))
  have hG6 : Gr [rb] w5 w6 := Gr.of_grown hg6 (fun k hk => by simp [Option.some.inj hk])
  refine QJ rfl rfl rfl Jx hC6 rfl ?_
  exact ⟨hX6 w (by omega) ((hE.trans hq).trans hE5), mo', kv, rfl, Own.mono (Own.gr ho5 hG6 (fun k hk e => by have := (Own.lt ho5 k hk).1; have := List.mem_singleton.1 e; omega)) (by omega), ((hkv.ext hE5).gr hG6 (fun k hk => by rw [List.mem_singleton.1 hk]; exact hlC)).mono hzE⟩
end Go.Proofs.YtcfbigmjjpknfaaGreatDoor
