import Derived.Test.YtcfbigmjjpknfaaGreatDoorW28
import Derived.Test.YtcfbigmjjpknfaaGreatDoorW29
import Derived.Test.YtcfbigmjjpknfaaGreatDoorW16
namespace Go.Ml
open Go.Pl
def wtN (z : List Int) : Nat := (z.filter fun x => decide (x ≠ 0)).length
def dM (best : List Int) : Nat := if best.length = 0 then 0 else wtN best
def lookV (o : Ops) (z : List Int) : List Int := match lead z with
 | none => z
 | some k => scaleR o (o.iv (gi z k)) z
def lookM (o : Ops) (s : List Int × Nat) (z : List Int) : List Int × Nat :=
 if wtN z = 0 ∨ (0 < dM s.1 ∧ dM s.1 < wtN z) then (s.1, s.2 + 1)
 else if dM s.1 = 0 ∨ wtN z < dM s.1 ∨ cmpL (lookV o z) s.1 < 0 then (lookV o z, s.2 + 1) else (s.1, s.2 + 1)
theorem wtN_take {z : List Int} {i : Nat} (h : i < z.length) : wtN (z.take (i + 1)) = wtN (z.take i) + if gi z i = 0 then 0 else 1 := by
 rw [wtN, take_step' h, List.filter_append, List.length_append]
 by_cases e : gi z i = 0 <;> simp [e, wtN]
theorem wtN_le (z : List Int) : wtN z ≤ z.length := List.length_filter_le _ _
theorem wtN_lead {z : List Int} (h : wtN z ≠ 0) : ∃ k, lead z = some k := by
 cases hl : lead z with
 | some k => exact ⟨k, rfl⟩
 | none =>
  exfalso
  have h1 := List.findIdx?_eq_none_iff.1 hl
  apply h
  rw [wtN, List.length_eq_zero_iff, List.filter_eq_nil_iff]
  intro x hx
  rw [h1 x hx]
  simp
end Go.Ml
namespace Go.Proofs.YtcfbigmjjpknfaaGreatDoor
open Go Go.Sx Go.Pl Go.RowKit Go.Fd Go.Alg
theorem Xo (v : Value) (z : List Int) (w : World) (hv : Ints w v z) : Calls Tryz.prog 48 #[v] w (RetX w fun r _ => r = .int .i64 (Ml.wtN z : Nat)) := by
 have hle := hv.le
 refine QL Tryz.func48 rfl rfl (Qc (Qb [0] rfl (Qk rfl rfl (Qd (Qa (Qc (Qb [0] rfl (Qk rfl rfl (Qd (Qa (Qc (Qc (Qb [0,1,2] rfl (mvV rfl rfl ?_))))))))))))))
 refine Vw rfl (Zh rfl QA hv) (mvV rfl rfl (Qd (Qa (Qf ?_))))
 refine Qv (fun i : Nat => [(3, .int .i64 (Ml.wtN (z.take i) : Nat)), (6, v), (7, .int .i64 z.length), (8, .int .i64 i)]) (fun i w' => i ≤ z.length ∧ w' = w) (fun i => z.length - i) 0 ⟨rfl, rfl, rfl, rfl, trivial⟩ ⟨by omega, rfl⟩ ?_
 rintro i w2 ⟨i1, rfl⟩
 try dsimp only
 refine Qc (Qb [0] rfl (Qy rfl rfl rfl (Qd (Qa (Qc (Qo rfl ?_ ?_))))))
 ·intro hc
  simp at hc
  have hw := Ml.wtN_take hc
  have hwl := Nat.le_trans (Ml.wtN_le (z.take i)) (List.length_take_le i z)
  refine Qe (Qa (Qc (Qf (Qc (Qb [0,1,2] rfl (Vw rfl (QO rfl rfl QA hv (by omega) (by omega)) (Vw rfl (ldI rfl na3 hv (Ext.refl _) (by omega) (by omega)) (Qk rfl rfl (Qd (Qa (Qc (Qb [0,1] rfl (mvV rfl rfl (QG rfl rfl rfl (Qd (Qa ?_))))))))))))))))
  refine Qo rfl ?_ ?_
  ·intro hx
   have hx' : ¬ gi z i = 0 := by simpa using hx
   rw [if_neg hx'] at hw
   refine Qb [0,1,2] rfl (mvV rfl rfl (Qw rfl rfl rfl (Qk rfl rfl (Qd (Qg (Qa (Qb [0,1] rfl (Qw rfl rfl rfl (mvV rfl rfl (Qd (Qi (i + 1) ⟨?_, rfl, rfl, rfl, trivial⟩ ⟨by omega, rfl⟩ (by omega))))))))))))
   rw [hw]
   rfl
  ·intro hx
   have hx' : gi z i = 0 := by simpa using hx
   rw [if_pos hx', Nat.add_zero] at hw
   refine Qe (Qg (Qa (Qb [0,1] rfl (Qw rfl rfl rfl (mvV rfl rfl (Qd (Qi (i + 1) ⟨?_, rfl, rfl, rfl, trivial⟩ ⟨by omega, rfl⟩ (by omega))))))))
   rw [hw]
   rfl
 ·intro hc
  simp at hc
  obtain rfl : i = z.length := by omega
  refine Qt (Ql (Qm (Qh (Qa (Qc (Qb [0,1] rfl (mvV rfl rfl (Qk rfl rfl (Qd (Qa (Qq (Qj rfl rfl ?_))))))))))))
  rw [List.take_length]
  exact ⟨Ext.refl _, rfl⟩
theorem mdNz (x : Int) (w : World) : Calls Tryz.prog 245 #[.int .i64 x] w (RetX w fun r _ => r = .bool (decide (x ≠ 0))) := by
 refine QL Tryz.func245 rfl rfl (Qc (Qb [0] rfl (Qk rfl rfl (Qd (Qa (Qc (Qb [0,1,2] rfl (mvV rfl rfl (QG rfl rfl rfl (Qk rfl rfl (Qd (Qa (Qq ?_)))))))))))))
 refine Qj rfl rfl ?_
 exact ⟨Ext.refl _, rfl⟩
structure SS (w : World) (sb : Nat) (g mo v gn : Value) (Y : List Nat) (s : List Int × Nat) : Prop where
 ex : ∃ bv, Blk w sb 147 #[g, .int .i64 2, .int .i64 1, mo, .int .i64 7, v, gn, bv, .int .i64 s.2] ∧ Ints w bv s.1 ∧ ∀ k, bv.ownBlock = some k → k ∉ Y
theorem SS.ext {w w' : World} {sb : Nat} {g mo v gn : Value} {Y : List Nat} {s : List Int × Nat} (h : SS w sb g mo v gn Y s) (hE : Ext w w') : SS w' sb g mo v gn Y s := by
 obtain ⟨bv, h1, h2, h3⟩ := h
 exact ⟨bv, h1.ext hE, h2.ext hE, h3⟩
theorem QcC {a b : World} {sb : Nat} {v : Value} {zs : List Int} (hg : Gr [sb] a b) (hne : v.ownBlock ≠ some sb) (h : Ints a v zs) : Ints b v zs := h.gr hg (fun k hk e => hne (by rw [hk, List.mem_singleton.1 e]))
set_option maxRecDepth 20000 in
theorem mdLook (g mo v gn wv : Value) (sb : Nat) (Y : List Nat) (s : List Int × Nat) (z : List Int) (w0 w : World) (hYs : sb ∈ Y) (hYl : ∀ k ∈ Y, k < w.heap.size) (hG : GFV w0 P2 g) (hE0 : Ext w0 w) (hsb : w0.heap.size ≤ sb) (hS : SS w sb g mo v gn Y s) (hz : Ints w wv z) (hzb : wv.ownBlock ≠ some sb) (hzi : InR P2 z) (hzl : z.length ≤ 1000) (hsl : s.1.length ≤ 1000) (hs2 : s.2 ≤ 1000000) :
  Calls Tryz.prog 138 #[.pointer (some ⟨sb, 0, none⟩), wv] w (RetG [sb] w fun r w' => r = .tuple #[] ∧ SS w' sb g mo v gn Y (Ml.lookM (opsP P2) s z)) := by
 obtain ⟨best, words⟩ := s
 obtain ⟨bv, hB, hbi, hbY⟩ := hS
 have hbb : bv.ownBlock ≠ some sb := fun e => hbY sb e hYs
 dsimp only at hB hbi hsl hs2
 have hg1 := hG.one
 have hb1 := hbi.one
 refine QD Tryz.func138 rfl rfl (Qc (Qb [0,1,2,3,4,5,6,7] rfl (mvV rfl rfl (QM rfl rfl (Qz rfl rfl Qa0 (Vw rfl (ldB rfl na3 hB) (Qw rfl rfl rfl (QM rfl rfl (Qz rfl rfl Qa0 ?_)))))))))
 refine STB (k := 8) (n := 1) (vs := [.int .i64 ((words : Int) + 1)]) (cs' := [g, .int .i64 2, .int .i64 1, mo, .int .i64 7, v, gn, bv, .int .i64 ((words : Int) + 1)]) rfl wu rfl rfl rfl QaG nofun hB (by intro u hu; rw [List.mem_singleton.1 hu]; rfl) rfl rfl rfl ?_
 intro w1 hg1' hX1 hB1
 refine Qd (Qa (Qc ?_))
 have hG1 : Gr [sb] w w1 := Gr.of_grown hg1' (fun k hk => by simp [Option.some.inj hk])
 have hbi1 := QcC hG1 hbb hbi
 have hz1 := QcC hG1 hzb hz
 have hE1 := hG1.ext hE0 (fun k hk => by rw [List.mem_singleton.1 hk]; exact hsb)
 have hB1' : Blk w1 sb 147 #[g, .int .i64 2, .int .i64 1, mo, .int .i64 7, v, gn, bv, .int .i64 ((words + 1 : Nat) : Int)] := hB1
 refine Qb [0,1,2,3,4,5] rfl (mvV rfl rfl (QM rfl rfl (Qz rfl rfl Xc (Vw rfl (ldB rfl Zk hB1') (Vw rfl (Zh rfl QA hbi1) (Qk rfl rfl (Qd (Qa (Qc (Qc (Qb [0,1] rfl (mvV rfl rfl ?_))))))))))))
 refine ZA rfl rfl rfl (Qd (Qa (XO (σ := Unit) (fun _ => [(0, .pointer (some ⟨sb, 0, none⟩)), (1, wv), (4, .int .i64 (Ml.dM best : Nat))]) (fun _ w' => Ext w1 w') ?_ ?_)))
 ·skip
  refine Qo rfl ?_ ?_
  ·intro hc
   have hc' : ¬ best.length = 0 := by have := of_decide_eq_true hc; omega
   refine Qb [0,1,2,3,4,5] rfl (mvV rfl rfl (QM rfl rfl (Qz rfl rfl Xc (Vw rfl (ldB rfl Zk hB1') (C rfl wu rfl rfl Tryz.call48 (Xo bv best _ hbi1) ?_)))))
   rintro _ w2 hE2 rfl
   refine Qk rfl rfl ?_
   exact Qd (Zb () ⟨rfl, rfl, by show some (Value.int .i64 _) = some (Value.int .i64 _); rw [Ml.dM, if_neg hc'], trivial⟩ hE2)
  ·intro hc
   have hc' : best.length = 0 := by have := of_decide_eq_false hc; omega
   refine Qe ?_
   exact Zb () ⟨rfl, rfl, by show some (Value.int .i64 _) = some (Value.int .i64 _); rw [Ml.dM, if_pos hc', hc'], trivial⟩ (Ext.refl _)
 ·rintro _ w2 hE2
  have hdl : Ml.dM best ≤ 1000 := by
   unfold Ml.dM
   split
   ·omega
   ·exact Nat.le_trans (Ml.wtN_le best) hsl
  have hwl := Ml.wtN_le z
  have fin0 : Ml.lookM (opsP P2) (best, words) z = (best, words + 1) → Ext w1 w2 → ∀ w3, Ext w2 w3 → (Gr [sb] w w3 ∧ Value.tuple #[] = .tuple #[] ∧ SS w3 sb g mo v gn Y (Ml.lookM (opsP P2) (best, words) z)) := fun he _ w3 hE3 => by
   rw [he]
   exact ⟨hG1.trans (Gr.of_ext (hE2.trans hE3)), rfl, bv, hB1'.ext (hE2.trans hE3), hbi1.ext (hE2.trans hE3), hbY⟩
  generalize hdd : Ml.dM best = dd at *
  refine Qc (Qb [0,1,2] rfl (mvV rfl rfl (C rfl wu rfl rfl Tryz.call48 (Xo wv z _ (hz1.ext hE2)) ?_)))
  rintro _ w3 hE3 rfl
  refine Qk rfl rfl (Qd (Qa (Qc (Qc ?_))))
  generalize hnn : Ml.wtN z = nn at *
  by_cases hn0 : nn = 0
  ·skip
   refine Qb [0,1,2,3,4,5,6,7,8,9,10] rfl (mvV rfl rfl (QU rfl rfl rfl (mvV rfl rfl (KB 33 true rfl (by simp [hn0]) (SK rfl rfl rfl rfl rfl (SK rfl rfl rfl rfl rfl (SK rfl rfl rfl rfl rfl (SKU rfl rfl rfl rfl (SKU rfl rfl rfl rfl ?_)))))))))
   refine SKU rfl rfl rfl rfl (SK rfl rfl rfl rfl rfl (pkV rfl rfl rfl (Qd (Qa (QC rfl (rfl) (Qq (Qp (Xl rfl ?_))))))))
   exact fin0 (by rw [Ml.lookM, if_pos (.inl (by rw [hnn]; exact hn0))]) hE2 w3 hE3
  ·by_cases hB2 : 0 < dd ∧ dd < nn
   ·skip
    refine Qb [0,1,2,3,4,5,6,7,8,9,10] rfl (mvV rfl rfl (QU rfl rfl rfl (mvV rfl rfl (KB 33 false rfl (by simp [hn0]) (Vg rfl rfl rfl (mv rfl) (Vg rfl rfl rfl (Ju rfl rfl) (Vg rfl rfl rfl (mv rfl) (KB 36 true rfl (decide_eq_true (by omega)) (Vg rfl rfl rfl (mv rfl) ?_)))))))))
    refine Vg rfl rfl rfl (mv rfl) (Vg rfl rfl rfl (Ju rfl rfl) (Vg rfl rfl rfl (pk rfl rfl) (pkV rfl rfl rfl (Qd (Qa (QC rfl (by simp; omega) (Qq (Qp (Xl rfl ?_)))))))))
    exact fin0 (by rw [Ml.lookM, if_pos (.inr (by rw [hdd, hnn]; exact hB2))]) hE2 w3 hE3
   ·have hcont : ∀ (b1 b2 : Bool), b1 = decide (0 < dd) → b2 = decide (dd < nn) → (b1 && b2) = false := fun b1 b2 h1 h2 => by
     rw [h1, h2]
     simp
     omega
    refine Kn (σ := Unit) (fun _ => [(0, .pointer (some ⟨sb, 0, none⟩)), (1, wv), (4, .int .i64 dd), (5, .int .i64 nn), (41, .bool false)]) (fun _ w' => w' = w3) ?_ ?_
    ·by_cases hd0 : 0 < dd
     ·skip
      refine Qb [0,1,2,3,4,5,6,7,8,9,10] rfl (mvV rfl rfl (QU rfl rfl rfl (mvV rfl rfl (KB 33 false rfl (by simp [hn0]) (Vg rfl rfl rfl (mv rfl) (Vg rfl rfl rfl (Ju rfl rfl) (Vg rfl rfl rfl (mv rfl) (KB 36 true rfl (decide_eq_true (by omega)) (Vg rfl rfl rfl (mv rfl) ?_)))))))))
      refine Vg rfl rfl rfl (mv rfl) (Vg rfl rfl rfl (Ju rfl rfl) (Vg rfl rfl rfl (pk rfl rfl) (pkV rfl rfl rfl (ZL () ⟨rfl, rfl, rfl, rfl, ?_, trivial⟩ rfl))))
      have : decide ((dd : Int) < nn) = false := decide_eq_false (by omega)
      show some (Value.bool (decide ((dd : Int) < nn))) = _
      rw [this]
     ·skip
      refine Qb [0,1,2,3,4,5,6,7,8,9,10] rfl (mvV rfl rfl (QU rfl rfl rfl (mvV rfl rfl (KB 33 false rfl (by simp [hn0]) (Vg rfl rfl rfl (mv rfl) (Vg rfl rfl rfl (Ju rfl rfl) (Vg rfl rfl rfl (mv rfl) (KB 36 false rfl (decide_eq_false (by omega)) (SK rfl rfl rfl rfl rfl ?_)))))))))
      refine SK rfl rfl rfl rfl rfl (SK rfl rfl rfl rfl rfl (Vg rfl rfl rfl (pk rfl rfl) (pkV rfl rfl rfl ?_)))
      exact ZL () ⟨rfl, rfl, rfl, rfl, rfl, trivial⟩ rfl
    ·rintro _ w4 rfl
     obtain ⟨k, hk⟩ := Ml.wtN_lead (z := z) (by rw [hnn]; exact hn0)
     obtain ⟨hk1, hk2⟩ := Ml.lead_some hk
     have hk' : z.findIdx? (fun x => decide (x ≠ 0)) = some k := hk
     have hkin := hzi.get (k := k) (by omega) (by omega)
     have hkK : inK P2 (gi z k) ≠ 0 := fun e => by
      rw [ZF hkin] at e
      exact hk2 (congrArg Subtype.val e)
     have hiv : (opsP P2).iv (gi z k) = (invK P2 (inK P2 (gi z k))).1 := by
      show (if inK P2 (gi z k) = 0 then 1 else (invK P2 (inK P2 (gi z k))).1) = _
      rw [if_neg hkK]
     have hlv : Ml.lookV (opsP P2) z = Ml.scaleR (opsP P2) (invK P2 (inK P2 (gi z k))).1 z := by rw [Ml.lookV, hk, ← hiv]
     have hE13 := hE2.trans hE3
     refine Qa (Qn rfl (rfl) (Qe (Qa (Qc (Qb [0,1,2] rfl (mvV rfl rfl (C rfl wu rfl rfl Tryz.call58 (XE 245 (fun x => decide (x ≠ 0)) Tryz.call245 wv z _ (hz1.ext hE13) (fun x w' => mdNz x w')) ?_)))))))
     rintro _ w5 hE5 rfl
     refine Qk rfl rfl (Qd (Qa (Qc ?_)))
     rw [hk']
     have hE15 := hE13.trans hE5
     refine Qx QK [0,1,2,3,4,5,6,7,8,9,10,11,12,13] (by kernel_rfl) ?_
     intro w6 hd _
     replace hE15 := hE15.trans hd
     refine mvV rfl rfl (QM rfl rfl (Qz rfl rfl XH (Vw rfl (ldB rfl KZ (hB1'.ext hE15)) (mvV rfl rfl (mvV rfl rfl (Vw rfl (QO rfl rfl QA (hz1.ext hE15) (by simp [ixI]) (by simp [ixI]; omega)) (Vw rfl (ldI rfl na3 (hz1.ext hE15) (Ext.refl _) (by simp [ixI]) (by simp [ixI]; omega)) (C rfl wu rfl rfl Tryz.call60 (gInv P2 g (gi z k) _ (hG.ext (hE1.trans hE15))) ?_))))))))
     rintro _ w7 hE7 rfl
     rw [if_neg hkK]
     replace hE15 := hE15.trans hE7
     refine mvV rfl rfl (QI rfl rfl rfl (QI rfl rfl rfl (Qk rfl rfl (Qk rfl rfl (Qd (Qa (Qc (Qb [0,1,2,3,4,5,6,7] rfl (mvV rfl rfl (QM rfl rfl (Qz rfl rfl XH ?_)))))))))))
     refine Vw rfl (ldB rfl KZ (hB1'.ext hE15)) (mvV rfl rfl (mvV rfl rfl (C rfl wu rfl rfl Tryz.call246 (Qb5 P2 g wv _ z _ (hG.ext (hE1.trans hE15)) (hz1.ext hE15) (by omega)) ?_)))
     rintro nv w8 hE8 ⟨hnv, hnb⟩
     rw [← hlv] at hnv
     have hzb8 := hE15.size
     replace hE15 := hE15.trans hE8
     refine Qk rfl rfl (Qd (Qa (Qc ?_)))
     have hB8 := hB1'.ext hE15
     have hbi8 := hbi1.ext hE15
     have hni := OwnI.ints hnv
     have hn1 := hni.one
     have hlB1 := hB1'.lt
     have hnsb : nv.ownBlock ≠ some sb := fun e => by have := (Own.lt hnv sb e).1; omega
     refine Kn (σ := Unit) (fun _ => [(0, .pointer (some ⟨sb, 0, none⟩)), (9, nv), (78, .bool (decide (dd = 0 ∨ nn < dd ∨ cmpL (Ml.lookV (opsP P2) z) best < 0)))]) (fun _ w' => Ext w8 w') ?_ ?_
     ·by_cases hd0 : dd = 0
      ·skip
       refine Qb [0,1,2,3,4,5,6,7,8,9,10,11,12,13,14,15] rfl (mvV rfl rfl (QU rfl rfl rfl (mvV rfl rfl (KB 65 true rfl (by simp [hd0]) (SK rfl rfl rfl rfl rfl (SK rfl rfl rfl rfl rfl (SK rfl rfl rfl rfl rfl (pkV rfl rfl rfl (mvV rfl rfl ?_)))))))))
       refine KB 70 true rfl (rfl) (SK rfl rfl rfl rfl rfl (SK rfl rfl rfl rfl rfl (SK rfl rfl rfl rfl rfl (SK rfl rfl rfl rfl rfl (SK rfl rfl rfl rfl rfl (SK rfl rfl rfl rfl rfl (SK rfl rfl rfl rfl rfl (pkV rfl rfl rfl (ZL () ⟨rfl, rfl, ?_, trivial⟩ (Ext.refl _))))))))))
       rw [show decide (dd = 0 ∨ nn < dd ∨ cmpL (Ml.lookV (opsP P2) z) best < 0) = true from decide_eq_true (.inl hd0)]
       rfl
      ·by_cases hlt : nn < dd
       ·skip
        refine Qb [0,1,2,3,4,5,6,7,8,9,10,11,12,13,14,15] rfl (mvV rfl rfl (QU rfl rfl rfl (mvV rfl rfl (KB 65 false rfl (by simp [hd0]) (Vg rfl rfl rfl (mv rfl) (Vg rfl rfl rfl (mv rfl) (Vg rfl rfl rfl (Qan rfl rfl) (pkV rfl rfl rfl (mvV rfl rfl ?_)))))))))
        refine KB 70 true rfl (decide_eq_true (by omega)) (SK rfl rfl rfl rfl rfl (SK rfl rfl rfl rfl rfl (SK rfl rfl rfl rfl rfl (SK rfl rfl rfl rfl rfl (SK rfl rfl rfl rfl rfl (SK rfl rfl rfl rfl rfl (SK rfl rfl rfl rfl rfl (pkV rfl rfl rfl (ZL () ⟨rfl, rfl, ?_, trivial⟩ (Ext.refl _))))))))))
        rw [show decide (dd = 0 ∨ nn < dd ∨ cmpL (Ml.lookV (opsP P2) z) best < 0) = true from decide_eq_true (.inr (.inl hlt))]
        rfl
       ·skip
        refine Qb [0,1,2,3,4,5,6,7,8,9,10,11,12,13,14,15] rfl (mvV rfl rfl (QU rfl rfl rfl (mvV rfl rfl (KB 65 false rfl (by simp [hd0]) (Vg rfl rfl rfl (mv rfl) (Vg rfl rfl rfl (mv rfl) (Vg rfl rfl rfl (Qan rfl rfl) (pkV rfl rfl rfl (mvV rfl rfl ?_)))))))))
        refine KB 70 false rfl (decide_eq_false (by omega)) (Vg rfl rfl rfl (mv rfl) (Vg rfl rfl rfl (mv rfl) (Vg rfl rfl rfl (nchk rfl) (Vg rfl rfl rfl (fad rfl Xc) (Vg rfl rfl rfl (ldB rfl Zk hB8) (C rfl (wg rfl rfl) rfl rfl Tryz.call247 (sCompare nv bv _ best _ hni hbi8) ?_))))))
        rintro _ w9 hE9 rfl
        refine Vg rfl rfl rfl (Qan rfl rfl) (pkV rfl rfl rfl (ZL () ⟨rfl, rfl, ?_, trivial⟩ hE9))
        have e : decide (dd = 0 ∨ nn < dd ∨ cmpL (Ml.lookV (opsP P2) z) best < 0) = decide (cmpL (Ml.lookV (opsP P2) z) best < 0) := by
         rw [decide_eq_decide]
         exact ⟨fun h => (h.resolve_left hd0).resolve_left hlt, fun h => .inr (.inr h)⟩
        rw [e]
        rfl
     ·rintro _ w9 hE9
      have hE19 := hE15.trans hE9
      have hlk : Ml.lookM (opsP P2) (best, words) z = if dd = 0 ∨ nn < dd ∨ cmpL (Ml.lookV (opsP P2) z) best < 0 then (Ml.lookV (opsP P2) z, words + 1) else (best, words + 1) := by
       rw [Ml.lookM, if_neg (by rw [hdd, hnn]; rintro (h | h); exact hn0 h; exact hB2 h), hdd, hnn]
      refine Qa (Qo rfl ?_ ?_)
      ·intro hc
       replace hc := of_decide_eq_true hc
       rw [if_pos hc] at hlk
       refine Qb [0,1,2,3,4] rfl (mvV rfl rfl (mvV rfl rfl (QM rfl rfl (Qz rfl rfl Xc (STB (k := 7) (n := 1) (vs := [nv]) (cs' := [g, .int .i64 2, .int .i64 1, mo, .int .i64 7, v, gn, nv, .int .i64 ((words + 1 : Nat) : Int)]) rfl wu rfl rfl (QB hn1) szSl nofun (hB1'.ext hE19) (by intro u hu; rw [List.mem_singleton.1 hu]; exact hn1) rfl rfl rfl ?_)))))
       intro wa hga hXa hBa
       refine Qd (QX rfl ?_)
       have hGa : Gr [sb] w9 wa := Gr.of_grown hga (fun k hk => by simp [Option.some.inj hk])
       rw [hlk]
       exact ⟨(hG1.trans (Gr.of_ext hE19)).trans hGa, rfl, nv, hBa, QcC hGa hnsb (hni.ext hE9), fun k hk h => by have := hYl k h; have := (Own.lt hnv k hk).1; have := hG1.size; omega⟩
      ·intro hc
       replace hc := of_decide_eq_false hc
       rw [if_neg hc] at hlk
       refine Qe (QX rfl ?_)
       rw [hlk]
       exact ⟨hG1.trans (Gr.of_ext hE19), rfl, bv, hB1'.ext hE19, hbi1.ext hE19, hbY⟩
end Go.Proofs.YtcfbigmjjpknfaaGreatDoor
namespace Go.Ml
open Go.Pl
def sumsM (o : Ops) (G : List (List Int)) : Nat → Nat → List Int → List Int × Nat → List Int × Nat
 | 0, _, z, s => lookM o s z
 | left + 1, first, z, s => (List.range (G.length + 1 - first - (left + 1))).foldl (fun s t => sumsM o G left (first + t + 1) (addRow o z 1 (rw G (first + t))) s) s
def sumsF (o : Ops) (G : List (List Int)) (left first : Nat) (z : List Int) (s : List Int × Nat) (n : Nat) : List Int × Nat :=
 (List.range n).foldl (fun s t => sumsM o G left (first + t + 1) (addRow o z 1 (rw G (first + t))) s) s
variable {o : Ops} {G : List (List Int)}
theorem sumsM_succ {left first : Nat} {z : List Int} {s : List Int × Nat} : sumsM o G (left + 1) first z s = sumsF o G left first z s (G.length + 1 - first - (left + 1)) := rfl
theorem sumsF_succ {left first n : Nat} {z : List Int} {s : List Int × Nat} : sumsF o G left first z s (n + 1) = sumsM o G left (first + n + 1) (addRow o z 1 (rw G (first + n))) (sumsF o G left first z s n) := by
 rw [sumsF, List.range_succ, List.foldl_append]
 rfl
theorem lookM_mono {s : List Int × Nat} {z : List Int} : s.2 ≤ (lookM o s z).2 := by
 unfold lookM
 split
 ·exact Nat.le_succ _
 ·split
  ·exact Nat.le_succ _
  ·exact Nat.le_succ _
theorem Qag : ∀ (left first : Nat) (z : List Int) (s : List Int × Nat), s.2 ≤ (sumsM o G left first z s).2
 | 0, _, z, s => lookM_mono
 | left + 1, first, z, s => by
  rw [sumsM_succ]
  have h : ∀ n, s.2 ≤ (sumsF o G left first z s n).2 := fun n => by
   induction n with
   | zero => exact Nat.le_refl _
   | succ n ih => rw [sumsF_succ]; exact Nat.le_trans ih (Qag left _ _ _)
  exact h _
theorem sumsF_mono {left first : Nat} {z : List Int} {s : List Int × Nat} {n m : Nat} (h : n ≤ m) : (sumsF o G left first z s n).2 ≤ (sumsF o G left first z s m).2 := by
 induction m with
 | zero => rw [show n = 0 by omega]; exact Nat.le_refl _
 | succ m ih =>
  by_cases e : n = m + 1
  ·rw [e]; exact Nat.le_refl _
  ·rw [sumsF_succ]
   exact Nat.le_trans (ih (by omega)) (Qag _ _ _ _)
theorem lookV_len {z : List Int} : (lookV o z).length = z.length := by
 unfold lookV
 split
 ·rfl
 ·exact scaleR_length _ _
theorem lookM_len {s : List Int × Nat} {z : List Int} {n : Nat} (h1 : s.1.length ≤ n) (h2 : z.length ≤ n) : (lookM o s z).1.length ≤ n := by
 unfold lookM
 split
 ·exact h1
 ·split
  ·rw [lookV_len]; exact h2
  ·exact h1
theorem Qbi {n : Nat} : ∀ (left first : Nat) (z : List Int) (s : List Int × Nat), s.1.length ≤ n → z.length ≤ n → (sumsM o G left first z s).1.length ≤ n
 | 0, _, z, s, h1, h2 => lookM_len h1 h2
 | left + 1, first, z, s, h1, h2 => by
  rw [sumsM_succ]
  have h : ∀ m, (sumsF o G left first z s m).1.length ≤ n := fun m => by
   induction m with
   | zero => exact h1
   | succ m ih => rw [sumsF_succ]; exact Qbi left _ _ _ ih (by rw [addRow_length]; exact h2)
  exact h _
theorem sumsF_len {left first n m : Nat} {z : List Int} {s : List Int × Nat} (h1 : s.1.length ≤ n) (h2 : z.length ≤ n) : (sumsF o G left first z s m).1.length ≤ n := by
 induction m with
 | zero => exact h1
 | succ m ih => rw [sumsF_succ]; exact Qbi left _ _ _ ih (by rw [addRow_length]; exact h2)
end Go.Ml
namespace Go.Proofs.YtcfbigmjjpknfaaGreatDoor
open Go Go.Sx Go.Pl Go.RowKit Go.Fd Go.Alg
theorem InR.addRow {P : FP} {v u : List Int} {a : Int} (hv : InR P v) : InR P (Ml.addRow (opsP P) v a u) := InR.tab fun i hi => by
 split
 ·exact hv.get (by omega) (by omega)
 ·exact (inK P (gi v i) + inK P ((opsP P).mu a (gi u i))).2
set_option maxRecDepth 20000 in
theorem mdSums (g mo v gn gv : Value) (sb : Nat) (Y : List Nat) (hYs : sb ∈ Y) (G : List (List Int)) (w0 : World) (hG : GFV w0 P2 g) (hsb : w0.heap.size ≤ sb) (hR : Ml.RL 7 G) (hgl : G.length ≤ 100) :
  ∀ (left first : Nat) (z : List Int) (s : List Int × Nat) (wv : Value) (alone : Bool) (w : World), (∀ k ∈ Y, k < w.heap.size) → Ext w0 w → SS w sb g mo v gn Y s → LLB (sb + 1) w gv G → Ints w wv z → wv.ownBlock ≠ some sb → InR P2 z → z.length = 7 → s.1.length ≤ 1000 → first ≤ 1000 → left ≤ 1000 → (Ml.sumsM (opsP P2) G left first z s).2 ≤ 1000000 →
  Calls Tryz.prog 93 #[.pointer (some ⟨sb, 0, none⟩), gv, wv, .int .i64 first, .int .i64 left, .bool alone] w (RetG [sb] w fun r w' => r = .tuple #[] ∧ SS w' sb g mo v gn Y (Ml.sumsM (opsP P2) G left first z s)) := by
 intro left
 induction left with
 | zero =>
  intro first z s wv alone w hYl hE0 hS hL hz hzb hzi hzl hs1 hf hlf hfin
  have hmn := Ml.lookM_mono (o := opsP P2) (s := s) (z := z)
  have hfin' : (Ml.lookM (opsP P2) s z).2 ≤ 1000000 := hfin
  refine calls6 Tryz.func93 rfl rfl (Qc (Qc (Qb [0,1] rfl (mvV rfl rfl (QU rfl rfl rfl (Qd (Qa (QC rfl (rfl) (Qc (Qb [0,1,2] rfl (mvV rfl rfl ?_)))))))))))
  refine mvV rfl rfl (CG rfl wu rfl rfl Tryz.call138 (mdLook g mo v gn wv sb Y s z w0 _ hYs hYl hG hE0 hsb hS hz hzb hzi (by omega) hs1 (by omega)) nofun ?_)
  rintro _ w2 hG2 ⟨rfl, hS2⟩
  refine Qd (Qa (Qq (Qp (Xl rfl ?_))))
  exact ⟨hG2, rfl, hS2⟩
 | succ left ih =>
  intro first z s wv alone w hYl hE0 hS hL hz hzb hzi hzl hs1 hf hlf hfin
  rw [Ml.sumsM_succ] at hfin
  rw [Ml.sumsM_succ]
  generalize hN : G.length + 1 - first - (left + 1) = N at *
  refine calls6 Tryz.func93 rfl rfl (Qc (Qc (Qb [0,1] rfl (mvV rfl rfl (QU rfl rfl rfl (Qd (Qa (Qn rfl (by simp; omega) (Qe (Qa (Qc (Qb [0,1] rfl (mvV rfl rfl ?_)))))))))))))
  refine Qk rfl rfl (Qd (Qa (Qf ?_)))
  refine Qv (fun t : Nat => [(0, .pointer (some ⟨sb, 0, none⟩)), (1, gv), (2, wv), (4, .int .i64 ((left + 1 : Nat) : Int)), (5, .bool alone), (12, .int .i64 ((first + t : Nat) : Int))])
   (fun t w' => t ≤ N ∧ Gr [sb] w w' ∧ SS w' sb g mo v gn Y (Ml.sumsF (opsP P2) G left first z s t)) (fun t => N - t) 0 ⟨rfl, rfl, rfl, rfl, rfl, rfl, trivial⟩ ⟨by omega, Gr.refl _ _, hS⟩ ?_
  rintro t w1 ⟨t1, hGt, hSt⟩
  obtain ⟨rs, hsl, hrl, hrow⟩ := (hL.gr hGt (fun k hk => by rw [List.mem_singleton.1 hk]; omega)).ll.row
  have hE1 := hGt.ext hE0 (fun k hk => by rw [List.mem_singleton.1 hk]; exact hsb)
  try dsimp only
  refine Qc (Qc (Qb [0,1,2,3,4,5] rfl (mvV rfl rfl (mvV rfl rfl (Qw rfl rfl rfl (mvV rfl rfl (Vw rfl (Zt rfl QN hsl) (Vw rfl (Qbz rfl rfl) (Qd (Qa (Qo rfl ?_ ?_)))))))))))
  ·intro hc
   replace hc := of_decide_eq_true hc
   have ht : t < N := by omega
   have hi : first + t < G.length := by omega
   have hrlen := hR.get hi
   refine Qe (Qa (Qc (Qf (Qc (Qb [0] rfl (Qk rfl rfl (Qd (Qa (Qf ?_)))))))))
   refine Qv (fun a : Nat => [(0, .pointer (some ⟨sb, 0, none⟩)), (1, gv), (2, wv), (4, .int .i64 ((left + 1 : Nat) : Int)), (5, .bool alone), (12, .int .i64 ((first + t : Nat) : Int)), (13, .int .i64 a)])
    (fun a w' => (a = 1 ∨ a = 2) ∧ Gr [sb] w w' ∧ SS w' sb g mo v gn Y (Ml.sumsF (opsP P2) G left first z s (t + a - 1))) (fun a => 2 - a) 1 ⟨rfl, rfl, rfl, rfl, rfl, rfl, rfl, trivial⟩ ⟨.inl rfl, hGt, hSt⟩ ?_
   clear hGt hSt hE1 hsl hrl hrow hc
   clear rs w1
   rintro a w1 ⟨a1, hGt, hSt⟩
   obtain ⟨rs, hsl, hrl, hrow⟩ := (hL.gr hGt (fun k hk => by rw [List.mem_singleton.1 hk]; omega)).ll.row
   obtain ⟨r, hri, hrr⟩ := hrow (first + t) hi
   have hE1 := hGt.ext hE0 (fun k hk => by rw [List.mem_singleton.1 hk]; exact hsb)
   obtain ⟨bv, hB, hbi, hbb⟩ := hSt
   try dsimp only
   refine Qc (Qc (Qb [0,1,2,3,4,5,6] rfl (mvV rfl rfl (mvV rfl rfl (QM rfl rfl (Qz rfl rfl XH (Vw rfl (ldB rfl KZ hB) (C rfl wu rfl rfl Tryz.call136 (gOrder P2 g _ (hG.ext hE1)) ?_))))))))
   rintro _ w2 hE2 rfl
   rw [P2_q]
   refine Qy rfl rfl rfl (Qd (Qa ?_))
   have hG2 := hGt.trans (Gr.of_ext hE2)
   have hE12 := hE1.trans hE2
   rcases a1 with rfl | rfl
   ·have hB2 := hB.ext hE2
    have hzw : Ints w2 wv z := QcC hG2 hzb hz
    have hlB := hB2.lt
    refine QC rfl (by decide) (Qe (Qa (Qc (Qf (Qc (Qb [0,1,2] rfl (mvV rfl rfl (C rfl wu rfl rfl Tryz.call27 (Qby wv z _ hzw (by omega)) ?_))))))))
    rintro nv w3 hE3 hnv
    refine Qk rfl rfl (Qd (Qa (Qc (Qc ?_))))
    have hB3 := hB2.ext hE3
    have hE13 := hE12.trans hE3
    have hr3 := hrr.ext (hE2.trans hE3)
    have hs3 := hsl.ext (hE2.trans hE3)
    refine Qb [0,1,2,3,4,5] rfl (mvV rfl rfl (mvV rfl rfl (Vw rfl (iad rfl rfl QN hs3 (by omega) (by omega)) (Vw rfl (ldE rfl Zk hs3 (by rw [Int.toNat_natCast]; exact hri) (Ext.refl _)) (Vw rfl (Zh rfl QA hr3) (mvV rfl rfl (Qd (Qa (Qf ?_)))))))))
    refine Qv (fun j : Nat => [(0, .pointer (some ⟨sb, 0, none⟩)), (1, gv), (2, wv), (4, .int .i64 ((left + 1 : Nat) : Int)), (5, .bool alone), (12, .int .i64 ((first + t : Nat) : Int)), (13, .int .i64 ((1 : Nat) : Int)), (14, nv), (45, r), (46, .int .i64 (G.getD (first + t) []).length), (47, .int .i64 j)])
     (fun j w' => j ≤ 7 ∧ Ext w2 w' ∧ OwnI w2.heap.size w' nv 3 (tab z.length fun q => if q < j then (if gi (G.getD (first + t) []) q = 0 then gi z q else (opsP P2).ad (gi z q) ((opsP P2).mu 1 (gi (G.getD (first + t) []) q))) else gi z q)) (fun j => 7 - j) 0 ⟨rfl, rfl, rfl, rfl, rfl, rfl, rfl, rfl, rfl, rfl, rfl, trivial⟩ ⟨by omega, hE3, by simpa using (ge_tab (l := z) rfl) ▸ hnv⟩ ?_
    clear hB3 hE13 hr3 hs3 hnv hE3
    rintro j w3 ⟨j1, hE3, hnv⟩
    have hB3 := hB2.ext hE3
    have hE13 := hE12.trans hE3
    have hr3 := hrr.ext (hE2.trans hE3)
    have hni := OwnI.ints hnv
    try dsimp only
    refine Qc (Qb [0] rfl (Qy rfl rfl rfl (Qd (Qa (Qc (Qo rfl ?_ ?_))))))
    ·intro hj
     replace hj := of_decide_eq_true hj
     have hgz : gi (tab z.length fun q => if q < j then (if gi (G.getD (first + t) []) q = 0 then gi z q else (opsP P2).ad (gi z q) ((opsP P2).mu 1 (gi (G.getD (first + t) []) q))) else gi z q) j = gi z j := by
      rw [ZO (by omega) (by omega), Int.toNat_natCast, if_neg (by omega)]
     refine Qe (Qa (Qc (Qf (Qc (Qb [0,1,2,3,4] rfl (mvV rfl rfl (Vw rfl (QO rfl rfl QA hr3 (by omega) (by omega)) (Vw rfl (ldI rfl na3 hr3 (Ext.refl _) (by omega) (by omega)) (Qk rfl rfl (Qk rfl rfl (Qd (Qa (Qc (Qb [0,1] rfl (mvV rfl rfl ?_)))))))))))))))
     refine QG rfl rfl rfl (Qd (Qa (Qo rfl ?_ ?_)))
     ·intro hx
      have hx' : ¬ gi (G.getD (first + t) []) j = 0 := by have := of_decide_eq_true hx; exact this
      refine Qx QK [0,1,2,3,4,5,6,7,8,9,10,11,12,13,14,15,16,17,18,19] (by kernel_rfl) ?_
      intro w4 hd _
      replace hnv := hnv.ext hd
      replace hni := hni.ext hd
      replace hE13 := hE13.trans hd
      replace hB3 := hB3.ext hd
      refine mvV rfl rfl (mvV rfl rfl (mvV rfl rfl (QM rfl rfl (Qz rfl rfl XH (Vw rfl (ldB rfl KZ hB3) (mvV rfl rfl (mvV rfl rfl (Vw rfl (QO rfl rfl QA hni (by omega) (by rw [Qs]; omega)) (Vw rfl (ldI rfl na3 hni (Ext.refl _) (by omega) (by rw [Qs]; omega)) ?_)))))))))
      rw [hgz]
      refine mvV rfl rfl (QM rfl rfl (Qz rfl rfl XH (Vw rfl (ldB rfl KZ hB3) (mvV rfl rfl (mvV rfl rfl (C rfl wu rfl rfl Tryz.call61 (gMul P2 g _ _ _ (hG.ext hE13)) ?_))))))
      rintro _ w5 hE5 rfl
      replace hE13 := hE13.trans hE5
      refine C rfl wu rfl rfl Tryz.call62 (gAdd P2 g _ _ _ (hG.ext hE13)) ?_
      rintro _ w6 hE6 rfl
      replace hnv := OwnI.ext (OwnI.ext hnv hE5) hE6
      replace hni := (hni.ext hE5).ext hE6
      refine Vw rfl (QO rfl rfl QA hni (by omega) (by rw [Qs]; omega)) (STI rfl wu rfl rfl sz3 (by intro h; kernel_rfl) ?_ (ho := hnv) (h0 := by omega) (h1 := by rw [Qs]; omega))
      intro w7 hg7 hX7 hO7 hI7
      refine Qd (Qg (Qa (Qb [0,1] rfl (Qw rfl rfl rfl (mvV rfl rfl (Qd (Qi (j + 1) ⟨rfl, rfl, rfl, rfl, rfl, rfl, rfl, rfl, rfl, rfl, rfl, trivial⟩ ⟨by omega, hX7 w2 (Nat.le_refl _) (((hE3.trans hd).trans hE5).trans hE6), ?_⟩ (by omega))))))))
      rw [Jt] at hO7
      have e : (tab z.length fun q => if q = ((j : Int)).toNat then (inK P2 (gi z j) + inK P2 (inK P2 ((1 : Nat) : Int) * inK P2 (gi (G.getD (first + t) []) j)).1).1 else if q < j then (if gi (G.getD (first + t) []) q = 0 then gi z q else (opsP P2).ad (gi z q) ((opsP P2).mu 1 (gi (G.getD (first + t) []) q))) else gi z q) = tab z.length fun q => if q < j + 1 then (if gi (G.getD (first + t) []) q = 0 then gi z q else (opsP P2).ad (gi z q) ((opsP P2).mu 1 (gi (G.getD (first + t) []) q))) else gi z q := QF fun q hq => by
       rw [Int.toNat_natCast]
       by_cases e : q = j
       ·subst e
        rw [if_pos rfl, if_pos (by omega), if_neg hx']
        rfl
       ·rw [if_neg e]
        by_cases h : q < j
        ·rw [if_pos h, if_pos (show q < j + 1 by omega)]
        ·rw [if_neg h, if_neg (by omega)]
      rw [← e]
      exact hO7
     ·intro hx
      have hx' : gi (G.getD (first + t) []) j = 0 := by have := of_decide_eq_false hx; exact Classical.not_not.1 this
      refine Qe (Qg (Qa (Qb [0,1] rfl (Qw rfl rfl rfl (mvV rfl rfl (Qd (Qi (j + 1) ⟨rfl, rfl, rfl, rfl, rfl, rfl, rfl, rfl, rfl, rfl, rfl, trivial⟩ ⟨by omega, hE3, ?_⟩ (by omega))))))))
      have e : (tab z.length fun q => if q < j then (if gi (G.getD (first + t) []) q = 0 then gi z q else (opsP P2).ad (gi z q) ((opsP P2).mu 1 (gi (G.getD (first + t) []) q))) else gi z q) = tab z.length fun q => if q < j + 1 then (if gi (G.getD (first + t) []) q = 0 then gi z q else (opsP P2).ad (gi z q) ((opsP P2).mu 1 (gi (G.getD (first + t) []) q))) else gi z q := QF fun q hq => by
       by_cases e : q = j
       ·subst e
        rw [if_neg (by omega), if_pos (by omega), if_pos hx']
       ·by_cases h : q < j
        ·rw [if_pos h, if_pos (show q < j + 1 by omega)]
        ·rw [if_neg h, if_neg (by omega)]
      rw [← e]
      exact hnv
    ·intro hj
     replace hj := of_decide_eq_false hj
     obtain rfl : j = 7 := by omega
     have e : (tab z.length fun q => if q < 7 then (if gi (G.getD (first + t) []) q = 0 then gi z q else (opsP P2).ad (gi z q) ((opsP P2).mu 1 (gi (G.getD (first + t) []) q))) else gi z q) = Ml.addRow (opsP P2) z 1 (G.getD (first + t) []) := QF fun q hq => if_pos (by omega)
     rw [e] at hni hnv
     have hSw : SS w3 sb g mo v gn Y (Ml.sumsF (opsP P2) G left first z s t) := ⟨bv, hB3, (hbi.ext hE2).ext hE3, hbb⟩
     have hstep := Ml.sumsF_succ (o := opsP P2) (G := G) (left := left) (first := first) (n := t) (z := z) (s := s)
     have hmn := Ml.sumsF_mono (o := opsP P2) (G := G) (left := left) (first := first) (z := z) (s := s) (n := t + 1) (m := N) (by omega)
     have hsl2 := Ml.sumsF_len (o := opsP P2) (G := G) (left := left) (first := first) (z := z) (s := s) (n := 1000) (m := t) hs1 (by omega)
     have e1 : ((first + t : Nat) : Int) + 1 = ((first + t + 1 : Nat) : Int) := by omega
     have e2 : ((left + 1 : Nat) : Int) - 1 = (left : Nat) := by omega
     have hcall := ih (first + t + 1) (Ml.addRow (opsP P2) z 1 (G.getD (first + t) [])) (Ml.sumsF (opsP P2) G left first z s t) nv false w3 (fun k hk => Nat.lt_of_lt_of_le (hYl k hk) (Nat.le_trans hG2.size hE3.size)) hE13 hSw (((hL.gr hG2 (fun k hk => by rw [List.mem_singleton.1 hk]; omega))).ext hE3) hni (fun h => by have := (Own.lt hnv sb h).1; omega) (InR.addRow hzi) (by rw [Ml.addRow_length]; exact hzl) hsl2 (by omega) (by omega) (by rw [hstep] at hmn; exact Nat.le_trans hmn hfin)
     rw [← e1, ← e2] at hcall
     have hN2 : Ml.sumsM (opsP P2) G left (first + t + 1) (Ml.addRow (opsP P2) z 1 (G.getD (first + t) [])) (Ml.sumsF (opsP P2) G left first z s t) = Ml.sumsF (opsP P2) G left first z s (t + 1) := hstep.symm
     refine Qt (Ql (Qm (Qh (Qa (Qc (Qb [0,1,2,3,4,5,6,7] rfl (mvV rfl rfl (mvV rfl rfl (mvV rfl rfl (mvV rfl rfl (Qw rfl rfl rfl (mvV rfl rfl (Zd rfl rfl rfl (CG rfl wu rfl rfl Tryz.call93 hcall nofun ?_))))))))))))))
     rintro _ w4 hG4 ⟨rfl, hS4⟩
     refine Qd (Qa (Qc ?_))
     rw [hN2] at hS4
     have hGw4 := (hG2.trans (Gr.of_ext hE3)).trans hG4
     refine Qb [0] rfl (mvV rfl rfl (Qd (Qa (Qo rfl ?_ ?_))))
     ·intro hal
      refine Qt (ZB rfl (Ql (Qm (Qh (Qg (Qa (Qb [0,1,2] rfl (mvV rfl rfl (Qw rfl rfl rfl (Qk rfl rfl (Qd (Qi (t + 1) ⟨rfl, rfl, rfl, rfl, rfl, ?_, trivial⟩ ⟨by omega, hGw4, hS4⟩ (by omega)))))))))))))
      show some (Value.int .i64 _) = some (Value.int .i64 _)
      rw [e1]
      rfl
     ·intro hal
      refine Qe (Qg (Qa (Qb [0,1,2] rfl (mvV rfl rfl (Qw rfl rfl rfl (Qk rfl rfl (Qd ?_)))))))
      exact Qi 2 ⟨rfl, rfl, rfl, rfl, rfl, rfl, rfl, trivial⟩ ⟨.inr rfl, hGw4, hS4⟩ (by omega)
   ·skip
    refine Qn rfl (by decide) (Qt (Ql (Qm (Qh (Qg (Qa (Qb [0,1,2] rfl (mvV rfl rfl (Qw rfl rfl rfl (Qk rfl rfl (Qd (Qi (t + 1) ⟨rfl, rfl, rfl, rfl, rfl, ?_, trivial⟩ ⟨by omega, hG2, bv, hB.ext hE2, hbi.ext hE2, hbb⟩ (by omega)))))))))))))
    show some (Value.int .i64 _) = some (Value.int .i64 _)
    rw [show ((first + t : Nat) : Int) + 1 = ((first + (t + 1) : Nat) : Int) by omega]
  ·intro hc
   replace hc := of_decide_eq_false hc
   have ht : t = N := by omega
   rw [ht] at hSt
   refine Qt (Ql (Qm (Qh (QX rfl ?_))))
   exact ⟨hGt, rfl, hSt⟩
end Go.Proofs.YtcfbigmjjpknfaaGreatDoor
