import Derived.Test.YtcfbigmjjpknfaaGreatDoorW38
import Derived.Test.YtcfbigmjjpknfaaGreatDoorW27
import Derived.Test.YtcfbigmjjpknfaaGreatDoorW17
import Derived.Test.YtcfbigmjjpknfaaGreatDoorW37
namespace Go.Ml
open Go.Pl
def transM (L : List (List Int)) (n : Nat) : List (List Int) := tab n fun j => L.map fun r => gi r (j : Int)
theorem transM_length {L : List (List Int)} {n : Nat} : (transM L n).length = n := Qs _ _
def outM (S : List Int) (n : Nat) : List Int := ((List.range n).filter fun j : Nat => !decide ((j : Int) ∈ S)).map Int.ofNat
theorem outM_yes {S : List Int} {i : Nat} (h : (i : Int) ∈ S) : outM S (i + 1) = outM S i := by
 rw [outM, List.range_succ, List.filter_append]
 simp [h, outM]
theorem outM_no {S : List Int} {i : Nat} (h : (i : Int) ∉ S) : outM S (i + 1) = outM S i ++ [(i : Int)] := by
 rw [outM, List.range_succ, List.filter_append]
 simp [h, outM]
theorem outM_mem {S : List Int} {n : Nat} {x : Int} : x ∈ outM S n ↔ ∃ j : Nat, j < n ∧ (j : Int) ∉ S ∧ x = j := by
 simp only [outM, List.mem_map, List.mem_filter, List.mem_range, Bool.not_eq_true', decide_eq_false_iff_not]
 exact ⟨fun ⟨j, ⟨h1, h2⟩, e⟩ => ⟨j, h1, h2, e.symm⟩, fun ⟨j, h1, h2, e⟩ => ⟨j, ⟨h1, h2⟩, e.symm⟩⟩
theorem outM_length {S : List Int} {n : Nat} : (outM S n).length ≤ n := by
 rw [outM, List.length_map]
 have := List.length_filter_le (fun j : Nat => !decide ((j : Int) ∈ S)) (List.range n)
 rw [List.length_range] at this
 exact this
def suppM (o : Ops) (L : List (List Int)) (n : Nat) (S : List Int) : List (List Int) := mulM o (kernelM o (transM (columnsM L (outM S n)) (outM S n).length) L.length) L n
end Go.Ml
namespace Go.Fd
open Go.Pl Go.Alg Go.Proofs.YtcfbigmjjpknfaaGreatDoor
variable {P : FP}
theorem kM_ge {L : List (List Int)} {i j : Nat} (hi : i < L.length) (hj : j < L[i].length) : kM P L i j = inK P (L[i][j]) := by
 have e : Ml.rw L i = L[i] := by simp [Ml.rw, List.getD_eq_getElem?_getD, hi]
 rw [kM, e, Jw hj]
theorem RlIn.gi {n : Nat} {L : List (List Int)} (h : RlIn P n L) {l : List Int} (hl : l ∈ L) {j : Int} (h0 : 0 ≤ j) (h1 : j < n) : 0 ≤ Pl.gi l j ∧ Pl.gi l j < P.q := InR.get (h.el l hl) h0 (by rw [h.rl l hl]; exact h1)
theorem RlIn.cols {n : Nat} {L : List (List Int)} (h : RlIn P n L) {S : List Int} (hS : ∀ x ∈ S, 0 ≤ x ∧ x < (n : Int)) : RlIn P S.length (Ml.columnsM L S) := ⟨fun l hl => by
  obtain ⟨r, _, rfl⟩ := List.mem_map.1 hl
  simp, fun l hl => by
  obtain ⟨r, hr, rfl⟩ := List.mem_map.1 hl
  intro x hx
  obtain ⟨j, hj, rfl⟩ := List.mem_map.1 hx
  exact h.gi hr (hS j hj).1 (hS j hj).2⟩
theorem RlIn.trans {n : Nat} {L : List (List Int)} (h : RlIn P n L) : RlIn P L.length (Ml.transM L n) := ⟨fun l hl => by
  obtain ⟨j, _, rfl⟩ := List.mem_map.1 hl
  simp, fun l hl => by
  obtain ⟨j, hj, rfl⟩ := List.mem_map.1 hl
  have := List.mem_range.1 hj
  intro x hx
  obtain ⟨r, hr, rfl⟩ := List.mem_map.1 hx
  exact h.gi hr (by omega) (by omega)⟩
theorem supp_row (hgen : ∃ g : K P, HasOrder g (n1 P)) {n : Nat} {L : List (List Int)} (h : RlIn P n L) {S : List Int} {t : Nat} (ht : t < (Ml.suppM (opsP P) L n S).length) :
  Sp L.length n (kM P L) (kM P (Ml.suppM (opsP P) L n S) t) ∧ ∀ j, j < n → (j : Int) ∉ S → kM P (Ml.suppM (opsP P) L n S) t j = 0 := by
 have hC := h.cols (S := Ml.outM S n) (fun x hx => by
  obtain ⟨j, h1, _, rfl⟩ := Ml.outM_mem.1 hx
  omega)
 have hCl : (Ml.columnsM L (Ml.outM S n)).length = L.length := by simp [Ml.columnsM]
 have hT := hC.trans
 rw [hCl] at hT
 obtain ⟨hN, hNl, ho⟩ := Xq hgen hT
 rw [Ml.suppM] at ht ⊢
 generalize hNe : Ml.kernelM (opsP P) (Ml.transM (Ml.columnsM L (Ml.outM S n)) (Ml.outM S n).length) L.length = N at *
 have htN : t < N.length := by simpa [Ml.mulM] using ht
 have hx : ∀ j, j < n → kM P (Ml.mulM (opsP P) N L n) t j = sm L.length fun s => kM P N t s * kM P L s j := fun j hj => by
  have e : Ml.rw (Ml.mulM (opsP P) N L n) t = Ml.vecM (opsP P) N[t] L n := by simp [Ml.rw, List.getD_eq_getElem?_getD, htN, Ml.mulM]
  have e2 : Ml.rw N t = N[t] := by simp [Ml.rw, List.getD_eq_getElem?_getD, htN]
  have hl : N[t].length = L.length := hN.rl _ (List.getElem_mem _)
  rw [kM, e, Ml.vecM_eq, hl, Qae h.rl hj L.length (Nat.le_refl _)]
  exact QW fun s _ => by rw [kM, kM, e2]
 refine ⟨⟨fun s => kM P N t s, hx⟩, fun j hj hjS => ?_⟩
 rw [hx j hj]
 have hm : (j : Int) ∈ Ml.outM S n := Ml.outM_mem.2 ⟨j, hj, hjS, rfl⟩
 obtain ⟨i, hi, hij⟩ := List.getElem_of_mem hm
 have hTl : (Ml.transM (Ml.columnsM L (Ml.outM S n)) (Ml.outM S n).length).length = (Ml.outM S n).length := Ml.transM_length
 have h0 := ho t htN i (by rw [hTl]; exact hi)
 rw [← h0]
 refine QW fun s hs => ?_
 rw [mul_comm]
 congr 1
 have e : Ml.rw (Ml.transM (Ml.columnsM L (Ml.outM S n)) (Ml.outM S n).length) i = (Ml.columnsM L (Ml.outM S n)).map fun r => Pl.gi r (i : Int) := by
  simp [Ml.rw, Ml.transM, tab, List.getD_eq_getElem?_getD, hi]
 rw [kM, kM, e]
 congr 1
 have e2 : Ml.rw L s = L[s] := by simp [Ml.rw, List.getD_eq_getElem?_getD, hs]
 rw [e2]
 have e3 : (Ml.columnsM L (Ml.outM S n)).map (fun r => Pl.gi r (i : Int)) = L.map fun r => Pl.gi r j := by
  rw [Ml.columnsM, List.map_map]
  refine List.map_congr_left fun r _ => ?_
  show Pl.gi ((Ml.outM S n).map fun j => Pl.gi r j) (i : Int) = _
  rw [Jw (by rw [List.length_map]; exact hi), List.getElem_map, hij]
 rw [e3]
 simp [Pl.gi, List.getD_eq_getElem?_getD, hs]
theorem supp_none (hgen : ∃ g : K P, HasOrder g (n1 P)) {n : Nat} {L : List (List Int)} (h : RlIn P n L) {S : List Int} (h0 : ∀ v : Nat → K P, Sp L.length n (kM P L) v → (∀ j, j < n → (j : Int) ∉ S → v j = 0) → ∀ j, j < n → v j = 0) :
  (Ml.canonM (opsP P) (Ml.canonM (opsP P) (Ml.suppM (opsP P) L n S) n).1 n).1 = [] := by
 have hR : RlIn P n (Ml.suppM (opsP P) L n S) := RlIn.mul
 rw [Qas hgen hR.rl, Qas hgen (fun l hl => by cases hl) (fun l hl => by cases hl)]
 intro l hl x hx
 obtain ⟨t, ht, rfl⟩ := List.getElem_of_mem hl
 obtain ⟨j, hj, rfl⟩ := List.getElem_of_mem hx
 obtain ⟨h1, h2⟩ := supp_row hgen h ht
 have hjn : j < n := by rw [← hR.rl _ hl]; exact hj
 have h3 := h0 _ h1 h2 j hjn
 rw [kM_ge ht hj] at h3
 have h4 := hR.el _ hl _ hx
 have h5 := ZF (P := P) h4
 rw [h3] at h5
 exact (congrArg Subtype.val h5).symm
end Go.Fd
namespace Go.Proofs.YtcfbigmjjpknfaaGreatDoor
open Go Go.Sx Go.Pl Go.RowKit Go.Fd Go.Alg
def tpP (L : List (List Int)) (n j : Nat) : List (List Int) := (Ml.transM L n).take j ++ List.replicate (n - j) []
theorem Qaf {L : List (List Int)} {n j : Nat} (h : j ≤ n) : (tpP L n j).length = n := by rw [tpP, List.length_append, List.length_take, List.length_replicate, Ml.transM_length]; omega
def tpR (L : List (List Int)) (j i : Nat) : List Int := tab L.length fun t => if t < i then gi (L.getD t []) (j : Int) else 0
theorem JM {L : List (List Int)} {j i : Nat} : (tpR L j i).length = L.length := Qs _ _
theorem tpR_set {L : List (List Int)} {j i : Nat} : si (tpR L j i) (i : Int) (gi (L.getD i []) (j : Int)) = tpR L j (i + 1) := by
 rw [tpR, Jt, tpR]
 refine QF fun t _ => ?_
 rw [Int.toNat_natCast]
 by_cases e : t = i
 ·subst e
  rw [if_pos rfl, if_pos (by omega)]
 ·rw [if_neg e]
  by_cases h : t < i
  ·rw [if_pos h, if_pos (by omega)]
  ·rw [if_neg h, if_neg (by omega)]
theorem tpR_all {L : List (List Int)} {j : Nat} : tpR L j L.length = L.map fun r => gi r (j : Int) := by
 refine List.ext_getElem (by rw [JM, List.length_map]) fun t h1 h2 => ?_
 rw [JM] at h1
 have h3 := Za (f := fun t => if t < L.length then gi (L.getD t []) (j : Int) else (0 : Int)) h1
 have h4 : (tpR L j L.length)[t]? = some (gi (L.getD t []) (j : Int)) := by rw [tpR, h3, if_pos h1]
 rw [List.getElem?_eq_getElem (by rw [JM]; exact h1)] at h4
 rw [Option.some.inj h4, List.getElem_map]
 simp [List.getD_eq_getElem?_getD, h1]
set_option maxRecDepth 10000 in
theorem Qb4 (p M : Int) (mo v : Value) (md : List Int) (n : Nat) (L : List (List Int)) (w : World) (ok : OkF p M md) (hmd : Ints w mo md) (hL : LL w v L) (hM : MV (fpOf p M md ok.1.1 ok.1.2.1) n L) :
  Calls Tryz.prog 72 #[fv0 p M mo, .agg #[.int .i64 n, v]] w (RetX w fun r w' => ∃ tv, r = .tuple #[.agg #[.int .i64 L.length, tv], .int .i64 0] ∧ LLB w.heap.size w' tv (Ml.transM L n)) := by
 have hv1 := hL.one
 have hvc := QB hv1
 have hn1 := hM.n1
 have hlen := hM.len
 have hR : Ml.RL n L := fun l hl => by have := hM.row l hl; omega
 obtain ⟨rs, hsl, hrl, hrow⟩ := hL.row
 refine QD Tryz.func72 rfl rfl (Qc (Qb [0,1,2,3] rfl (BXA rfl wu rfl rfl ?_)))
 intro fb w1 hE1 hF hfb
 refine BXA rfl wu rfl rfl ?_
 intro mb w2 hE2 hB hmb
 replace hF := hF.ext hE2
 refine AL rfl wu rfl Qc4 ?_
 intro rb w3 hE3 hC hrb
 replace hF := hF.ext hE3
 replace hB := hB.ext hE3
 refine Qk rfl rfl (Qd (Qa (Qc (Qc ?_))))
 have hE := (hE1.trans hE2).trans hE3
 have hz1 := hE1.size
 have hz2 := hE2.size
 refine Qb [0,1,2,3,4,5,6,7,8] rfl (Vw rfl (ldA rfl Zf hF) (Vw rfl (ldA rfl ZP hB) (BSV (r := [.int .i64 n, v]) rfl wu rfl rfl XX rfl (by decide) (by decide) ?_)))
 intro lv w4 hE4 hlv
 refine C rfl wu rfl rfl Tryz.call101 (Qam p M mo v lv md n L _ ok ((hmd.ext hE).ext hE4) hlv hv1 ((hL.ext hE).ext hE4) hM) ?_
 rintro _ w5 hE5 ⟨g, rfl, hG⟩
 refine mvV rfl rfl (QI rfl rfl rfl (QI rfl rfl rfl (Qk rfl rfl (Qk rfl rfl (Qd (Qa (Qc (Qb [0,1] rfl (mvV rfl rfl (QG rfl rfl rfl (Qd (Qa ?_))))))))))))
 refine Qn rfl (rfl) (Qe (Qa (Qc ?_)))
 have hE45 := hE4.trans hE5
 replace hB := hB.ext hE45
 replace hC := hC.ext hE45
 replace hE := hE.trans hE45
 replace hsl := hsl.ext hE
 clear hG hlv hE4 hE5 hE45 hE1 hE2 hE3 hF
 have hlC := hC.lt
 refine Kn (σ := Nat × Value) (fun s => [(3, .pointer (some ⟨mb, 0, none⟩)), (4, .pointer (some ⟨rb, 0, none⟩)), (8, .pointer (some ⟨s.1, 0, none⟩))])
  (fun s w' => Ext w5 w' ∧ Blk w' s.1 39 #[.int .i64 L.length, s.2] ∧ Sx.Own w5.heap.size w' s.2 22 (List.replicate n (.slice none 0 0)) ∧ s.2.ownBlock ≠ some s.1 ∧ w5.heap.size ≤ s.1) ?_ ?_
 ·skip
  have hq := Ext.refl w5
  have hBd := hB
  have hsd := hsl
  refine Ka QK (.br [0,1,2,3,4] (.leaf [5,6,7,8]) (.leaf [7,5,6,8])) (by kernel_rfl) ?_
  intro wd hd _
  replace hBd := hBd.ext hd
  replace hsd := hsd.ext hd
  replace hq := hq.trans hd
  refine Qc7 (Qz rfl rfl QR (Vw rfl (ldB rfl Zm hBd) (Vw rfl (Zt rfl QN hsd) (Qz rfl rfl QV (Vw rfl (ldB rfl na3 hBd) (Qc8 ?_ ?_))))))
  ·skip
   refine Jf ?_
   have hq5 := hq.size
   try have hOlt := hO.lt
   refine MK (n := n) rfl wu rfl rfl QN rfl ?_ (hby := by omega)
   intro ov wa hEa hmv hmvb
   have hmlt := (Own.lt hmv _ hmvb)
   replace hq := hq.trans hEa
   try replace hO := hO.ext hEa
   refine Vw rfl (bld (us := [.int .i64 rs.length, ov]) (r := [.int .i64 rs.length, ov]) rfl (QdE _ _ (QB (Sl.one hmv.sl)))) ?_
   have hq7 := hq.size
   refine AL rfl wu rfl Qc4 ?_
   intro ob wb hEm hO hob
   replace hq := hq.trans hEm
   try replace hmv := hmv.ext hEm
   have hmv1 := Sl.one hmv.sl
   have hO2 := hO.lt
   refine STB (vs := [.int .i64 rs.length, ov]) (cs' := [.int .i64 rs.length, ov]) rfl wu rfl rfl rfl JN (by intro h; kernel_rfl) hO oc2 rfl rfl rfl ?_
   intro wc hgc hXc hO3
   exact ZL (ob, ov) ⟨rfl, rfl, rfl, trivial⟩ ⟨hXc w5 (by omega) hq, by dsimp only; rw [← hrl]; exact hO3, (Own.gr hmv (Gr.of_grown hgc (X := [ob]) (fun k hk => by simp [Option.some.inj hk])) (fun k hk e => by have := List.mem_singleton.1 e; have := Option.some.inj (hmvb.symm.trans hk); omega)).mono hq5, fun e => by have := Option.some.inj (hmvb.symm.trans e); omega, by dsimp only; omega⟩
  ·skip
   refine Jf ?_
   have hq7 := hq.size
   refine AL rfl wu rfl Qc4 ?_
   intro ob wb hEm hO hob
   replace hq := hq.trans hEm
   try replace hmv := hmv.ext hEm
   have hq5 := hq.size
   try have hOlt := hO.lt
   refine MK (n := n) rfl wu rfl rfl QN rfl ?_ (hby := by omega)
   intro ov wa hEa hmv hmvb
   have hmlt := (Own.lt hmv _ hmvb)
   replace hq := hq.trans hEa
   try replace hO := hO.ext hEa
   refine Vw rfl (bld (us := [.int .i64 rs.length, ov]) (r := [.int .i64 rs.length, ov]) rfl (QdE _ _ (QB (Sl.one hmv.sl)))) ?_
   have hmv1 := Sl.one hmv.sl
   have hO2 := hO.lt
   refine STB (vs := [.int .i64 rs.length, ov]) (cs' := [.int .i64 rs.length, ov]) rfl wu rfl rfl rfl JN (by intro h; kernel_rfl) hO oc2 rfl rfl rfl ?_
   intro wc hgc hXc hO3
   exact ZL (ob, ov) ⟨rfl, rfl, rfl, trivial⟩ ⟨hXc w5 (by omega) hq, by dsimp only; rw [← hrl]; exact hO3, (Own.gr hmv (Gr.of_grown hgc (X := [ob]) (fun k hk => by simp [Option.some.inj hk])) (fun k hk e => by have := List.mem_singleton.1 e; have := Option.some.inj (hmvb.symm.trans hk); omega)).mono hq5, fun e => by have := Option.some.inj (hmvb.symm.trans e); omega, by dsimp only; omega⟩
 rintro ⟨ob, ov⟩ w6 ⟨hq, hO, hmv, hmo, hob⟩
 dsimp only at hq hO hmv hmo hob
 have hrep : (List.replicate n (Value.slice none 0 0)).length = n := List.length_replicate
 refine Qa (Qc (Qc (Qb [0,1,2,3] rfl (Qz rfl rfl QR (Vw rfl (ldB rfl Zm hO) (Vw rfl (Zt rfl QN hmv.sl) (mvV rfl rfl (Qd (Qa (Qf ?_))))))))))
 rw [hrep]
 refine Qv (fun s : Nat × List Value => [(3, .pointer (some ⟨mb, 0, none⟩)), (4, .pointer (some ⟨rb, 0, none⟩)), (8, .pointer (some ⟨ob, 0, none⟩)), (32, .int .i64 n), (33, .int .i64 s.1)])
  (fun s w' => s.1 ≤ n ∧ Ext w5 w' ∧ Blk w' ob 39 #[.int .i64 L.length, ov] ∧ OM w5.heap.size w' ov 22 3 s.2 (tpP L n s.1)) (fun s => n - s.1) (0, List.replicate n (.slice none 0 0)) ⟨rfl, rfl, rfl, rfl, rfl, trivial⟩
  ⟨by dsimp only; omega, hq, hO, ⟨hmv, by rw [hrep, Qaf (by omega)], fun i r zs a b => ?_, fun i r k a hk => ?_, fun i j r r' k a b hk hk' => ?_⟩⟩ ?_
 ·obtain rfl := List.eq_of_mem_replicate (List.mem_of_getElem? a)
  have : zs = [] := by
   have hb := List.mem_of_getElem? b
   simp [tpP] at hb
   exact hb.2
  rw [this]
  exact OwnI.nil _ _ _
 ·obtain rfl := List.eq_of_mem_replicate (List.mem_of_getElem? a)
  cases hk
 ·obtain rfl := List.eq_of_mem_replicate (List.mem_of_getElem? a)
  cases hk
 clear hq hO hmv
 rintro ⟨j, rws⟩ wj ⟨j1, hEj, hOj, hom⟩
 dsimp only at j1 hEj hOj hom
 have hBj := hB.ext hEj
 have hsj := hsl.ext hEj
 have hDl := Qaf (L := L) j1
 try dsimp only
 refine Qc (Qb [0] rfl (Qy rfl rfl rfl (Qd (Qa (Qc (Qo rfl ?_ ?_))))))
 rotate_left
 ·intro hc
  simp at hc
  have ejn : j = n := by omega
  have etp : tpP L n j = Ml.transM L n := by rw [ejn, tpP, Nat.sub_self, List.replicate_zero, List.append_nil, List.take_of_length_le (by rw [Ml.transM_length]; omega)]
  rw [etp] at hom
  have ho1 := hom.own.sl.one
  refine Qt (Ql (Qm (Qh (Qa (Qc (Qb [0,1,2] rfl (Vw rfl (ldA rfl ZP hOj) (STB (vs := [.int .i64 L.length, ov]) (cs' := [.int .i64 L.length, ov]) rfl wu rfl rfl rfl JN nofun (hC.ext hEj) oc2 rfl rfl rfl ?_))))))))
  intro wz hgz hXz hCz
  refine Qk rfl rfl (Qd (Qa (Qq ?_)))
  have hGz : Gr [rb] wj wz := Gr.of_grown hgz (fun k hk => by simp [Option.some.inj hk])
  refine QJ rfl rfl rfl ZP hCz rfl ?_
  have hzE := hE.size
  exact ⟨hXz w (by omega) (hE.trans hEj), ov, rfl, (hom.llb.gr hGz (fun k hk => by rw [List.mem_singleton.1 hk]; omega)).mono (by omega)⟩
 intro hc
 simp at hc
 refine Qe (Qa (Qc (Qf (Qc (Qb [0,1] rfl (mvV rfl rfl (Qk rfl rfl (Qd (Qa (Qc ?_))))))))))
 have hbk := hom.bk
 have hOlt := hOj.lt
 refine Qx QK [0,1,2,3,4,5,6,7,8] (by kernel_rfl) ?_
 intro wd hd _
 replace hEj := hEj.trans hd
 replace hOj := hOj.ext hd
 replace hom := hom.ext hd
 replace hBj := hBj.ext hd
 replace hsj := hsj.ext hd
 refine Qz rfl rfl QR (Vw rfl (ldB rfl Zm hOj) (mvV rfl rfl (Qz rfl rfl QR (Vw rfl (ldB rfl Zm hBj) (Vw rfl (Zt rfl QN hsj) (MKI (n := rs.length) rfl wu rfl rfl QA ?_))))))
 intro xv wa hEa hxa hxi hxb
 have hzd := hd.size
 have hza := hEa.size
 replace hom := hom.ext hEa
 have hOa := hOj.ext hEa
 have hrs := hom.own.sl
 have hrll := hom.len
 have hzE := hEj.size
 refine Vw rfl (iad rfl rfl QN hrs (by omega) (by omega)) (STOM (w1 := wd) rfl wu rfl rfl sz22 (by intro h; kernel_rfl) hom hxa (fun k hk => by have := (hbk k hk).2; omega) (Nat.le_refl _) hzE ?_ (h0 := by omega) (h1 := by omega))
 intro wb hgb homb
 refine Qd (Qa (Qc ?_))
 rw [Int.toNat_natCast] at homb
 have hEb := (hEj.trans hEa).grown hgb hom.own (Nat.le_refl _)
 have hOb := hOa.grown hgb hmo
 have hxo : xv.ownBlock ≠ some ob := fun e => by
  have := Option.some.inj (hxb.symm.trans e)
  omega
 have hxr : (rws.set j xv)[j]? = some xv := by rw [List.getElem?_set_self (by omega)]
 have hz0 : (tab rs.length fun _ => (0 : Int)) = tpR L j 0 := by rw [hrl]; exact QF fun t _ => (if_neg (by omega)).symm
 rw [hz0] at homb
 have hBb := hB.ext hEb
 have hsb := hsl.ext hEb
 clear hom hOa hgb hEa hxa hxi hOj hBj hsj hEj hbk hrs hrll hd hz0
 refine Qb [0,1,2,3] rfl (Qz rfl rfl QR (Vw rfl (ldB rfl Zm hBb) (Vw rfl (Zt rfl QN hsb) (mvV rfl rfl (Qd (Qa (Qf ?_)))))))
 rw [hrl]
 refine Qv (fun i : Nat => [(3, .pointer (some ⟨mb, 0, none⟩)), (4, .pointer (some ⟨rb, 0, none⟩)), (8, .pointer (some ⟨ob, 0, none⟩)), (9, .int .i64 j), (32, .int .i64 n), (33, .int .i64 j), (45, v), (46, .int .i64 L.length), (47, .int .i64 i)])
  (fun i w' => i ≤ L.length ∧ Ext w5 w' ∧ Blk w' ob 39 #[.int .i64 L.length, ov] ∧ OM w5.heap.size w' ov 22 3 (rws.set j xv) ((tpP L n j).set j (tpR L j i))) (fun i => L.length - i) 0 ⟨rfl, rfl, rfl, rfl, rfl, rfl, rfl, rfl, rfl, trivial⟩ ⟨by omega, hEb, hOb, homb⟩ ?_
 clear hEb hOb homb hBb hsb
 rintro i wi ⟨i1, hEi, hOi, hom⟩
 have hsi := hsl.ext hEi
 try dsimp only
 refine Qc (Qb [0] rfl (Qy rfl rfl rfl (Qd (Qa (Qc (Qo rfl ?_ ?_))))))
 ·intro hi
  simp at hi
  obtain ⟨r, hri, hrr⟩ := hrow i (by omega)
  have hri2 := hrr.ext (hE.trans hEi)
  have hrln := hR.get (i := i) (by omega)
  refine Qe (Qa (Qc (Qf (Qc (Qb [0,1,2,3,4] rfl (mvV rfl rfl (Vw rfl (iad rfl rfl QN hsi (by omega) (by omega)) (Vw rfl (ldE rfl Zk hsi (by rw [Int.toNat_natCast]; exact hri) (Ext.refl _)) (Qk rfl rfl (Qk rfl rfl (Qd (Qa ?_))))))))))))
  have hrl2 := JM (L := L) (j := j) (i := i)
  have hsetl : (rws.set j xv).length = n := by rw [hom.len, List.length_set]; exact hDl
  refine Qx QK [0,1,2,3,4,5,6,7,8,9,10,11] (by kernel_rfl) ?_
  intro wd hd _
  replace hEi := hEi.trans hd
  replace hOi := hOi.ext hd
  replace hom := hom.ext hd
  replace hri2 := hri2.ext hd
  refine Qz rfl rfl QR (Vw rfl (ldB rfl Zm hOi) (mvV rfl rfl (Vw rfl (iad rfl rfl QN hom.own.sl (by omega) (by omega)) (Vw rfl (ldE rfl Zk hom.own.sl (by rw [Int.toNat_natCast]; exact hxr) (Ext.refl _)) (mvV rfl rfl (mvV rfl rfl (mvV rfl rfl (Vw rfl (QO rfl rfl QA hri2 (by omega) (by omega)) (Vw rfl (ldI rfl na3 hri2 (Ext.refl _) (by omega) (by omega)) ?_)))))))))
  have hxo2 : OwnI w5.heap.size wd xv 3 (tpR L j i) := hom.row j xv _ hxr (by rw [List.getElem?_set_self (by omega)])
  refine Vw rfl (QO rfl rfl QA (OwnI.ints hxo2) (by omega) (by omega)) (STI rfl wu rfl rfl sz3 (by intro h; kernel_rfl) ?_ (ho := hxo2) (h0 := by omega) (h1 := by omega))
  intro wl hgl hXl hOl hIl
  refine Qd (Qg (Qa (Qb [0,1] rfl (Qw rfl rfl rfl (mvV rfl rfl (Qd ?_))))))
  rw [tpR_set] at hOl
  have hup := hom.upd hxr (Gr.of_grown hgl (fun k hk => by rw [hk]; simp)) hOl
  rw [List.set_set] at hup
  exact Qi (i + 1) ⟨rfl, rfl, rfl, rfl, rfl, rfl, rfl, rfl, rfl, trivial⟩ ⟨by omega, hXl w5 (Nat.le_refl _) hEi, hOi.grown hgl hxo, hup⟩ (by omega)
 ·intro hi
  simp at hi
  have eil : i = L.length := by omega
  rw [eil, tpR_all, tpP, Kd Ml.transM_length hc (Za hc)] at hom
  refine Qt (Ql (Qm (Qh (Qg (Qa (Qb [0,1] rfl (Qw rfl rfl rfl (mvV rfl rfl (Qd ?_)))))))))
  exact Qi (j + 1, rws.set j xv) ⟨rfl, rfl, rfl, rfl, rfl, trivial⟩ ⟨by dsimp only; omega, hEi, hOi, hom⟩ (by dsimp only; omega)
end Go.Proofs.YtcfbigmjjpknfaaGreatDoor
namespace Go.Proofs.YtcfbigmjjpknfaaGreatDoor
open Go Go.Sx Go.Pl Go.RowKit Go.Fd Go.Alg
theorem rlMv {P : FP} {n : Nat} {L : List (List Int)} (h : RlIn P n L) (hn : n ≤ 256) (hl : L.length ≤ 256) : MV P n L := ⟨by omega, by omega, hl, fun l hl => by rw [h.rl l hl], h.el⟩
set_option maxRecDepth 10000 in
theorem QbT (P : FP) (p M : Int) (mo v sv : Value) (md : List Int) (n : Nat) (L : List (List Int)) (S : List Int) (w : World) (ok : OkF p M md) (hPe : fpOf p M md ok.1.1 ok.1.2.1 = P) (hgen : ∃ g : K P, HasOrder g (n1 P)) (hmd : Ints w mo md) (hL : LL w v L) (hM : MV P n L) (hcan : (Ml.canonM (opsP P) L n).1 = L) (h1 : 1 ≤ n) (hS : Ints w sv S) (ha : AscIn n S) :
  Calls Tryz.prog 39 #[fv0 p M mo, .agg #[.int .i64 n, v], sv] w (RetX w fun r w' => ∃ kv, r = .tuple #[.agg #[.int .i64 n, kv], .int .i64 0] ∧ LLB w.heap.size w' kv (Ml.canonM (opsP P) (Ml.suppM (opsP P) L n S) n).1) := by
 subst hPe
 have hv1 := hL.one
 have hvc := QB hv1
 have hn1 := hM.n1
 have hlen := hM.len
 have hSle := hS.le
 have hRl : RlIn (fpOf p M md ok.1.1 ok.1.2.1) n L := ⟨fun l hl => by have := hM.row l hl; omega, hM.el⟩
 obtain ⟨rs, hsl, hrl, -⟩ := hL.row
 have hor : ∀ x ∈ Ml.outM S n, 0 ≤ x ∧ x < (n : Int) := fun x hx => by
  obtain ⟨j, hj, _, rfl⟩ := Ml.outM_mem.1 hx
  omega
 have hol := Ml.outM_length (S := S) (n := n)
 have hCl : (Ml.columnsM L (Ml.outM S n)).length = L.length := by simp [Ml.columnsM]
 have hCr := hRl.cols hor
 have hTr := hCr.trans
 rw [hCl] at hTr
 have hTl : (Ml.transM (Ml.columnsM L (Ml.outM S n)) (Ml.outM S n).length).length = (Ml.outM S n).length := Ml.transM_length
 obtain ⟨hNr, hNl, -⟩ := Xq hgen hTr
 refine QS Tryz.func39 rfl rfl (Qc (Qb [0,1,2,3] rfl (BXA rfl wu rfl rfl ?_)))
 intro fb w1 hE1 hF hfb
 refine BXA rfl wu rfl rfl ?_
 intro mb w2 hE2 hB hmb
 replace hF := hF.ext hE2
 refine AL rfl wu rfl Qc4 ?_
 intro rb w3 hE3 hC hrb
 replace hF := hF.ext hE3
 replace hB := hB.ext hE3
 refine Qk rfl rfl (Qd (Qa (Qc (Qc ?_))))
 have hE := (hE1.trans hE2).trans hE3
 have hz1 := hE1.size
 have hz2 := hE2.size
 have hlC := hC.lt
 refine Qb [0,1,2,3,4,5,6,7,8] rfl (Vw rfl (ldA rfl Zf hF) (Vw rfl (ldA rfl ZP hB) (C rfl wu rfl rfl Tryz.call70 (spOpen p M mo v md n L _ ok (hmd.ext hE) (hL.ext hE) hM hcan) ?_)))
 rintro _ wa hEa ⟨g, pv, rfl, hg1, hpv⟩
 refine mvV rfl rfl (QI rfl rfl rfl (QI rfl rfl rfl ?_))
 have hp1 := (OwnI.ints hpv).one
 refine AL rfl wu rfl zv117 ?_
 intro lb wb hEb hLb hlb
 refine STB (vs := [g, .int .i64 n, v, pv]) (cs' := [g, .int .i64 n, v, pv]) rfl wu rfl rfl rfl sv117 nofun hLb oc4 rfl rfl rfl ?_
 intro wc hgc hXc hLc
 refine Qk rfl rfl (Qd (Qa (Qc ?_)))
 have hX := hEa.trans (hXc wa hlb hEb)
 replace hF := hF.ext hX
 replace hB := hB.ext hX
 replace hC := hC.ext hX
 replace hE := hE.trans hX
 clear hX hEa hEb hLb hgc hXc hLc hpv hp1 hg1
 refine Qb [0,1] rfl (mvV rfl rfl (QG rfl rfl rfl (Qd (Qa (Qn rfl (rfl) (Qe (Qa (Qc (Qc ?_)))))))))
 have hSi := hS.ext hE
 refine Qb [0,1,2] rfl (mvV rfl rfl (Vw rfl (Zh rfl QA hSi) (mvV rfl rfl (Qd (Qa (Qf ?_))))))
 refine Qv (fun k : Nat => [(2, sv), (3, .pointer (some ⟨fb, 0, none⟩)), (4, .pointer (some ⟨mb, 0, none⟩)), (6, .pointer (some ⟨rb, 0, none⟩)), (30, sv), (31, .int .i64 S.length), (32, .int .i64 k)])
  (fun k w' => k ≤ S.length ∧ w' = wc) (fun k => S.length - k) 0 ⟨rfl, rfl, rfl, rfl, rfl, rfl, rfl, trivial⟩ ⟨by omega, rfl⟩ ?_
 rintro k w4 ⟨k1, rfl⟩
 try dsimp only
 refine Qc (Qb [0] rfl (Qy rfl rfl rfl (Qd (Qa (Qc (Qo rfl ?_ ?_))))))
 ·intro hc
  simp at hc
  have hgb := ha.lo (gi S k) (by rw [Jw hc]; exact List.getElem_mem _)
  refine Qe (Qa (Qc (Qf (Qc (Qb [0,1,2,3,4] rfl (mvV rfl rfl (Vw rfl (QO rfl rfl QA hSi (by omega) (by omega)) (Vw rfl (ldI rfl na3 hSi (Ext.refl _) (by omega) (by omega)) (Qk rfl rfl (Qk rfl rfl (Qd (Qa (Qc ?_)))))))))))))
  by_cases hk0 : k = 0
  ·skip
   refine Qb [0,1,2,3,4,5,6,7,8,9,10,11,12,13,14,15,16,17,18,19,20] rfl (mvV rfl rfl (Qy rfl rfl rfl (mvV rfl rfl (KB 39 false rfl (decide_eq_false (by omega)) (Vg rfl rfl rfl (mv rfl) (Vg rfl rfl rfl (fad rfl QV) (Vg rfl rfl rfl (ldB rfl na3 hB) (Vg rfl rfl rfl (Xb rfl rfl) (pkV rfl rfl rfl ?_)))))))))
   refine mvV rfl rfl (KB 45 false rfl (decide_eq_false (by omega)) (Vg rfl rfl rfl (mv rfl) (Vg rfl rfl rfl (Ju rfl rfl) (Vg rfl rfl rfl (mv rfl) (KB 48 false rfl (decide_eq_false (by omega)) (SK rfl rfl rfl rfl rfl (SK rfl rfl rfl rfl rfl (SK rfl rfl rfl rfl rfl (SK rfl rfl rfl rfl rfl ?_)))))))))
   refine SK rfl rfl rfl rfl rfl (SK rfl rfl rfl rfl rfl (SK rfl rfl rfl rfl rfl (Vg rfl rfl rfl (pk rfl rfl) (pkV rfl rfl rfl (Qd (Qa (Qn rfl (rfl) (Qe (Qg (Qa (Qb [0,1] rfl (Qw rfl rfl rfl ?_))))))))))))
   refine mvV rfl rfl (Qd ?_)
   exact Qi (k + 1) ⟨rfl, rfl, rfl, rfl, rfl, rfl, rfl, trivial⟩ ⟨by omega, rfl⟩ (by omega)
  ·skip
   have hlt := ha.asc k (by omega) hc
   refine Qb [0,1,2,3,4,5,6,7,8,9,10,11,12,13,14,15,16,17,18,19,20] rfl (mvV rfl rfl (Qy rfl rfl rfl (mvV rfl rfl (KB 39 false rfl (decide_eq_false (by omega)) (Vg rfl rfl rfl (mv rfl) (Vg rfl rfl rfl (fad rfl QV) (Vg rfl rfl rfl (ldB rfl na3 hB) (Vg rfl rfl rfl (Xb rfl rfl) (pkV rfl rfl rfl ?_)))))))))
   refine mvV rfl rfl (KB 45 false rfl (decide_eq_false (by omega)) (Vg rfl rfl rfl (mv rfl) (Vg rfl rfl rfl (Ju rfl rfl) (Vg rfl rfl rfl (mv rfl) (KB 48 true rfl (decide_eq_true (by omega)) (Vg rfl rfl rfl (mv rfl) (Vg rfl rfl rfl (mv rfl) (Vg rfl rfl rfl (mv rfl) (Vg rfl rfl rfl (subI rfl rfl) ?_)))))))))
   refine Vg rfl rfl rfl (QO rfl rfl QA hSi (by omega) (by omega)) (Vg rfl rfl rfl (ldI rfl na3 hSi (Ext.refl _) (by omega) (by omega)) (Vg rfl rfl rfl (Qbz rfl rfl) (Vg rfl rfl rfl (pk rfl rfl) (pkV rfl rfl rfl (Qd (Qa (Qn rfl (by simp; omega) (Qe (Qg (Qa (Qb [0,1] rfl (Qw rfl rfl rfl ?_))))))))))))
   refine mvV rfl rfl (Qd ?_)
   exact Qi (k + 1) ⟨rfl, rfl, rfl, rfl, rfl, rfl, rfl, trivial⟩ ⟨by omega, rfl⟩ (by omega)
 intro hc
 clear hc k1 hSi
 refine Qt (Ql (Qm (Qh (Qa (Qc (Qb [0] rfl (Qk rfl rfl (Qd (Qa (Qc (Qc (Qb [0,1,2] rfl (Qz rfl rfl QV (Vw rfl (ldB rfl na3 hB) (mvV rfl rfl (Qd (Qa (Qf ?_))))))))))))))))))
 refine Qv (fun s : Nat × Value => [(2, sv), (3, .pointer (some ⟨fb, 0, none⟩)), (4, .pointer (some ⟨mb, 0, none⟩)), (6, .pointer (some ⟨rb, 0, none⟩)), (12, s.2), (61, .int .i64 n), (62, .int .i64 s.1)])
  (fun s w' => s.1 ≤ n ∧ Ext w4 w' ∧ OwnI w4.heap.size w' s.2 3 (Ml.outM S s.1)) (fun s => n - s.1) (0, .slice none 0 0) ⟨rfl, rfl, rfl, rfl, rfl, rfl, rfl, trivial⟩ ⟨by dsimp only; omega, Ext.refl _, OwnI.nil _ _ _⟩ ?_
 rintro ⟨i, ov⟩ w5 ⟨i1, hX, ho⟩
 dsimp only at i1 hX ho
 have holt := Own.lt ho
 have hoi := Ml.outM_length (S := S) (n := i)
 try dsimp only
 refine Qc (Qb [0] rfl (Qy rfl rfl rfl (Qd (Qa (Qc (Qo rfl ?_ ?_))))))
 ·intro hc
  simp at hc
  refine Qe (Qa (Qc (Qf (Qc (Qb [0,1] rfl (mvV rfl rfl (Qk rfl rfl (Qd (Qa (Qc (Qb [0,1,2,3] rfl (mvV rfl rfl (mvV rfl rfl (C rfl wu rfl rfl Tryz.call30 (ZX sv S i _ (hS.ext (hE.trans hX))) ?_))))))))))))))
  rintro _ wa hEa rfl
  refine ZC rfl rfl (Qd (Qa ?_))
  have hza := hEa.size
  replace ho := OwnI.ext ho hEa
  refine Qo rfl ?_ ?_
  ·intro h
   have hno : (i : Int) ∉ S := by simpa using h
   refine Qb [0,1,2,3,4] rfl (mvV rfl rfl (mvV rfl rfl (BSI (zs := [(i : Int)]) rfl wu rfl rfl rfl rfl QA ?_)))
   intro tv wb hEb ht hti htb
   have hEab := (hX.trans hEa).trans hEb
   replace ho := OwnI.ext ho hEb
   refine API rfl wu rfl rfl rfl QA nofun ?_
   intro ov2 wd hgd hXd ho2 hid hvd
   refine Qk rfl rfl (Qd (Qg (Qa (Qb [0,1] rfl (Qw rfl rfl rfl (mvV rfl rfl (Qd ?_)))))))
   exact Qi (i + 1, ov2) ⟨rfl, rfl, rfl, rfl, rfl, rfl, rfl, trivial⟩ ⟨by dsimp only; omega, hXd w4 (Nat.le_refl _) ((hX.trans hEa).trans hEb), by dsimp only; rw [Ml.outM_no hno]; exact ho2⟩ (by dsimp only; omega)
  ·intro h
   have hin : (i : Int) ∈ S := by simpa using h
   refine Qe (Qg (Qa (Qb [0,1] rfl (Qw rfl rfl rfl (mvV rfl rfl (Qd ?_))))))
   exact Qi (i + 1, ov) ⟨rfl, rfl, rfl, rfl, rfl, rfl, rfl, trivial⟩ ⟨by dsimp only; omega, hX.trans hEa, by dsimp only; rw [Ml.outM_yes hin]; exact ho⟩ (by dsimp only; omega)
 intro hc
 simp at hc
 have ein : i = n := by omega
 rw [ein] at ho
 clear hc i1 hoi holt
 replace hF := hF.ext hX
 replace hB := hB.ext hX
 replace hC := hC.ext hX
 replace hE := hE.trans hX
 clear hX
 refine Qt (Ql (Qm (Qh (Qa (Qc (Qb [0,1,2,3,4,5,6,7,8,9] rfl (Vw rfl (ldA rfl Zf hF) (Vw rfl (ldA rfl ZP hB) (mvV rfl rfl (C rfl wu rfl rfl Tryz.call71 (Qbt p M mo v ov md n L (Ml.outM S n) _ ok (hmd.ext hE) (hL.ext hE) hM (OwnI.ints ho) (by omega) hor) ?_))))))))))
 rintro _ wa hEa ⟨cv, rfl, hcv⟩
 refine mvV rfl rfl (QI rfl rfl rfl (QI rfl rfl rfl ?_))
 have hk1 := hcv.one
 refine AL rfl wu rfl KW ?_
 intro lb2 wb hEb hLb hlb2
 refine STB (vs := [.int .i64 (Ml.outM S n).length, cv]) (cs' := [.int .i64 (Ml.outM S n).length, cv]) rfl wu rfl rfl rfl JN nofun hLb oc2 rfl rfl rfl ?_
 intro wd hgd hXd hLd
 refine Qk rfl rfl (Qd (Qa (Qc (Qc ?_))))
 have hX0 := hXd wa hlb2 hEb
 replace hcv := hcv.ll.ext hX0
 have hX := hEa.trans hX0
 have hlb5 := Nat.le_trans hEa.size hlb2
 clear hX0 hEa hEb hLb hgd hXd ho hk1
 refine Qb [0,1] rfl (mvV rfl rfl (QG rfl rfl rfl (Qd (Qa (Qn rfl (rfl) (Qe (Qa (Qc ?_))))))))
 have hlL := hLd.lt
 refine Qb [0,1,2,3,4,5,6] rfl (Vw rfl (ldA rfl Zf (hF.ext hX)) (Vw rfl (ldA rfl ZP hLd) (C rfl wu rfl rfl Tryz.call72 (Qb4 p M mo cv md (Ml.outM S n).length (Ml.columnsM L (Ml.outM S n)) _ ok (hmd.ext (hE.trans hX)) hcv (rlMv hCr (by omega) (by omega))) ?_)))
 rintro _ wa hEa ⟨tv, rfl, htv⟩
 rw [hCl]
 refine mvV rfl rfl (QI rfl rfl rfl (QI rfl rfl rfl ?_))
 have hk1 := htv.one
 refine STB (vs := [.int .i64 L.length, tv]) (cs' := [.int .i64 L.length, tv]) rfl wu rfl rfl rfl JN nofun (hLd.ext hEa) oc2 rfl rfl rfl ?_
 intro wb hgb hXb hLb
 refine Qd (Qa (Qc ?_))
 have hG := Gr.of_grown hgb (X := [lb2]) (fun k hk => by simp [Option.some.inj hk])
 replace htv := htv.gr hG (fun k hk => by rw [List.mem_singleton.1 hk]; exact hlL)
 replace hX := hXb w5 hlb5 (hX.trans hEa)
 clear hG hgb hXb hEa hLd hcv
 refine Qb [0,1,2,3,4] rfl (Qz rfl rfl QR (Vw rfl (ldB rfl Zm (hB.ext hX)) (Vw rfl (Zt rfl QN (hsl.ext (hE.trans hX))) (Qz rfl rfl QV (STB (k := 0) (n := 1) (vs := [.int .i64 rs.length]) (cs := [.int .i64 L.length, tv]) (cs' := [.int .i64 rs.length, tv]) rfl wu rfl rfl rfl sv3 nofun hLb (by intro v hv; rw [List.mem_singleton.1 hv]; rfl) rfl rfl rfl ?_)))))
 intro wc hgc hXc hLc
 rw [hrl] at hLc
 refine Qd (Qa (Qc ?_))
 have hG := Gr.of_grown hgc (X := [lb2]) (fun k hk => by simp [Option.some.inj hk])
 replace htv := (htv.gr hG (fun k hk => by rw [List.mem_singleton.1 hk]; exact hlL)).ll
 replace hX := hXc w5 hlb5 hX
 replace hF := hF.ext hX
 replace hB := hB.ext hX
 replace hC := hC.ext hX
 replace hE := hE.trans hX
 clear hG hgc hXc hLb hX
 refine Qb [0,1,2,3,4,5,6,7,8] rfl (Vw rfl (ldA rfl Zf hF) (Vw rfl (ldA rfl ZP hLc) (C rfl wu rfl rfl Tryz.call73 (Ki p M mo tv md L.length (Ml.transM (Ml.columnsM L (Ml.outM S n)) (Ml.outM S n).length) _ ok (hmd.ext hE) htv (rlMv hTr (by omega) (by omega))) ?_)))
 rintro _ wa hEa ⟨nv, rfl, hnv⟩
 refine mvV rfl rfl (QI rfl rfl rfl (QI rfl rfl rfl ?_))
 have hk2 := hnv.one
 refine AL rfl wu rfl KW ?_
 intro lb3 wb hEb hLb hlb3
 refine STB (vs := [.int .i64 L.length, nv]) (cs' := [.int .i64 L.length, nv]) rfl wu rfl rfl rfl JN nofun hLb oc2 rfl rfl rfl ?_
 intro wd3 hgd hXd hLd
 refine Qk rfl rfl (Qd (Qa (Qc (Qc ?_))))
 have hX0 := hXd wa hlb3 hEb
 replace hnv := hnv.ll.ext hX0
 have hX := hEa.trans hX0
 replace hF := hF.ext hX
 replace hB := hB.ext hX
 replace hC := hC.ext hX
 replace hE := hE.trans hX
 clear hX0 hX hEa hEb hLb hgd hXd hLc htv hk1
 generalize hNe : Ml.kernelM (opsP (fpOf p M md ok.1.1 ok.1.2.1)) (Ml.transM (Ml.columnsM L (Ml.outM S n)) (Ml.outM S n).length) L.length = N at *
 have hse : Ml.suppM (opsP (fpOf p M md ok.1.1 ok.1.2.1)) L n S = Ml.mulM (opsP (fpOf p M md ok.1.1 ok.1.2.1)) N L n := by rw [Ml.suppM, hNe]
 have hWl : (Ml.mulM (opsP (fpOf p M md ok.1.1 ok.1.2.1)) N L n).length = N.length := by simp [Ml.mulM]
 refine Qb [0,1] rfl (mvV rfl rfl (QG rfl rfl rfl (Qd (Qa (Qn rfl (rfl) (Qe (Qa (Qc (Qb [0,1,2,3,4,5,6,7,8,9] rfl (Vw rfl (ldA rfl Zf hF) (Vw rfl (ldA rfl ZP hLd) (Vw rfl (ldA rfl ZP hB) ?_))))))))))))
 refine C rfl wu rfl rfl Tryz.call74 (mxMul p M mo nv v md L.length n N L _ ok (hmd.ext hE) hnv (rlMv hNr (by omega) (by omega)) (hL.ext hE) hM rfl h1) ?_
 rintro _ wa hEa ⟨wv, rfl, hwv⟩
 refine mvV rfl rfl (QI rfl rfl rfl (QI rfl rfl rfl ?_))
 have hk3 := hwv.one
 refine AL rfl wu rfl KW ?_
 intro lb4 wb hEb hLb hlb4
 refine STB (vs := [.int .i64 n, wv]) (cs' := [.int .i64 n, wv]) rfl wu rfl rfl rfl JN nofun hLb oc2 rfl rfl rfl ?_
 intro wd4 hge hXe hLe
 refine Qk rfl rfl (Qd (Qa (Qc (Qc ?_))))
 have hX0 := hXe wa hlb4 hEb
 replace hwv := hwv.ll.ext hX0
 have hX := hEa.trans hX0
 replace hF := hF.ext hX
 replace hC := hC.ext hX
 replace hE := hE.trans hX
 clear hX0 hX hEa hEb hLb hge hXe hLd hnv hB hk2
 refine Qb [0,1] rfl (mvV rfl rfl (QG rfl rfl rfl (Qd (Qa (Qn rfl (rfl) (Qe (Qa (Qc ?_))))))))
 have hzw := hE.size
 have hlC2 := hC.lt
 refine Qb [0,1,2,3,4,5,6,7,8,9,10] rfl (Vw rfl (ldA rfl Zf hF) (Vw rfl (ldA rfl ZP hLe) (C rfl wu rfl rfl Tryz.call75 (JZ p M mo wv md n (Ml.mulM (opsP (fpOf p M md ok.1.1 ok.1.2.1)) N L n) _ ok (hmd.ext hE) hwv (rlMv RlIn.mul (by omega) (by omega))) ?_)))
 rintro _ wa hEa ⟨kv, pv2, rfl, hkv, hpv2⟩
 refine mvV rfl rfl (QI rfl rfl rfl (QI rfl rfl rfl (QI rfl rfl rfl ?_)))
 have hk4 := hkv.one
 refine AL rfl wu rfl KW ?_
 intro lb5 wb hEb hLb hlb5'
 refine STB (vs := [.int .i64 n, kv]) (cs' := [.int .i64 n, kv]) rfl wu rfl rfl rfl JN nofun hLb oc2 rfl rfl rfl ?_
 intro wd5 hgf hXf hLf
 refine Qk rfl rfl (Qk rfl rfl (Qd (Qa (Qc ?_))))
 have hX0 := hXf wa hlb5' hEb
 replace hkv := hkv.ext hX0
 have hX := hEa.trans hX0
 replace hC := hC.ext hX
 replace hE := hE.trans hX
 refine Qb [0,1,2,3] rfl (Vw rfl (ldA rfl ZP hLf) (mvV rfl rfl (STB (vs := [.int .i64 n, kv]) (cs' := [.int .i64 n, kv]) rfl wu rfl rfl rfl JN nofun hC oc2 rfl rfl rfl ?_)))
 intro wz hgz hXz hCz
 refine Qk rfl rfl (Qd (Qa (Qq ?_)))
 have hGz : Gr [rb] wd5 wz := Gr.of_grown hgz (fun k hk => by simp [Option.some.inj hk])
 refine QJ rfl rfl rfl ZP hCz rfl ?_
 refine ⟨hXz w (by omega) hE, kv, rfl, ?_⟩
 rw [hse]
 exact (hkv.gr hGz (fun k hk => by rw [List.mem_singleton.1 hk]; exact hlC2)).mono hzw
set_option maxRecDepth 10000 in
theorem Qcg (p M : Int) (mo v sv : Value) (md : List Int) (n : Nat) (L : List (List Int)) (S : List Int) (w : World) (hc : CdOk p M md n L) (hml : md.length ≤ 1000000) (hgen : ∃ g : K hc.P, HasOrder g (n1 hc.P)) (hmd : Ints w mo md) (hL : LL w v L) (hS : Ints w sv S) (ha : AscIn n S) :
  Calls Tryz.prog 11 #[.agg #[.int .i64 p, .int .i64 M, mo, .int .i64 n, v], sv] w (RetX w fun r w' => ∃ mo' kv, r = .tuple #[.agg #[.int .i64 p, .int .i64 M, mo', .int .i64 n, kv], .int .i64 0] ∧ mo'.oneCell' = true ∧
   LL w' kv (Ml.canonM (opsP hc.P) (Ml.canonM (opsP hc.P) (Ml.suppM (opsP hc.P) L n S) n).1 n).1) := by
 have hv1 := hL.one
 have hm1 := hmd.one
 have hvc := QB hv1
 have hn1 := hc.h2
 have hlen := hc.mv.len
 have hRl : RlIn hc.P n L := ⟨hc.rl, hc.inr⟩
 have hsr : RlIn hc.P n (Ml.suppM (opsP hc.P) L n S) := RlIn.mul
 have hsc := (QbL hgen hsr).1
 have hcl := Ml.canonM_len (o := opsP hc.P) (rows := Ml.suppM (opsP hc.P) L n S) (cols := n)
 have hor : ∀ x ∈ Ml.outM S n, 0 ≤ x ∧ x < (n : Int) := fun x hx => by
  obtain ⟨j, hj, _, rfl⟩ := Ml.outM_mem.1 hx
  omega
 have hCl : (Ml.columnsM L (Ml.outM S n)).length = L.length := by simp [Ml.columnsM]
 have hTr := (hRl.cols hor).trans
 rw [hCl] at hTr
 obtain ⟨-, hNl, -⟩ := Xq hgen hTr
 have hsl : (Ml.suppM (opsP hc.P) L n S).length ≤ L.length := by rw [Ml.suppM, Ml.mulM, List.length_map]; exact hNl
 refine QD Tryz.func11 rfl rfl (Qc (Qb [0,1,2] rfl (BXA rfl wu rfl rfl ?_)))
 intro cb w1 hE1 hB hcb
 refine AL rfl wu rfl Qc5 ?_
 intro rb w2 hE2 hC hrb
 replace hB := hB.ext hE2
 refine Qk rfl rfl (Qd (Qa (Qc (Qc ?_))))
 have hE := hE1.trans hE2
 have hz1 := hE1.size
 have hlC := hC.lt
 refine Qb [0,1,2] rfl (Vw rfl (ldA rfl Jx hB) (C rfl wu rfl rfl Tryz.call38 (Qa9 p M mo v md n L _ hc.ok (hmd.ext hE) (hL.ext hE) hc.mv hc.can hc.h1 hc.h2) ?_))
 rintro _ w3 hE3 rfl
 replace hB := hB.ext hE3
 replace hC := hC.ext hE3
 replace hE := hE.trans hE3
 refine Qk rfl rfl (Qd (Qa (Qc (Qb [0,1] rfl (mvV rfl rfl (QG rfl rfl rfl (Qd (Qa (Qn rfl (rfl) (Qe (Qa (Qc (Qb [0,1,2,3,4,5,6,7,8,9,10,11,12,13,14] rfl (Qz rfl rfl Zy ?_))))))))))))))
 refine Vw rfl (ldA rfl Zf hB) (Qz rfl rfl Zr (Vw rfl (ldB rfl na3 hB) (Qz rfl rfl ZE (Vw rfl (ldB rfl Zm hB) (Vw rfl (bld (us := [.int .i64 n, v]) (r := [.int .i64 n, v]) rfl (QdE _ _ hvc)) (mvV rfl rfl (C rfl wu rfl rfl Tryz.call39 (QbT hc.P p M mo v sv md n L S _ hc.ok rfl hgen (hmd.ext hE) (hL.ext hE) hc.mv hc.can hc.h1 (hS.ext hE) ha) ?_)))))))
 rintro _ wa hEa ⟨kv, rfl, hkv⟩
 refine mvV rfl rfl (QI rfl rfl rfl (QI rfl rfl rfl ?_))
 have hk1 := hkv.one
 refine AL rfl wu rfl KW ?_
 intro lb wb hEb hLb hlb
 refine STB (vs := [.int .i64 n, kv]) (cs' := [.int .i64 n, kv]) rfl wu rfl rfl rfl JN nofun hLb oc2 rfl rfl rfl ?_
 intro wc hgc hXc hLc
 refine Qk rfl rfl (Qd (Qa (Qc (Qc ?_))))
 have hX0 := hXc wa hlb hEb
 replace hkv := hkv.ll.ext hX0
 have hX := hEa.trans hX0
 replace hB := hB.ext hX
 replace hC := hC.ext hX
 replace hE := hE.trans hX
 clear hX0 hX hEa hEb hLb hgc hXc
 refine Qb [0,1] rfl (mvV rfl rfl (QG rfl rfl rfl (Qd (Qa (Qn rfl (rfl) (Qe (Qa (Qc ?_))))))))
 have hlC2 := hC.lt
 refine Qb [0,1,2,3,4,5,6,7] rfl (Qz rfl rfl Zy (Vw rfl (ldA rfl Zf hB) (Vw rfl (ldA rfl ZP hLc) (C rfl wu rfl rfl Tryz.call40 (cdNew p M mo kv md n _ _ hc.ok (hmd.ext hE) hml hkv (rlMv hsc (by omega) (by omega)) hc.h1 hc.h2) ?_))))
 rintro _ wa hEa ⟨mo', lv, rfl, hmo', hlv⟩
 refine QI rfl rfl rfl (QI rfl rfl rfl ?_)
 have hm2 := (OwnI.ints hmo').one
 have hl2 := hlv.one
 refine STB (vs := [.int .i64 p, .int .i64 M, mo', .int .i64 n, lv]) (cs' := [.int .i64 p, .int .i64 M, mo', .int .i64 n, lv]) rfl wu rfl rfl rfl QbS nofun (hC.ext hEa) oc5 rfl rfl rfl ?_
 intro wz hgz hXz hCz
 refine Qk rfl rfl (Qd (Qa (Qq ?_)))
 have hGz := Gr.of_grown hgz (X := [rb]) (fun k hk => by simp [Option.some.inj hk])
 refine QJ rfl rfl rfl Jx hCz rfl ?_
 exact ⟨hXz w (by omega) (hE.trans hEa), mo', lv, rfl, hm2, (hlv.gr hGz (fun k hk => by rw [List.mem_singleton.1 hk]; exact hlC2)).ll⟩
end Go.Proofs.YtcfbigmjjpknfaaGreatDoor
namespace Go.Proofs.YtcfbigmjjpknfaaGreatDoor
open Go Go.Sx Go.Pl Go.RowKit Go.Fd Go.Alg
theorem inr_of {q : Int} {P : FP} (hq : q = P.q) {l : List Int} (h : ∀ j : Nat, j < l.length → 0 ≤ gi l j ∧ gi l j < q) : InR P l := fun x hx => by
 subst hq
 obtain ⟨t, ht, rfl⟩ := List.getElem_of_mem hx
 have := h t ht
 rw [Jw ht] at this
 exact this
set_option maxRecDepth 10000 in
theorem rElems (P : FP) (mo : Value) (md : List Int) (u : Value) (l : List Int) (n e : Int) (w : World) (hF : FV w P mo md) (hu : Ints w u l) (he : e ≠ 0) :
  Calls Tryz.prog 18 #[fv P mo, u, .int .i64 n, .int .i64 e] w (RetX w fun v _ => ∃ z : Int, v = .int .i64 z ∧ (z = 0 → (l.length : Int) = n ∧ InR P l)) := by
 have hle := hu.le
 refine JW Tryz.func18 rfl rfl (Qc (Qb [0,1] rfl (BXA rfl wu rfl rfl ?_)))
 intro fb w1 hE hB hg
 refine Qk rfl rfl (Qd (Qa (Qc (Qc ?_))))
 have hui := hu.ext hE
 refine Qb [0,1,2,3] rfl (mvV rfl rfl (Vw rfl (Zh rfl QA hui) (mvV rfl rfl (QG rfl rfl rfl (Qd (Qa (Qo rfl ?_ ?_)))))))
 ·intro h
  simp at h
  refine Qc (Qb [0,1] rfl (mvV rfl rfl (Qk rfl rfl (Qd (Qa (Qq (Qp (Qj rfl rfl ?_))))))))
  exact ⟨hE, e, rfl, fun h => absurd h he⟩
 ·intro h
  simp at h
  obtain rfl : n = l.length := h.symm
  refine Qe (Qa (Qc (Qc (Qb [0] rfl (Qk rfl rfl (Qd (Qa (Qf ?_))))))))
  refine Qv (fun i : Nat => [(4, .pointer (some ⟨fb, 0, none⟩)), (1, u), (2, .int .i64 l.length), (9, .int .i64 i)])
   (fun i w' => i ≤ l.length ∧ Ext w w' ∧ Blk w' fb 24 #[.int .i64 P.p, .int .i64 P.M, mo] ∧ ∀ j : Nat, j < i → 0 ≤ gi l j ∧ gi l j < P.q) (fun i => l.length - i) 0 ⟨rfl, rfl, rfl, rfl, trivial⟩ ⟨by omega, hE, hB, fun j hj => by omega⟩ ?_
  clear hE hB hui
  rintro i w2 ⟨i1, hE, hB, ha⟩
  have hui := hu.ext hE
  try dsimp only
  refine Qc (Qc (Qb [0,1,2] rfl (mvV rfl rfl (mvV rfl rfl (Qy rfl rfl rfl (Qd (Qa (Qo rfl ?_ ?_))))))))
  ·intro hc
   simp at hc
   refine Qe (Qa (Qc (Qf (Qc (Qx QK [0,1,2,3,4,5,6] (by kernel_rfl) ?_)))))
   intro w3 hd _
   replace hE := hE.trans hd
   replace hB := hB.ext hd
   replace hui := hui.ext hd
   refine Vw rfl (ldA rfl Zf hB) (mvV rfl rfl (mvV rfl rfl (Vw rfl (QO rfl rfl QA hui (by omega) (by omega)) (Vw rfl (ldI rfl na3 hui) (C rfl wu rfl rfl Tryz.call51 (rIs P mo md (gi l i) _ (hF.ext hE)) ?_)))))
   rintro _ w4 hE4 rfl
   replace hE := hE.trans hE4
   replace hB := hB.ext hE4
   refine ZC rfl rfl (Qd (Qa (Qo rfl ?_ ?_)))
   ·intro h2
    refine Qc (Qb [0] rfl (Qk rfl rfl (Qd (Qa (Qq (Qu (Qp (QE (Qu (Qp (Qj rfl rfl ?_)))))))))))
    exact ⟨hE, 2, rfl, fun h => absurd h (by decide)⟩
   ·intro h2
    simp at h2
    refine Qe (Qg (Qa (Qb [0,1,2] rfl (mvV rfl rfl (Qw rfl rfl rfl (Qk rfl rfl (Qd (Qi (i + 1) ⟨rfl, rfl, rfl, rfl, trivial⟩ ⟨by omega, hE, hB, fun j hj => ?_⟩ (by omega)))))))))
    rcases Nat.lt_or_eq_of_le (Nat.le_of_lt_succ hj) with e1 | e1
    ·exact ha j e1
    ·rw [e1]; exact h2
  ·intro hc
   simp at hc
   refine Qt (Ql (Qm (Qh (Qa (Qc (Qb [0] rfl (Qk rfl rfl (Qd (Qa (Qq (Qj rfl rfl ?_)))))))))))
   exact ⟨hE, 0, rfl, fun _ => ⟨rfl, inr_of rfl fun j hj => ha j (by omega)⟩⟩
end Go.Proofs.YtcfbigmjjpknfaaGreatDoor
