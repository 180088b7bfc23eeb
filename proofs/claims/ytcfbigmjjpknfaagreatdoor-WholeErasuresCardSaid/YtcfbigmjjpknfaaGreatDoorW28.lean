import Derived.Test.YtcfbigmjjpknfaaGreatDoorW25
import Derived.Test.YtcfbigmjjpknfaaGreatDoorW16
import Derived.Test.YtcfbigmjjpknfaaGreatDoorW27
namespace Go.Pl
def swZ (L : List Int) (i j : Nat) : List Int := si (si L i (gi L j)) j (gi L i)
theorem swZ_get {L : List Int} {i j : Nat} (hi : i < L.length) (hj : j < L.length) (t : Nat) : gi (swZ L i j) t = if t = j then gi L i else if t = i then gi L j else gi L t := by
 simp only [swZ, gi, si, Int.toNat_natCast, List.getD_eq_getElem?_getD, List.getElem?_set, List.length_set]
 by_cases e1 : t = j
 ·subst e1; simp [hj]
 ·rw [if_neg (fun h => e1 h.symm), if_neg e1]
  by_cases e2 : t = i
  ·subst e2; simp [hi]
  ·rw [if_neg (fun h => e2 h.symm), if_neg e2]
theorem swZ_perm {L : List Int} {i j : Nat} (hi : i < L.length) (hj : j < L.length) : (swZ L i j).Perm L := by
 have h := List.set_set_perm hi hj
 simp only [swZ, gi, si, Int.toNat_natCast]
 rw [List.getD_eq_getElem?_getD, List.getD_eq_getElem?_getD, List.getElem?_eq_getElem hi, List.getElem?_eq_getElem hj]
 exact h
def ZoJ (L : List Int) (i j : Nat) : Prop := ∀ p q : Nat, p < q → q ≤ i → q ≠ j → gi L p ≤ gi L q
def ZoI (L : List Int) (i : Nat) : Prop := ∀ p q : Nat, p < q → q < i → gi L p ≤ gi L q
theorem ZoI.begin {L : List Int} {i : Nat} (h : ZoI L i) : ZoJ L i i := fun p q hpq hq hne => h p q hpq (by omega)
theorem ZoI.le {L : List Int} {i j : Nat} (h : ZoI L i) (hj : j ≤ i) : ZoI L j := fun p q hpq hq => h p q hpq (by omega)
theorem ZoJ.step {L : List Int} {i j : Nat} (h : ZoJ L i (j + 1)) (hj : j + 1 ≤ i) (hi : i < L.length) (hlt : gi L ((j + 1 : Nat) : Int) < gi L j) : ZoJ (swZ L (j + 1) j) i j := by
 intro p q hpq hq hne
 rw [swZ_get (by omega) (by omega), swZ_get (by omega) (by omega), if_neg (show q ≠ j from hne)]
 by_cases e1 : q = j + 1
 ·rw [if_pos e1]
  by_cases e2 : p = j
  ·rw [if_pos e2]; omega
  ·rw [if_neg e2, if_neg (by omega)]
   exact h p j (by omega) (by omega) (by omega)
 ·rw [if_neg e1]
  by_cases e2 : p = j
  ·rw [if_pos e2]
   exact h (j + 1) q (by omega) hq (by omega)
  ·rw [if_neg e2]
   by_cases e3 : p = j + 1
   ·rw [if_pos e3]
    exact h j q (by omega) hq (by omega)
   ·rw [if_neg e3]
    exact h p q hpq hq e1
theorem ZoJ.stop {L : List Int} {i j : Nat} (h : ZoJ L i j) (hs : j = 0 ∨ ∃ k, j = k + 1 ∧ ¬ gi L j < gi L (k : Nat)) (hji : j ≤ i) : ZoI L (i + 1) := by
 intro p q hpq hq
 by_cases e : q = j
 ·rcases hs with rfl | ⟨k, rfl, hk⟩
  ·omega
  ·rw [e]
   by_cases e2 : p = k
   ·rw [e2]; omega
   ·have := h p k (by omega) (by omega) (by omega)
    omega
 ·exact h p q hpq (by omega) e
end Go.Pl
namespace Go.Proofs.YtcfbigmjjpknfaaGreatDoor
open Go Go.Sx Go.Pl Go.RowKit Go.Fd
theorem cLess (x y : Int) (w : World) : Calls Tryz.prog 315 #[.int .i64 x, .int .i64 y] w (RetX w fun r _ => r = .bool (decide (x < y))) := by
 refine QD Tryz.func315 rfl rfl (Qc (Qb [0] rfl (Qk rfl rfl (Qd (Qa (Qc (Qb [0,1,2,3,4,5,6,7,8,9,10,11,12] rfl (mvV rfl rfl (C rfl wu rfl rfl Tryz.call364 (KC x _) ?_)))))))))
 rintro _ w2 hE2 rfl
 refine mvV rfl rfl (KB 7 false rfl (rfl) (SK rfl rfl rfl rfl rfl (SK rfl rfl rfl rfl rfl (SK rfl rfl rfl rfl rfl (pkV rfl rfl rfl (mvV rfl rfl (KB 12 false rfl (rfl) (Vg rfl rfl rfl (mv rfl) (Vg rfl rfl rfl (mv rfl) ?_)))))))))
 refine Vg rfl rfl rfl (Qan rfl rfl) (pkV rfl rfl rfl (Qk rfl rfl (Qd (Qa (Qq (Qj rfl rfl ?_))))))
 exact ⟨hE2, rfl⟩
set_option maxRecDepth 10000 in
theorem Qc6 (v : Value) (L0 : List Int) (B : Nat) (w : World) (ho : OwnI B w v 3 L0) (hn : L0.length ≤ 1048576) :
  Calls Tryz.prog 309 #[v, .int .i64 0, .int .i64 L0.length] w (RetG v.ownBlock.toList w fun r w' => r = .tuple #[] ∧ ∃ L, L.Perm L0 ∧ ZoI L L.length ∧ OwnI B w' v 3 L) := by
 refine QS Tryz.func309 rfl rfl (Qc (Qb [0,1,2] rfl (mvV rfl rfl (Qw rfl rfl rfl (Qk rfl rfl (Qd (Qa (Qf ?_))))))))
 refine Qv (fun i : Nat => [(0, v), (1, .int .i64 0), (2, .int .i64 L0.length), (6, .int .i64 i)])
  (fun i w' => 1 ≤ i ∧ i ≤ L0.length + 1 ∧ Gr v.ownBlock.toList w w' ∧ ∃ L, L.Perm L0 ∧ ZoI L (min i L0.length) ∧ OwnI B w' v 3 L) (fun i => L0.length + 1 - i) 1 ⟨rfl, rfl, rfl, rfl, trivial⟩ ⟨by omega, by omega, Gr.refl _ _, L0, List.Perm.refl _, fun p q hpq hq => by omega, ho⟩ ?_
 clear ho
 rintro i w1 ⟨i0, i1, hS, L, hp, hso, ho⟩
 have hlen := hp.length_eq
 try dsimp only
 refine Qc (Qc (Qb [0,1,2] rfl (mvV rfl rfl (mvV rfl rfl (Qy rfl rfl rfl (Qd (Qa (Qo rfl ?_ ?_))))))))
 ·intro hc
  simp at hc
  refine Qe (Qa (Qc (Qf (Qc (Qb [0,1] rfl (mvV rfl rfl (Qk rfl rfl (Qd (Qa (Qf ?_))))))))))
  refine Qv (fun j : Nat => [(0, v), (1, .int .i64 0), (2, .int .i64 L0.length), (6, .int .i64 i), (7, .int .i64 j)])
   (fun j w' => j ≤ i ∧ Gr v.ownBlock.toList w w' ∧ ∃ L, L.Perm L0 ∧ ZoJ L i j ∧ OwnI B w' v 3 L) (fun j => j) i ⟨rfl, rfl, rfl, rfl, rfl, trivial⟩ ⟨by omega, hS, L, hp, (hso.le (j := i) (by omega)).begin, ho⟩ ?_
  clear hS hp hso ho hlen
  clear L w1
  rintro j w1 ⟨j1, hS, L, hp, hso, ho⟩
  have hlen := hp.length_eq
  have hi := OwnI.ints ho
  try dsimp only
  refine Qc (Qc ?_)
  rcases Nat.eq_zero_or_pos j with rfl | hj0
  ·skip
   refine Qx QK [0,1,2,3,4,5,6,7,8,9,10,11,12,13,14] (by kernel_rfl) ?_
   intro w2 hd _
   replace ho := ho.ext hd
   refine mvV rfl rfl (mvV rfl rfl (ZA rfl rfl rfl (mvV rfl rfl (KB 19 false rfl (by simp) (SK rfl rfl rfl rfl rfl (SK rfl rfl rfl rfl rfl (SK rfl rfl rfl rfl rfl (SK rfl rfl rfl rfl rfl (SK rfl rfl rfl rfl rfl ?_)))))))))
   refine SK rfl rfl rfl rfl rfl (SK rfl rfl rfl rfl rfl (SK rfl rfl rfl rfl rfl (SK rfl rfl rfl rfl rfl (SK rfl rfl rfl rfl rfl (pkV rfl rfl rfl (Qd (Qa (Qn rfl (by rfl) (Qt (Ql (Qm (Qh (Qg (Qa (Qb [0,1,2] rfl ?_)))))))))))))))
   refine mvV rfl rfl (Qw rfl rfl rfl (Qk rfl rfl (Qd ?_)))
   exact Qi (i + 1) ⟨rfl, rfl, rfl, rfl, trivial⟩ ⟨by omega, by omega, hS.trans (Gr.of_ext hd), L, hp, by rw [Nat.min_eq_left (by omega)]; exact hso.stop (.inl rfl) (by omega), ho⟩ (by omega)
  ·obtain ⟨k, rfl⟩ : ∃ k, j = k + 1 := ⟨j - 1, by omega⟩
   have e2 : ((k + 1 : Nat) : Int) - 1 = (k : Nat) := by omega
   refine Qx QK [0,1,2,3,4,5,6,7,8,9,10,11,12,13,14] (by kernel_rfl) ?_
   intro w2 hd _
   replace ho := ho.ext hd
   replace hi := hi.ext hd
   refine mvV rfl rfl (mvV rfl rfl (ZA rfl rfl rfl (mvV rfl rfl (KB 19 true rfl (by simp) (Vg rfl rfl rfl (mv rfl) (Vg rfl rfl rfl (mv rfl) (Vg rfl rfl rfl (QO rfl rfl QA hi (by omega) (by omega)) (Vg rfl rfl rfl (ldI rfl na3 hi (Ext.refl _) (by omega) (by omega)) (Vg rfl rfl rfl (mv rfl) ?_)))))))))
   refine Vg rfl rfl rfl (mv rfl) (Vg rfl rfl rfl (subI rfl rfl) (Vg rfl rfl rfl (QO rfl rfl QA hi (by omega) (by omega)) (Vg rfl rfl rfl (ldI rfl na3 hi (Ext.refl _) (by omega) (by omega)) (C rfl (wg rfl rfl) rfl rfl Tryz.call315 (cLess _ _ _) ?_))))
   rintro _ w3 hE3 rfl
   refine pkV rfl rfl rfl (Qd (Qa ?_))
   replace ho := OwnI.ext ho hE3
   replace hi := hi.ext hE3
   refine Qo rfl ?_ ?_
   ·intro hc1
    replace hc1 := of_decide_eq_true hc1
    refine Qe (Qa (Qc (Qf (Qx QK [0,1,2,3,4,5,6,7,8,9,10,11,12,13,14,15,16,17] (by kernel_rfl) ?_))))
    intro w4 hd4 _
    replace ho := ho.ext hd4
    replace hi := hi.ext hd4
    refine mvV rfl rfl (mvV rfl rfl (mvV rfl rfl (mvV rfl rfl (Zd rfl rfl rfl (mvV rfl rfl (mvV rfl rfl (Zd rfl rfl rfl (Vw rfl (QO rfl rfl QA hi (by omega) (by omega)) (Vw rfl (ldI rfl na3 hi (Ext.refl _) (by omega) (by omega)) ?_)))))))))
    refine mvV rfl rfl (mvV rfl rfl (Vw rfl (QO rfl rfl QA hi (by omega) (by omega)) (Vw rfl (ldI rfl na3 hi (Ext.refl _) (by omega) (by omega)) (Vw rfl (QO rfl rfl QA hi (by omega) (by omega)) (STI rfl wu rfl rfl sz3 (by intro h; kernel_rfl) ?_ (ho := ho) (h0 := by omega) (h1 := by omega))))))
    intro w5 hg5 hX5 ho5 hi5
    refine Vw rfl (QO rfl rfl QA hi5 (by omega) (by rw [Zp]; omega)) (STI rfl wu rfl rfl sz3 (by intro h; kernel_rfl) ?_ (ho := ho5) (h0 := by omega) (h1 := by rw [Zp]; omega))
    intro w6 hg6 hX6 ho6 hi6
    refine Qd (Qg (Qa ?_))
    rw [e2] at ho6 hc1
    replace ho6 : OwnI B w6 v 3 (swZ L (k + 1) k) := ho6
    have hS6 : Gr v.ownBlock.toList w w6 := (((hS.trans (Gr.of_ext hd)).trans (Gr.of_ext hE3)).trans (Gr.of_ext hd4)).trans ((Gr.of_grown hg5 (fun k hk => by simp [hk])).trans (Gr.of_grown hg6 (fun k hk => by simp [hk])))
    refine Qb [0,1,2] rfl (mvV rfl rfl (Zd rfl rfl rfl (Qk rfl rfl (Qd ?_))))
    rw [e2]
    exact Qi k ⟨rfl, rfl, rfl, rfl, rfl, trivial⟩ ⟨by omega, hS6, _, (swZ_perm (by omega) (by omega)).trans hp, hso.step (by omega) (by omega) hc1, ho6⟩ (by omega)
   ·intro hc1
    replace hc1 := of_decide_eq_false hc1
    rw [e2] at hc1
    refine Qt (Ql (Qm (Qh (Qg (Qa (Qb [0,1,2] rfl (mvV rfl rfl (Qw rfl rfl rfl (Qk rfl rfl (Qd ?_))))))))))
    exact Qi (i + 1) ⟨rfl, rfl, rfl, rfl, trivial⟩ ⟨by omega, by omega, (hS.trans (Gr.of_ext hd)).trans (Gr.of_ext hE3), L, hp, by rw [Nat.min_eq_left (by omega)]; exact hso.stop (.inr ⟨k, rfl, hc1⟩) (by omega), ho⟩ (by omega)
 ·intro hc
  simp at hc
  refine Qt (Ql (Qm (Qh (QX rfl ⟨hS, rfl, L, hp, ?_, ho⟩))))
  rw [hlen]
  exact hso.le (by omega)
theorem zPdq (v : Value) (L0 : List Int) (B : Nat) (lim : Int) (w : World) (ho : OwnI B w v 3 L0) (hn : L0.length ≤ 12) :
  Calls Tryz.prog 238 #[v, .int .i64 0, .int .i64 L0.length, .int .i64 lim] w (RetG v.ownBlock.toList w fun r w' => r = .tuple #[] ∧ ∃ L, L.Perm L0 ∧ ZoI L L.length ∧ OwnI B w' v 3 L) := by
 refine JW Tryz.func238 rfl rfl (Qc (Qb [0] rfl (Qk rfl rfl (Qd (Qa (Qc (Qb [0] rfl (Qk rfl rfl (Qd (Qa (Qf ?_)))))))))))
 refine Qv (fun _ : Unit => [(0, v), (1, .int .i64 0), (2, .int .i64 L0.length)]) (fun _ w' => w' = w) (fun _ => 0) () ⟨rfl, rfl, rfl, trivial⟩ rfl ?_
 rintro _ w1 rfl
 try dsimp only
 refine Qf (Qc (Qb [0,1,2,3] rfl (mvV rfl rfl (mvV rfl rfl (Zd rfl rfl rfl (Qk rfl rfl (Qd (Qa (Qc (Qc (Qb [0,1] rfl (mvV rfl rfl (Vw rfl (Qbz rfl rfl) ?_)))))))))))))
 refine Qd (Qa (QC rfl (by simp; omega) (Qc (Qb [0,1,2,3] rfl (mvV rfl rfl (mvV rfl rfl (mvV rfl rfl (CG rfl wu rfl rfl Tryz.call309 (Qc6 v L0 B _ ho (by omega)) nofun ?_))))))))
 rintro _ w2 hG2 ⟨rfl, hfin⟩
 refine Qd (Qa (Qq (Qp (Qu (QE (Qu (Xl rfl ?_)))))))
 exact ⟨hG2, rfl, hfin⟩
theorem zSort (v : Value) (L0 : List Int) (B : Nat) (w : World) (ho : OwnI B w v 3 L0) (hn : L0.length ≤ 12) :
  Calls Tryz.prog 131 #[v] w (RetG v.ownBlock.toList w fun r w' => r = .tuple #[] ∧ ∃ L, L.Perm L0 ∧ ZoI L L.length ∧ OwnI B w' v 3 L) := by
 have hw8 : IntKind.u64.wrap (L0.length : Int) = L0.length := by simp [IntKind.wrap, IntKind.bits, IntKind.signed]; omega
 refine QL Tryz.func131 rfl rfl (Qc (Qb [0,1,2] rfl (mvV rfl rfl (Vw rfl (Zh rfl QA (OwnI.ints ho)) (Qk rfl rfl (Qd (Qa (Qb [0,1,2,3,4,5] rfl (mvV rfl rfl (mvV rfl rfl ?_))))))))))
 refine mvV rfl rfl (Vw rfl (cvK (q := .u64) rfl (by kernel_rfl) (by kernel_rfl)) ?_)
 rw [hw8]
 refine C rfl wu rfl rfl Tryz.call239 (bLen L0.length _ (by omega) (by omega)) ?_
 rintro _ w1 hE ⟨lim, rfl⟩
 refine CG rfl wu rfl rfl Tryz.call238 (zPdq v L0 B lim _ (OwnI.ext ho hE) hn) nofun ?_
 rintro _ w2 hG2 ⟨rfl, hfin⟩
 refine Qd ?_
 exact QX rfl ⟨(Gr.of_ext hE).trans hG2, rfl, hfin⟩
end Go.Proofs.YtcfbigmjjpknfaaGreatDoor
namespace Go.Pl
theorem ZoI.pairwise {L : List Int} (h : ZoI L L.length) : L.Pairwise fun a b => a ≤ b := List.pairwise_iff_getElem.2 fun i j hi hj hij => by
 have h1 := h i j hij hj
 simpa [gi, List.getD_eq_getElem?_getD, hi, hj] using h1
theorem ZoI.eq {L M : List Int} (h : ZoI L L.length) (hp : L.Perm M) (hM : M.Pairwise fun a b => a ≤ b) : L = M :=
 List.Perm.eq_of_pairwise (le := fun a b => a ≤ b) (fun _ _ _ _ h1 h2 => Int.le_antisymm h1 h2) h.pairwise hM hp
end Go.Pl
namespace Go.Ml
open Go.Pl
def sel (used : List Int) (old : Bool) (i : Nat) : List Int := ((List.range i).filter fun x : Nat => decide ((x : Int) ∈ used) == old).map Int.ofNat
theorem sel_yes {used : List Int} {old : Bool} {i : Nat} (h : (decide ((i : Int) ∈ used) == old) = true) : sel used old (i + 1) = sel used old i ++ [(i : Int)] := by
 rw [sel, List.range_succ, List.filter_append, List.map_append]
 simp only [List.filter_cons, h, if_true, List.filter_nil, List.map_cons, List.map_nil]
 rfl
theorem sel_no {used : List Int} {old : Bool} {i : Nat} (h : (decide ((i : Int) ∈ used) == old) = false) : sel used old (i + 1) = sel used old i := by
 rw [sel, List.range_succ, List.filter_append, List.map_append]
 simp [h, sel]
theorem sel_len {used : List Int} {old : Bool} {i : Nat} : (sel used old i).length ≤ i := by
 rw [sel, List.length_map]
 refine Nat.le_trans (List.length_filter_le _ _) ?_
 rw [List.length_range]
 exact Nat.le_refl _
def cnt (used set : List Int) (j : Nat) : Nat := ((set.take j).filter fun x => !decide (x ∈ used)).length
theorem cnt_succ {used set : List Int} {j : Nat} (h : j < set.length) : cnt used set (j + 1) = cnt used set j + if gi set j ∈ used then 0 else 1 := by
 rw [cnt, take_step' h, List.filter_append, List.length_append]
 by_cases e : gi set j ∈ used <;> simp [e, cnt]
def usedT : Nat → List Int
 | 0 => []
 | 1 => [0, 1, 2, 3]
 | _ => [0, 1, 2, 3, 0, 4, 5, 6]
def ordT (t : Nat) : List Int := sel (usedT t) false 7 ++ sel (usedT t) true 7
def setT : Nat → List Int
 | 0 => [0, 1, 2, 3]
 | 1 => [4, 5, 6, 0]
 | _ => [0, 1, 2, 3]
def srtT : Nat → List Int
 | 0 => [0, 1, 2, 3]
 | _ => [0, 4, 5, 6]
def rkT : Nat → Nat
 | 0 => 4
 | 1 => 3
 | _ => 0
theorem ordT_in : ∀ t : Nat, t < 3 → ∀ x ∈ ordT t, 0 ≤ x ∧ x < 7 := by decide
theorem rkT_eq : ∀ t : Nat, t < 3 → cnt (usedT t) (setT t) (setT t).length = rkT t := by decide
theorem srtT_perm : ∀ t : Nat, t < 2 → (setT t).Perm (srtT t) := by decide
theorem srtT_up : ∀ t : Nat, t < 2 → (srtT t).Pairwise fun a b => a ≤ b := by decide
theorem usedT_step : ∀ t : Nat, t < 2 → usedT t ++ srtT t = usedT (t + 1) := by decide
theorem setT_len : ∀ t : Nat, t < 3 → (setT t).length = 4 := by decide
end Go.Ml
namespace Go.Proofs.YtcfbigmjjpknfaaGreatDoor
open Go Go.Sx Go.Pl Go.RowKit Go.Fd Go.Alg
theorem OwnV.gr {B : Nat} {w w' : World} {v : Value} {E : TypeId} {s : Nat} {L : List (List Value)} {X : List Nat} (h : OwnV B w v E s L) (hg : Gr X w w') (hX : ∀ k, v.ownBlock = some k → k ∉ X) : OwnV B w' v E s L :=
 ⟨Jp h.row fun k hk => hg.block k (h.lt k hk).2 (hX k hk), h.rows, h.le⟩
theorem QaI : ∀ j : Nat, (Ml.srtT j).length = 4
 | 0 => rfl
 | _ + 1 => rfl
theorem hamOk : CdOk 2 1 [] 7 hamG := ⟨ok2, ham_mv, ham_can, by decide, by decide⟩
theorem setT_gr : ∀ t : Nat, t < 3 → (Ml.greedyM (opsP P2) hamG (Ml.ordT t)).2.2 = Ml.setT t := by rw [ops2]; decide +kernel
def famRows (S : List Value) : List (List Value) := (List.range S.length).map fun j => [S.getD j undef, .int .i64 (Ml.rkT j : Nat)]
theorem Qch {S : List Value} {s : Value} : famRows (S ++ [s]) = famRows S ++ [[s, .int .i64 (Ml.rkT S.length : Nat)]] := by
 unfold famRows
 rw [List.length_append, List.length_singleton, List.range_succ, List.map_append]
 congr 1
 ·refine List.map_congr_left fun j hj => ?_
  have := List.mem_range.1 hj
  rw [List.getD_eq_getElem?_getD, List.getD_eq_getElem?_getD, List.getElem?_append_left this]
 ·simp
set_option maxRecDepth 20000 in
theorem fmFamily (mo v : Value) (w : World) (hmd : Ints w mo []) (hL : LL w v hamG) :
  Calls Tryz.prog 90 #[.agg #[.int .i64 2, .int .i64 1, mo, .int .i64 7, v]] w (RetX w fun r w' => ∃ ov s0 s1, r = .tuple #[ov, .int .i64 0] ∧ RowsV w' ov 2 [[s0, .int .i64 4], [s1, .int .i64 3]] ∧ Ints w' s0 [0, 1, 2, 3] ∧ Ints w' s1 [0, 4, 5, 6]) := by
 have hv1 := hL.one
 have hm1 := hmd.one
 refine QL Tryz.func90 rfl rfl (Qc (Qb [0,1,2] rfl (BXA rfl wu rfl rfl ?_)))
 intro cb w1 hE1 hB hcb
 refine Qk rfl rfl (Qk rfl rfl (Qd (Qa (Qc (Qb [0,1,2,3,4,5,6] rfl (Vw rfl (ldA rfl Jx hB) (C rfl wu rfl rfl Tryz.call129 (isOpen 2 1 mo v [] 7 hamG _ hamOk (hmd.ext hE1) (hL.ext hE1)) ?_)))))))
 rintro _ w2 hE2 ⟨g, rfl, hG⟩
 refine mvV rfl rfl (QI rfl rfl rfl (QI rfl rfl rfl (Qk rfl rfl (Qk rfl rfl (Qd (Qa (Qc (Qc ?_))))))))
 replace hG : GFV w2 P2 g := hG
 replace hB := hB.ext hE2
 have hE := hE1.trans hE2
 refine Qb [0,1] rfl (mvV rfl rfl (QG rfl rfl rfl (Qd (Qa (Qn rfl (rfl) (Qe (Qa (Qc (Qb [0] rfl (Qk rfl rfl (Qd (Qa (Qc (Qb [0] rfl ?_))))))))))))))
 refine Qk rfl rfl (Qd (Qa (Qf ?_)))
 have hzE := hE.size
 refine Qv (fun s : Nat × Value × Value × List Value => [(1, .pointer (some ⟨cb, 0, none⟩)), (4, g), (6, s.2.2.1), (7, s.2.1)])
  (fun s w' => s.1 < 3 ∧ Ext w2 w' ∧ OwnI w2.heap.size w' s.2.1 3 (Ml.usedT s.1) ∧ OwnV w2.heap.size w' s.2.2.1 149 2 (famRows s.2.2.2) ∧ s.2.2.2.length = s.1 ∧ (∀ j : Nat, j < s.1 → Ints w' (s.2.2.2.getD j undef) (Ml.srtT j) ∧ (∀ k, (s.2.2.2.getD j undef).ownBlock = some k → s.2.1.ownBlock ≠ some k ∧ s.2.2.1.ownBlock ≠ some k)) ∧ (∀ k, s.2.1.ownBlock = some k → s.2.2.1.ownBlock ≠ some k)) (fun s => 3 - s.1) (0, .slice none 0 0, .slice none 0 0, []) ⟨rfl, rfl, rfl, rfl, trivial⟩
  ⟨by omega, Ext.refl _, OwnI.nil _ _ _, OwnV.nil _ _ _ _, rfl, fun j hj => by omega, fun k hk => by (cases hk)⟩ ?_
 rintro ⟨t, uv, ov, S⟩ wr ⟨t3, hEr, huv, hov, hSl, hS, huo⟩
 dsimp only at t3 hEr huv hov hSl hS huo
 have hBr := hB.ext hEr
 have hui := OwnI.ints huv
 have hzr := hEr.size
 try dsimp only
 refine Qf (Qc (Qb [0] rfl (Qk rfl rfl (Qd (Qa (Qc (Qc (Qb [0,1,2] rfl (BS (us := [.bool false, .bool true]) rfl wu rfl rfl rfl rfl QaE (by decide) ?_)))))))))
 intro bv w3 hE3 hbv hbb
 refine Vw rfl (Zt rfl QaE hbv.sl) (mvV rfl rfl (Qd (Qa (Qf ?_))))
 have hz3 := hE3.size
 refine Qv (fun s : Nat × Value => [(1, .pointer (some ⟨cb, 0, none⟩)), (4, g), (6, ov), (7, uv), (8, s.2), (23, bv), (24, .int .i64 2), (25, .int .i64 s.1)])
  (fun s w' => s.1 ≤ 2 ∧ Ext w3 w' ∧ OwnI w3.heap.size w' s.2 3 (if s.1 = 0 then [] else if s.1 = 1 then Ml.sel (Ml.usedT t) false 7 else Ml.ordT t)) (fun s => 2 - s.1) (0, .slice none 0 0) ⟨rfl, rfl, rfl, rfl, rfl, rfl, rfl, rfl, trivial⟩ ⟨by omega, Ext.refl _, OwnI.nil _ _ _⟩ ?_
 rintro ⟨o, qv⟩ w4 ⟨o2, hE4, hqv⟩
 dsimp only at o2 hE4 hqv
 try dsimp only
 refine Qc (Qb [0] rfl (Qy rfl rfl rfl (Qd (Qa (Qc (Qo rfl ?_ ?_))))))
 ·intro hc
  simp at hc
  obtain ⟨old, hold, hob⟩ : ∃ b : Bool, [Value.bool false, .bool true][o]? = some (.bool b) ∧ b = decide (o = 1) := by
   rcases (show o = 0 ∨ o = 1 by omega) with rfl | rfl
   ·exact ⟨false, rfl, rfl⟩
   ·exact ⟨true, rfl, rfl⟩
  have hpre : (if o = 0 then [] else if o = 1 then Ml.sel (Ml.usedT t) false 7 else Ml.ordT t) = if o = 0 then [] else Ml.sel (Ml.usedT t) false 7 := by
   rcases (show o = 0 ∨ o = 1 by omega) with rfl | rfl <;> rfl
  rw [hpre] at hqv
  refine Qe (Qa (Qc (Qf (Qc (Qb [0,1,2] rfl (Vw rfl (iad rfl rfl QaE (hbv.sl.ext hE4) (by omega) (by omega)) (Vw rfl (ldE rfl na4 (hbv.sl.ext hE4) (by rw [Int.toNat_natCast]; exact hold) (Ext.refl _)) (Qk rfl rfl (Qd (Qa (Qc (Qb [0,1,2] rfl (Qz rfl rfl Zr (Vw rfl (ldB rfl na3 ((hBr.ext hE3).ext hE4)) (mvV rfl rfl ?_)))))))))))))))
  refine Qd (Qa (Qf ?_))
  refine Qv (fun s : Nat × Value => [(1, .pointer (some ⟨cb, 0, none⟩)), (4, g), (6, ov), (7, uv), (8, s.2), (10, .bool old), (23, bv), (24, .int .i64 2), (25, .int .i64 o), (30, .int .i64 7), (31, .int .i64 s.1)])
   (fun s w' => s.1 ≤ 7 ∧ Ext w3 w' ∧ OwnI w3.heap.size w' s.2 3 ((if o = 0 then [] else Ml.sel (Ml.usedT t) false 7) ++ Ml.sel (Ml.usedT t) old s.1)) (fun s => 7 - s.1) (0, qv) ⟨rfl, rfl, rfl, rfl, rfl, rfl, rfl, rfl, rfl, rfl, rfl, trivial⟩ ⟨by omega, hE4, by simpa [Ml.sel] using hqv⟩ ?_
  clear hqv hE4
  clear qv w4
  rintro ⟨i, qv⟩ w4 ⟨i7, hE4, hqv⟩
  dsimp only at i7 hE4 hqv
  have hpl : (if o = 0 then [] else Ml.sel (Ml.usedT t) false 7).length ≤ 7 := by
   split
   ·simp
   ·exact Ml.sel_len
  have hsl := Ml.sel_len (used := Ml.usedT t) (old := old) (i := i)
  have hz4 := hE4.size
  try dsimp only
  refine Qc (Qb [0] rfl (Qy rfl rfl rfl (Qd (Qa (Qc (Qo rfl ?_ ?_))))))
  ·intro hi
   simp at hi
   refine Qe (Qa (Qc (Qf (Qc (Qb [0,1] rfl (mvV rfl rfl (Qk rfl rfl (Qd (Qa (Qc (Qb [0,1,2,3,4] rfl (mvV rfl rfl (mvV rfl rfl (C rfl wu rfl rfl Tryz.call30 (ZX uv _ i _ ((hui.ext hE3).ext hE4)) ?_))))))))))))))
   rintro _ w5 hE5 rfl
   refine mvV rfl rfl (Vw rfl (eqlB rfl rfl und4) (Qd (Qa ?_)))
   replace hqv := OwnI.ext hqv hE5
   have hE35 := hE4.trans hE5
   have hz5 := hE35.size
   refine Qo rfl ?_ ?_
   ·intro hb
    refine Qb [0,1,2,3,4] rfl (mvV rfl rfl (mvV rfl rfl (BSI (zs := [(i : Int)]) rfl wu rfl rfl rfl rfl QA ?_)))
    intro kv w6 hE6 hko hki hkb
    refine API rfl wu rfl rfl rfl QA nofun ?_ (ho := OwnI.ext hqv hE6) (hB := by have := hE6.size; omega) (hs := hki) (hE := Ext.refl _) (hlen := by rw [List.length_append]; simp only [List.length_cons, List.length_nil]; omega)
    intro qv2 w7 hg7 hX7 ho7 hi7 hb7
    refine Qk rfl rfl (Qd (Qg (Qa (Qb [0,1] rfl (Qw rfl rfl rfl (mvV rfl rfl (Qd (Qi (i + 1, qv2) ⟨rfl, rfl, rfl, rfl, rfl, rfl, rfl, rfl, rfl, rfl, rfl, trivial⟩ ⟨by dsimp only; omega, hX7 w3 (Nat.le_refl _) (hE35.trans hE6), ?_⟩ (by dsimp only; omega)))))))))
    dsimp only
    rw [Ml.sel_yes hb, ← List.append_assoc]
    exact ho7
   ·intro hb
    refine Qe (Qg (Qa (Qb [0,1] rfl (Qw rfl rfl rfl (mvV rfl rfl (Qd (Qi (i + 1, qv) ⟨rfl, rfl, rfl, rfl, rfl, rfl, rfl, rfl, rfl, rfl, rfl, trivial⟩ ⟨by dsimp only; omega, hE35, ?_⟩ (by dsimp only; omega))))))))
    dsimp only
    rw [Ml.sel_no hb]
    exact hqv
  ·intro hi
   simp at hi
   obtain rfl : i = 7 := by omega
   refine Qt (Ql (Qm (Qh (Qg (Qa (Qb [0,1] rfl (Qw rfl rfl rfl (mvV rfl rfl (Qd (Qi (o + 1, qv) ⟨rfl, rfl, rfl, rfl, rfl, rfl, rfl, rfl, trivial⟩ ⟨by dsimp only; omega, hE4, ?_⟩ (by dsimp only; omega)))))))))))
   dsimp only
   rcases (show o = 0 ∨ o = 1 by omega) with rfl | rfl
   ·subst hob
    exact hqv
   ·subst hob
    exact hqv
 ·intro hc
  simp at hc
  obtain rfl : o = 2 := by omega
  replace hqv : OwnI w3.heap.size w4 qv 3 (Ml.ordT t) := hqv
  have hol : (Ml.ordT t).length ≤ 14 := by
   have h1 := Ml.sel_len (used := Ml.usedT t) (old := false) (i := 7)
   have h2 := Ml.sel_len (used := Ml.usedT t) (old := true) (i := 7)
   rw [Ml.ordT, List.length_append]
   omega
  have hE24 := (hEr.trans hE3).trans hE4
  have hEr4 := hE3.trans hE4
  have hz4 := hEr4.size
  refine Qt (Ql (Qm (Qh (Qa (Qc (Qb [0,1,2,3,4,5,6] rfl (mvV rfl rfl (Vw rfl (ldA rfl Jx (hBr.ext hEr4)) (mvV rfl rfl (C rfl wu rfl rfl Tryz.call130 (QcQ P2 g 2 1 mo v 7 hamG qv (Ml.ordT t) _ (hG.ext hE24) hm1 ((hL.ext hE).ext hE24) hamOk.rl ham_mv.el (by decide) (OwnI.ints hqv) (by omega) (Ml.ordT_in t t3)) ?_))))))))))
  rintro gv w5 hE5 hgv
  rw [setT_gr t t3] at hgv
  have hgv1 := (OwnI.ints hgv).one
  refine Vw rfl (bld rfl (bd149_0 gv (QB hgv1))) (AL rfl wu rfl zv149 ?_)
  intro xb w6 hE6 hX hxb
  refine STB (vs := [gv, .int .i64 0]) (cs' := [gv, .int .i64 0]) rfl wu rfl rfl rfl sv149 nofun hX oc2 rfl rfl rfl ?_
  intro w7 hg7 hX7 hx7
  refine Qd (Qa (Qc (Qc ?_)))
  have hE57 := hX7 w5 hxb hE6
  have hEr7 := (hEr4.trans hE5).trans hE57
  have hz5 := hE5.size
  have hgv7 := OwnI.ext hgv hE57
  have hgvlt := Own.lt hgv
  have hsl4 := Ml.setT_len t t3
  refine Qb [0,1,2,3] rfl (Qz rfl rfl QaZ (Vw rfl (ldB rfl Zk hx7) (Vw rfl (Zh rfl QA (OwnI.ints hgv7)) (mvV rfl rfl (Qd (Qa (Qf ?_)))))))
  rw [hsl4]
  refine Qv (fun j : Nat => [(1, .pointer (some ⟨cb, 0, none⟩)), (4, g), (6, ov), (7, uv), (12, .pointer (some ⟨xb, 0, none⟩)), (51, gv), (52, .int .i64 4), (53, .int .i64 j)])
   (fun j w' => j ≤ 4 ∧ Ext w5 w' ∧ Blk w' xb 149 #[gv, .int .i64 (Ml.cnt (Ml.usedT t) (Ml.setT t) j : Nat)] ∧ Ml.cnt (Ml.usedT t) (Ml.setT t) j ≤ j) (fun j => 4 - j) 0 ⟨rfl, rfl, rfl, rfl, rfl, rfl, rfl, rfl, trivial⟩ ⟨by omega, hE57, hx7, by simp [Ml.cnt]⟩ ?_
  rintro j w8 ⟨j4, hE8, hx8, hcj⟩
  have hgv8 := OwnI.ints (OwnI.ext hgv hE8)
  have hui8 := hui.ext ((hEr4.trans hE5).trans hE8)
  try dsimp only
  refine Qc (Qb [0] rfl (Qy rfl rfl rfl (Qd (Qa (Qc (Qo rfl ?_ ?_))))))
  ·intro hj
   simp at hj
   have hcs := Ml.cnt_succ (used := Ml.usedT t) (set := Ml.setT t) (j := j) (by omega)
   refine Qe (Qa (Qc (Qf (Qc (Qb [0,1,2] rfl (Vw rfl (QO rfl rfl QA hgv8 (by omega) (by omega)) (Vw rfl (ldI rfl na3 hgv8 (Ext.refl _) (by omega) (by omega)) (Qk rfl rfl (Qd (Qa (Qc (Qb [0,1,2,3] rfl (mvV rfl rfl (mvV rfl rfl (C rfl wu rfl rfl Tryz.call30 (ZX uv _ _ _ hui8) ?_)))))))))))))))
   rintro _ w9 hE9 rfl
   refine ZC rfl rfl (Qd (Qa ?_))
   replace hx8 := hx8.ext hE9
   replace hE8 := hE8.trans hE9
   refine Qo rfl ?_ ?_
   ·intro hb
    have hb' : ¬ gi (Ml.setT t) j ∈ Ml.usedT t := by simpa using hb
    rw [if_neg hb'] at hcs
    refine Qb [0,1,2,3,4] rfl (Qz rfl rfl QaY (Vw rfl (ldB rfl na3 hx8) (Qw rfl rfl rfl (Qz rfl rfl QaY (STB (vs := [.int .i64 ((Ml.cnt (Ml.usedT t) (Ml.setT t) j : Int) + 1)]) (cs' := [gv, .int .i64 ((Ml.cnt (Ml.usedT t) (Ml.setT t) j : Int) + 1)]) rfl wu rfl rfl rfl sv3 nofun (by assumption) (by first | exact oc2 | exact oc3 | exact oc5 | (simp [Value.oneCell']; done)) rfl rfl rfl ?_)))))
    intro wa hga hXa hxa
    refine Qd (Qg (Qa (Qb [0,1] rfl (Qw rfl rfl rfl (mvV rfl rfl (Qd (Qi (j + 1) ⟨rfl, rfl, rfl, rfl, rfl, rfl, rfl, rfl, trivial⟩ ⟨by omega, hXa w5 hxb hE8, ?_, by omega⟩ (by omega))))))))
    rw [hcs]
    exact hxa
   ·intro hb
    have hb' : gi (Ml.setT t) j ∈ Ml.usedT t := by simpa using hb
    rw [if_pos hb', Nat.add_zero] at hcs
    refine Qe (Qg (Qa (Qb [0,1] rfl (Qw rfl rfl rfl (mvV rfl rfl (Qd (Qi (j + 1) ⟨rfl, rfl, rfl, rfl, rfl, rfl, rfl, rfl, trivial⟩ ⟨by omega, hE8, ?_, by omega⟩ (by omega))))))))
    rw [hcs]
    exact hx8
  ·intro hj
   simp at hj
   obtain rfl : j = 4 := by omega
   have hrk := Ml.rkT_eq t t3
   rw [hsl4] at hrk
   rw [hrk] at hx8
   have hEr8 := (hEr4.trans hE5).trans hE8
   refine Qt (Ql (Qm (Qh (Qa (Qc (Qc (Qb [0,1,2] rfl (Qz rfl rfl QaY (Vw rfl (ldB rfl na3 hx8) (QU rfl rfl rfl (Qd (Qa ?_))))))))))))
   by_cases ht2 : t = 2
   ·subst ht2
    refine QC rfl (rfl) (Qc (Qb [0,1,2] rfl (mvV rfl rfl (Qk rfl rfl (Qk rfl rfl (Qd (Qa (Qq (Qp (Qu (QE (Qu (QH rfl rfl rfl ?_)))))))))))))
    obtain ⟨s0, s1, rfl⟩ : ∃ s0 s1, S = [s0, s1] := by
     match S, hSl with
     | [a, b], _ => exact ⟨a, b, rfl⟩
    exact ⟨hE.trans (hEr.trans hEr8), ov, s0, s1, rfl, hov.read.ext hEr8, (hS 0 (by decide)).1.ext hEr8, (hS 1 (by decide)).1.ext hEr8⟩
   ·have ht2' : t < 2 := by omega
    have hrp : Ml.rkT t ≠ 0 := by
     rcases (show t = 0 ∨ t = 1 by omega) with rfl | rfl <;> decide
    refine Qn rfl (by simp; omega) (Qe (Qa (Qc (Qb [0,1,2] rfl (Qz rfl rfl QaZ (Vw rfl (ldB rfl Zk hx8) (CG rfl wu rfl rfl Tryz.call131 (zSort gv (Ml.setT t) w4.heap.size _ (OwnI.ext hgv hE8) (by omega)) nofun ?_)))))))
    rintro _ w9 hG9 ⟨rfl, L, hp, hso, hgo⟩
    refine Qd (Qa (Qc ?_))
    obtain rfl : L = Ml.srtT t := hso.eq (hp.trans (Ml.srtT_perm t ht2')) (Ml.srtT_up t ht2')
    have hxg : xb ∉ gv.ownBlock.toList := fun h => by
     have := (hgvlt xb (by simpa using h)).2
     omega
    have hlow : ∀ k, k < wr.heap.size → k ∉ gv.ownBlock.toList := fun k hk h => by
     have := (hgvlt k (by simpa using h)).1
     omega
    have hx9 := hx8.gr hG9 hxg
    have huvlt := Own.lt huv
    have hovlt := hov.lt
    have huv9 : OwnI w2.heap.size w9 uv 3 (Ml.usedT t) := Own.gr (OwnI.ext huv hEr8) hG9 (fun k hk => hlow k (huvlt k hk).2)
    have hov9 := OwnV.gr (hov.ext hEr8) hG9 (fun k hk => hlow k (hovlt k hk).2)
    have hE89 := hE8.size
    have hz9 := hG9.size
    have hzz := hEr8.size
    have hEr9 : Ext wr w9 := hG9.ext hEr8 (fun k hk => Nat.le_of_not_lt fun h => hlow k h hk)
    have hul : (Ml.usedT t).length ≤ 4 := by rcases (show t = 0 ∨ t = 1 by omega) with rfl | rfl <;> decide
    have hsl9 := QaI t
    refine Qb [0,1,2,3,4] rfl (mvV rfl rfl (Qz rfl rfl QaZ (Vw rfl (ldB rfl Zk hx9) (API rfl wu rfl rfl rfl QA nofun ?_ (ho := huv9) (hB := by omega) (hs := OwnI.ints hgo) (hE := Ext.refl _) (hlen := by omega)))))
    intro uv2 wa hga hXa hua hia hba
    refine Qk rfl rfl (Qd (Qa ?_))
    have hGa : Gr uv.ownBlock.toList w9 wa := Gr.of_grown hga (fun k hk => by simp [hk])
    have hxa := hx9.gr hGa (fun h => by have := (huvlt xb (by simpa using h)).2; omega)
    have hgoa : OwnI w4.heap.size wa gv 3 (Ml.srtT t) := Own.gr hgo hGa (fun k hk h => by have := (huvlt k (by simpa using h)).2; have := (hgvlt k hk).1; omega)
    have hova := OwnV.gr hov9 hGa (fun k hk h => huo k (by simpa using h) hk)
    have hgv1a := (OwnI.ints hgoa).one
    have hza := hga.size
    have hfl : (famRows S).length = t := by simp [famRows, hSl]
    refine Qb [0,1,2,3,4] rfl (mvV rfl rfl (Vw rfl (ldA rfl ag149 hxa) (BSV (r := [gv, .int .i64 (Ml.rkT t : Nat)]) rfl wu rfl rfl ty141 rfl (by decide) (by decide) ?_)))
    intro tv wb hEb htv
    refine APV rfl wu rfl rfl rfl ty141 rfl (by decide) nofun ?_ (ho := hova.ext hEb) (hB := by have := hEb.size; omega) (h1c := by intro u hu; simp only [List.mem_cons, List.not_mem_nil, or_false] at hu; rcases hu with rfl | rfl <;> first | rfl | assumption) (hs := htv) (hE := Ext.refl _) (hlen := by omega) (hlen1 := by omega)
    intro ov2 wc hgc hXc hoc hbc
    refine Qk rfl rfl (Qd (Qg ?_))
    have hzb := hEb.size
    have hGc : Gr ov.ownBlock.toList wb wc := Gr.of_grown hgc (fun k hk => by simp [hk])
    have huac : OwnI w2.heap.size wc uv2 3 (Ml.usedT t ++ Ml.srtT t) := Own.gr (OwnI.ext hua hEb) hGc (fun k hk h => by
     have h' : ov.ownBlock = some k := by simpa using h
     rcases hba with e | e
     ·exact huo k (by rw [← e]; exact hk) h'
     ·rw [e] at hk
      have := Option.some.inj hk
      have := (hovlt k h').2
      omega)
    have hgoc : OwnI w4.heap.size wc gv 3 (Ml.srtT t) := Own.gr (OwnI.ext hgoa hEb) hGc (fun k hk h => by have := (hovlt k (by simpa using h)).2; have := (hgvlt k hk).1; omega)
    have hEc : Ext w2 wc := hXc w2 (Nat.le_refl _) ((hXa w2 (Nat.le_refl _) (hEr.trans hEr9)).trans hEb)
    refine Qi (t + 1, uv2, ov2, S ++ [gv]) ⟨rfl, rfl, rfl, rfl, trivial⟩ ⟨by dsimp only; omega, hEc, by rw [Ml.usedT_step t ht2'] at huac; exact huac, ?_, by simp [hSl], fun j hj => ?_, fun k hk hk2 => ?_⟩ (by dsimp only; omega)
    ·dsimp only
     rw [Qch, hSl]
     exact hoc
    ·dsimp only at hj ⊢
     by_cases hjt : j = t
     ·subst hjt
      have e : (S ++ [gv]).getD j undef = gv := by
       rw [List.getD_eq_getElem?_getD, ← hSl, List.getElem?_append_right (Nat.le_refl _)]
       simp
      rw [e]
      refine ⟨OwnI.ints hgoc, fun k hk => ⟨fun h => ?_, fun h => ?_⟩⟩
      ·have h1 := hgvlt k hk
       rcases hba with e | e
       ·have := (huvlt k (by rw [← e]; exact h)).2
        omega
       ·rw [e] at h
        have := Option.some.inj h
        omega
      ·have h1 := hgvlt k hk
       rcases hbc with e | e
       ·have := (hovlt k (by rw [← e]; exact h)).2
        omega
       ·rw [e] at h
        have := Option.some.inj h
        omega
     ·have hjt' : j < t := by omega
      have e : (S ++ [gv]).getD j undef = S.getD j undef := by
       rw [List.getD_eq_getElem?_getD, List.getD_eq_getElem?_getD, List.getElem?_append_left (by omega)]
      rw [e]
      obtain ⟨hs1, hs2⟩ := hS j hjt'
      obtain ⟨ks, hks, hkl⟩ := hs1.lt (by rw [QaI]; omega)
      have hu2 := hs2 ks hks
      have hs9 := (hs1.ext hEr8).gr hG9 (fun k hk => hlow k (by rw [hks] at hk; have := Option.some.inj hk; omega))
      have hsa := hs9.gr hGa (fun k hk h => by rw [hks] at hk; exact hu2.1 (by rw [Option.some.inj hk]; simpa using h))
      have hsc := (hsa.ext hEb).gr hGc (fun k hk h => by rw [hks] at hk; exact hu2.2 (by rw [Option.some.inj hk]; simpa using h))
      refine ⟨hsc, fun k hk => ⟨fun h => ?_, fun h => ?_⟩⟩
      ·rw [hks] at hk
       have hkk := Option.some.inj hk
       rcases hba with e | e
       ·exact hu2.1 (by rw [hkk, ← e]; exact h)
       ·rw [e] at h
        have := Option.some.inj h
        omega
      ·rw [hks] at hk
       have hkk := Option.some.inj hk
       rcases hbc with e | e
       ·exact hu2.2 (by rw [hkk, ← e]; exact h)
       ·rw [e] at h
        have := Option.some.inj h
        omega
    ·dsimp only at hk hk2
     have hlt2 := (Own.lt hua k hk).2
     rcases hbc with e | e
     ·rw [e] at hk2
      rcases hba with e2 | e2
      ·exact huo k (by rw [← e2]; exact hk) hk2
      ·rw [e2] at hk
       have := Option.some.inj hk
       have := (hovlt k hk2).2
       omega
     ·rw [e] at hk2
      have := Option.some.inj hk2
      omega
end Go.Proofs.YtcfbigmjjpknfaaGreatDoor
