import Derived.Test.YteheedbhcfllfaaGreatDoorW38
import Derived.Test.YteheedbhcfllfaaGreatDoorW26
import Derived.Test.YteheedbhcfllfaaGreatDoorW29
namespace Go.Ml
open Go.Pl
variable {n : Nat}
def seenO (n : Nat) (l : List Int) (i : Nat) : List Value := tab n fun y => .bool ((l.take i).contains (y : Int))
theorem seenO_len {l : List Int} {i : Nat} : (seenO n l i).length = n := Qp _ _
theorem seenO_zero {l : List Int} : List.replicate n (Value.bool false) = seenO n l 0 := by rw [seenO, Jp]; rfl
theorem seenO_get {l : List Int} {i y : Nat} (hy : y < n) : (seenO n l i)[y]? = some (.bool ((l.take i).contains (y : Int))) := by
 rw [seenO, Zb hy]
theorem seenO_set {l : List Int} {i y : Nat} (hi : i < l.length) (hy : gi l i = y) : (seenO n l i).set y (.bool true) = seenO n l (i + 1) := by
 rw [seenO, Kt, seenO]
 refine QB fun t _ => ?_
 have e : l.take (i + 1) = l.take i ++ [(y : Int)] := by
  rw [List.take_add_one, List.getElem?_eq_getElem hi, ← hy]
  simp [gi, List.getD_eq_getElem?_getD, hi]
 rw [e]
 by_cases h : t = y
 ·rw [if_pos h, h]; simp
 ·rw [if_neg h]
  have h' : ¬ ((t : Int) = y) := by omega
  simp [h']
end Go.Ml
namespace Go.Proofs.YteheedbhcfllfaaGreatDoor
open Go Go.Sx Go.Pl Go.RowKit Go.Fd Go.Alg
theorem bits_asc {n m : Nat} (hn : n ≤ 7) (hm : m < 2 ^ n) : AscIn n (Ml.bitsL n m) := by
 have hm7 : m < 128 := Nat.lt_of_lt_of_le hm (Nat.pow_le_pow_right (by decide) hn)
 refine ⟨fun x hx => ?_, fun k h0 h1 => ?_⟩
 ·obtain ⟨i, hi, _, rfl⟩ := Ml.bitsL_mem.1 hx
  omega
 ·have h := Ml.bitsL_ascB n (by omega) m hm7
  have := List.all_eq_true.1 h k (List.mem_range.2 h1)
  simp only [Bool.or_eq_true, beq_iff_eq, decide_eq_true_eq] at this
  rcases this with e | e
  ·omega
  ·exact e
set_option maxRecDepth 10000 in
theorem orRank (p M : Int) (mo v : Value) (md : List Int) (n : Nat) (L : List (List Int)) (m K : Nat) (w : World) (hc : CdOk p M md n L) (hn : n ≤ 7) (hmd : Ints w mo md) (hL : LL w v L) (hm : m < 2 ^ n) (hK : K < 18446744073709551616) (hKm : ∀ i, i < n → K / 2 ^ i % 2 = m / 2 ^ i % 2) :
  Calls Tryz.prog 37 #[.agg #[.int .i64 p, .int .i64 M, mo, .int .i64 n, v], .int .u64 K] w (RetX w fun r _ => r = .int .i64 (Ml.rkM (opsP hc.P) L n m : Nat)) := by
 have hv1 := hL.one
 have hm1 := hmd.one
 refine QC Tryz.func37 rfl rfl (Qc (Qb [0,1] rfl (BXA rfl wu rfl rfl ?_)))
 intro cb w1 hE hB hcb
 refine Qi rfl rfl (Qd (Qa (Qc ?_)))
 have hz1 := hE.size
 refine Qb [0] rfl (Qi rfl rfl (Qd (Qa (Qc (Qc (Qb [0,1,2] rfl (Qx rfl rfl Za (Vw rfl (ldB rfl na3 hB) (mvV rfl rfl (Qd (Qa (Qf ?_))))))))))))
 refine Qu (fun s : Nat × Value => [(1, .int .u64 K), (2, .pointer (some ⟨cb, 0, none⟩)), (5, s.2), (10, .int .i64 n), (11, .int .i64 s.1)])
  (fun s w' => s.1 ≤ n ∧ Ext w w' ∧ Ext w1 w' ∧ OwnI w1.heap.size w' s.2 3 (Ml.bitsL s.1 K)) (fun s => n - s.1) (0, .slice none 0 0) ⟨rfl, rfl, rfl, rfl, rfl, trivial⟩
  ⟨by omega, hE, Ext.refl _, OwnI.nil _ _ _⟩ ?_
 clear hE
 rintro ⟨i, sv⟩ w2 ⟨i1, hE, hX, ho⟩
 dsimp only at i1 hE hX ho
 have hbl := Ml.bitsL_len i K
 try dsimp only
 refine Qc (Qb [0] rfl (Qz rfl rfl rfl (Qd (Qa (Qc (Qq rfl ?_ ?_))))))
 ·intro hc0
  simp at hc0
  have hd : K / 2 ^ i < 18446744073709551616 := Nat.lt_of_le_of_lt (Nat.div_le_self _ _) hK
  refine Qe (Qa (Qc (Qf (Qc (Qb [0,1] rfl (mvV rfl rfl (Qi rfl rfl (Qd (Qa (Qc (Qb [0,1,2,3,4] rfl (mvV rfl rfl (mvV rfl rfl (Vw rfl (shrN K64.u rfl rfl (by omega)) (Vw rfl (and1 K64.u rfl rfl hd) ?_)))))))))))))))
  refine Vw rfl (eqlK rfl rfl) (Qd (Qa (Qq rfl ?_ ?_)))
  ·intro hb
   have hb : K / 2 ^ i % 2 = 1 := by have := of_decide_eq_true hb; omega
   refine Qb [0,1,2,3,4] rfl (mvV rfl rfl (mvV rfl rfl (BSI (zs := [(i : Int)]) rfl wu rfl rfl rfl rfl Qy ?_)))
   intro kv w3 hE3 hko hki hkb
   replace hX := hX.trans hE3
   replace hE := hE.trans hE3
   refine API rfl wu rfl rfl rfl Qy nofun ?_ (ho := OwnI.ext ho hE3) (hB := by have := hX.size; omega) (hs := hki) (hE := Ext.refl _) (hlen := by simp only [List.length_cons, List.length_nil]; omega)
   intro sv2 w4 hg4 hX4 ho4 hi4 hb4
   refine Qi rfl rfl (Qd (Qg (Qa (Qb [0,1] rfl (Qw rfl rfl rfl (mvV rfl rfl (Qd ?_)))))))
   exact Qj (i + 1, sv2) ⟨rfl, rfl, rfl, rfl, rfl, trivial⟩ ⟨by dsimp only; omega, hX4 w (by omega) hE, hX4 w1 (Nat.le_refl _) hX, by dsimp only; rw [Ml.bitsL_succ, if_pos hb]; exact ho4⟩ (by dsimp only; omega)
  ·intro hb
   have hb : ¬ K / 2 ^ i % 2 = 1 := by have := of_decide_eq_false hb; omega
   refine Qe (Qg (Qa (Qb [0,1] rfl (Qw rfl rfl rfl (mvV rfl rfl (Qd ?_))))))
   exact Qj (i + 1, sv) ⟨rfl, rfl, rfl, rfl, rfl, trivial⟩ ⟨by dsimp only; omega, hE, hX, by dsimp only; rw [Ml.bitsL_succ, if_neg hb, List.append_nil]; exact ho⟩ (by dsimp only; omega)
 ·intro hc0
  simp at hc0
  obtain rfl : i = n := by omega
  have e : Ml.bitsL i K = Ml.bitsL i m := Ml.bitsL_congr hKm
  rw [e] at ho
  refine Qt (Ql (Qm (Qh (Qa (Qc (Qb [0,1,2,3,4,5,6,7] rfl (Vw rfl (ldA rfl ZE (hB.ext hX)) (mvV rfl rfl (C rfl wu rfl rfl Tryz.call43 (Qc8 p M mo v md i L sv _ _ hc (hmd.ext hE) (hL.ext hE) (OwnI.ints ho) (by have := Ml.bitsL_len i m; omega) (bits_asc hn hm)) ?_)))))))))
  rintro _ w3 hE3 rfl
  replace hE := hE.trans hE3
  refine mvV rfl rfl (QI rfl rfl rfl (QI rfl rfl rfl (Qi rfl rfl (Qi rfl rfl (Qd (Qa (Qc (Qb [0,1] rfl (mvV rfl rfl (Qi rfl rfl (Qd (Qa (Qs ?_)))))))))))))
  refine Qk rfl rfl ?_
  exact ⟨hE, rfl⟩
set_option maxRecDepth 10000 in
theorem orDim (p M : Int) (mo v : Value) (md : List Int) (n : Nat) (L : List (List Int)) (m : Nat) (w : World) (hc : CdOk p M md n L) (hn : n ≤ 7) (hmd : Ints w mo md) (hL : LL w v L) (hm : m < 2 ^ n) :
  Calls Tryz.prog 38 #[.agg #[.int .i64 p, .int .i64 M, mo, .int .i64 n, v], .int .u64 m] w (RetX w fun r _ => r = .int .i64 (Ml.dmM (opsP hc.P) L n m)) := by
 have hv1 := hL.one
 have hm1 := hmd.one
 obtain ⟨rows, hs, hrl, hrr⟩ := hL.row
 have hll := hc.mv.len
 have hm7 : m < 128 := Nat.lt_of_lt_of_le hm (Nat.pow_le_pow_right (by decide) hn)
 have h1 := Ml.rkM_le (o := opsP hc.P) (L := L) (n := n) (m := m)
 have h2 := Ml.rkM_le (o := opsP hc.P) (L := L) (n := n) (m := 2 ^ n - 1 - m)
 refine QC Tryz.func38 rfl rfl (Qc (Qb [0,1] rfl (BXA rfl wu rfl rfl ?_)))
 intro cb w1 hE hB hcb
 refine Qi rfl rfl (Qd (Qa (Qc (QA QM [0,1,3,4,5,8,9,10,2,6,7,11,12] (by kernel_rfl) ?_))))
 intro w2 hd _
 replace hE := hE.trans hd
 replace hB := hB.ext hd
 refine Vw rfl (ldA rfl ZE hB) (mvV rfl rfl (Vw rfl (ldA rfl ZE hB) (mvV rfl rfl (Vw rfl (notU rfl (by omega)) (Qx rfl rfl ZI (Vw rfl (ldB rfl ZC hB) (Vw rfl (ZD rfl QS (hs.ext hE)) (C rfl wu rfl rfl Tryz.call37 (orRank p M mo v md n L m m _ hc hn (hmd.ext hE) (hL.ext hE) hm (by omega) (fun _ _ => rfl)) ?_))))))))
 rintro _ w3 hE3 rfl
 replace hE := hE.trans hE3
 refine C rfl wu rfl rfl Tryz.call37 (orRank p M mo v md n L (2 ^ n - 1 - m) (18446744073709551615 - m) _ hc hn (hmd.ext hE) (hL.ext hE) (by omega) (by omega) (Ml.compl_bits n (by omega) m hm)) ?_
 rintro _ w4 hE4 rfl
 replace hE := hE.trans hE4
 refine Qw rfl rfl rfl (QU rfl rfl rfl (Qi rfl rfl (Qd (Qa (Qs (Qk rfl rfl ?_))))))
 refine ⟨hE, ?_⟩
 rw [hrl]
 rfl
set_option maxRecDepth 10000 in
theorem Kz (p M : Int) (mo v : Value) (md : List Int) (n : Nat) (L : List (List Int)) (ov : Value) (l : List Int) (w : World) (hc : CdOk p M md n L) (hmd : Ints w mo md) (hL : LL w v L) (ho : Ints w ov l) :
  Calls Tryz.prog 18 #[.agg #[.int .i64 p, .int .i64 M, mo, .int .i64 n, v], ov] w (RetX w fun r _ => (r = .int .i64 0 ∧ Ml.OrdOk n l) ∨ (r = .int .i64 5 ∧ ¬ Ml.OrdOk n l)) := by
 have hv1 := hL.one
 have hm1 := hmd.one
 have hn64 := hc.h2
 have hle := ho.le
 refine QC Tryz.func18 rfl rfl (Qc (Qb [0,1] rfl (BXA rfl wu rfl rfl ?_)))
 intro cb w1 hE hB hcb
 refine Qi rfl rfl (Qd (Qa (Qc (Qc (Qb [0,1,2] rfl (Vw rfl (ldA rfl ZE hB) (C rfl wu rfl rfl Tryz.call16 (JK p M mo v md n L _ hc.ok (hmd.ext hE) (hL.ext hE) hc.mv hc.can hc.h1 hc.h2) ?_)))))))
 rintro _ w2 hE2 rfl
 replace hB := hB.ext hE2
 replace hE := hE.trans hE2
 refine Qi rfl rfl (Qd (Qa (Qc (Qb [0,1] rfl (mvV rfl rfl (QH rfl rfl rfl (Qd (Qa (Qo rfl (rfl) (Qe (Qa (Qc (Qc (Qb [0,1,2,3,4] rfl (mvV rfl rfl ?_)))))))))))))))
 refine Vw rfl (Zk rfl Qy (ho.ext hE)) (Qx rfl rfl Za (Vw rfl (ldB rfl na3 hB) (QH rfl rfl rfl (Qd (Qa (Qq rfl ?_ ?_))))))
 ·intro hcl
  have hcl := of_decide_eq_true hcl
  refine Qc (Qb [0] rfl (Qi rfl rfl (Qd (Qa (Qs (Qn (Qk rfl rfl ?_)))))))
  exact ⟨hE, .inr ⟨rfl, fun h => hcl (by rw [h.len])⟩⟩
 intro hcl
 have hcl : l.length = n := by
  have := of_decide_eq_false hcl
  omega
 refine Qe (Qa (Qc (Qb [0,1,2,3] rfl (Qx rfl rfl Za (Vw rfl (ldB rfl na3 hB) (MK (n := n) rfl wu rfl rfl Qbs rfl ?_))))))
 intro seen w3 hE3 hs hsb
 rw [Ml.seenO_zero (l := l)] at hs
 refine Qi rfl rfl (Qd (Qa (Qc (Qc ?_))))
 have hz2 := hE.size
 replace hs := hs.mono (B' := w2.heap.size) (Nat.le_refl _)
 refine Qb [0,1,2] rfl (mvV rfl rfl (Vw rfl (Zk rfl Qy) ?_))
 refine mvV rfl rfl (Qd (Qa (Qf ?_)))
 refine Qu (fun i : Nat => [(2, .pointer (some ⟨cb, 0, none⟩)), (6, seen), (22, ov), (23, .int .i64 l.length), (24, .int .i64 i)])
  (fun i w' => i ≤ l.length ∧ Ext w2 w' ∧ Sx.Own w2.heap.size w' seen 4 (Ml.seenO n l i) ∧ ∀ t : Nat, t < i → (0 ≤ gi l t ∧ gi l t < (n : Int)) ∧ (l.take t).contains (gi l t) = false) (fun i => l.length - i) 0 ⟨rfl, rfl, rfl, rfl, rfl, trivial⟩
  ⟨by omega, hE3, hs, fun t ht => by omega⟩ ?_
 clear hs hE3
 rintro i w4 ⟨i1, hX, hs, hnew⟩
 have hE4 := hE.trans hX
 have hoi := ho.ext hE4
 have hBi := hB.ext hX
 try dsimp only
 refine Qc (Qb [0] rfl (Qz rfl rfl rfl (Qd (Qa (Qc (Qq rfl ?_ ?_))))))
 ·intro hi
  simp at hi
  refine Qe (Qa (Qc (Qf (Qc (Qb [0,1,2] rfl (Vw rfl (QP rfl rfl Qy hoi (by omega) (by omega)) (Vw rfl (ldI rfl na3 hoi (Ext.refl _) (by omega) (by omega)) (Qi rfl rfl (Qd (Qa (Qc (Qc ?_))))))))))))
  by_cases hr : 0 ≤ gi l i ∧ gi l i < (n : Int)
  rotate_left
  ·skip
   by_cases hr0 : gi l i < 0
   ·skip
    refine Qb [0,1,2,3,4,5,6,7,8,9,10,11,12,13] rfl (mvV rfl rfl (Qz rfl rfl rfl (mvV rfl rfl (KB 30 true rfl (decide_eq_true hr0) (SK rfl rfl rfl rfl rfl (SK rfl rfl rfl rfl rfl (SK rfl rfl rfl rfl rfl (SK rfl rfl rfl rfl rfl (pkV rfl rfl rfl ?_)))))))))
    refine mvV rfl rfl (KB 36 true rfl (rfl) (SK rfl rfl rfl rfl rfl (SK rfl rfl rfl rfl rfl (SK rfl rfl rfl rfl rfl (SK rfl rfl rfl rfl rfl (pkV rfl rfl rfl (Qd (Qa (QD rfl (rfl) (Qc ?_))))))))))
    refine Qb [0] rfl (Qi rfl rfl (Qd (Qa (Qs (Qn (Qv (Qn (QF (Qv (Qn (Qk rfl rfl ?_)))))))))))
    exact ⟨hE4, .inr ⟨rfl, fun h => by have := h.get hi; omega⟩⟩
   ·skip
    refine Qb [0,1,2,3,4,5,6,7,8,9,10,11,12,13] rfl (mvV rfl rfl (Qz rfl rfl rfl (mvV rfl rfl (KB 30 false rfl (decide_eq_false hr0) (Vg rfl rfl rfl (mv rfl) (Vg rfl rfl rfl (fad rfl Za) (Vg rfl rfl rfl (ldB rfl na3 hBi) (Vg rfl rfl rfl (Ko rfl rfl) (pkV rfl rfl rfl ?_)))))))))
    refine mvV rfl rfl (KB 36 true rfl (decide_eq_true (by omega)) (SK rfl rfl rfl rfl rfl (SK rfl rfl rfl rfl rfl (SK rfl rfl rfl rfl rfl (SK rfl rfl rfl rfl rfl (pkV rfl rfl rfl (Qd (Qa (QD rfl (rfl) (Qc ?_))))))))))
    refine Qb [0] rfl (Qi rfl rfl (Qd (Qa (Qs (Qn (Qv (Qn (QF (Qv (Qn (Qk rfl rfl ?_)))))))))))
    exact ⟨hE4, .inr ⟨rfl, fun h => by have := h.get hi; omega⟩⟩
  obtain ⟨y, hy⟩ : ∃ y : Nat, gi l i = y := ⟨(gi l i).toNat, by omega⟩
  have hyn : y < n := by omega
  rw [hy]
  refine Qb [0,1,2,3,4,5,6,7,8,9,10,11,12,13] rfl (mvV rfl rfl (Qz rfl rfl rfl (mvV rfl rfl (KB 30 false rfl (decide_eq_false (by omega)) (Vg rfl rfl rfl (mv rfl) (Vg rfl rfl rfl (fad rfl Za) (Vg rfl rfl rfl (ldB rfl na3 hBi) (Vg rfl rfl rfl (Ko rfl rfl) (pkV rfl rfl rfl ?_)))))))))
  refine mvV rfl rfl (KB 36 false rfl (decide_eq_false (by omega)) (Vg rfl rfl rfl (mv rfl) (Vg rfl rfl rfl (mv rfl) (Vg rfl rfl rfl (iad rfl rfl Qbs hs.sl (by omega) (by rw [Ml.seenO_len]; omega)) (Vg rfl rfl rfl (ldE rfl na4 hs.sl (by rw [Int.toNat_natCast]; exact Ml.seenO_get hyn)) (pkV rfl rfl rfl (Qd (Qa (Qq rfl ?_ ?_)))))))))
  ·intro hb
   refine Qc (Qb [0] rfl (Qi rfl rfl (Qd (Qa (Qs (Qn (Qv (Qn (QF (Qv (Qn (Qk rfl rfl ?_))))))))))))
   exact ⟨hE4, .inr ⟨rfl, fun h => by have := h.new i hi; rw [hy, hb] at this; cases this⟩⟩
  ·intro hb
   refine Qe (Qa (Qb [0,1,2,3] rfl (mvV rfl rfl (mvV rfl rfl (Vw rfl (iad rfl rfl Qbs hs.sl (by omega) (by rw [Ml.seenO_len]; omega)) (ST rfl wu rfl rfl sz4 rfl nofun ?_ hs (by omega) (by rw [Ml.seenO_len]; omega)))))))
   intro w6 hg6 hs6
   rw [Int.toNat_natCast, Ml.seenO_set hi hy] at hs6
   replace hX := hX.grown hg6 hs (Nat.le_refl _)
   refine Qd (Qg (Qa (Qb [0,1] rfl (Qw rfl rfl rfl (mvV rfl rfl (Qd (Qj (i + 1) ⟨rfl, rfl, rfl, rfl, rfl, trivial⟩ ⟨by omega, hX, hs6, fun t ht => ?_⟩ (by omega))))))))
   rcases Nat.lt_or_eq_of_le (Nat.le_of_lt_succ ht) with e | e
   ·exact hnew t e
   ·rw [e, hy]
    exact ⟨by omega, hb⟩
 ·intro hi
  simp at hi
  refine Qt (Ql (Qm (Qh (Qa (Qc (Qb [0] rfl (Qi rfl rfl (Qd (Qa (Qs (Qk rfl rfl ?_)))))))))))
  refine ⟨hE4, .inl ⟨rfl, hcl, fun x hx => ?_, fun t ht => (hnew t (by omega)).2⟩⟩
  obtain ⟨t, ht, rfl⟩ := List.getElem_of_mem hx
  have := (hnew t (by omega)).1
  have e : gi l t = l[t] := by simp [gi, List.getD_eq_getElem?_getD, ht]
  rw [e] at this
  exact this
theorem ordSplit {r : Value} {A : Prop} (h : (r = .int .i64 0 ∧ A) ∨ (r = .int .i64 5 ∧ ¬ A)) : ∃ e : Int, r = .int .i64 e ∧ ((e = 0 ∧ A) ∨ (e = 5 ∧ ¬ A)) := by
 rcases h with ⟨h1, h2⟩ | ⟨h1, h2⟩
 ·exact ⟨_, h1, .inl ⟨rfl, h2⟩⟩
 ·exact ⟨_, h1, .inr ⟨rfl, h2⟩⟩
set_option maxRecDepth 10000 in
theorem orWidth (p M : Int) (mo v : Value) (md : List Int) (n : Nat) (L : List (List Int)) (ov : Value) (l : List Int) (w : World) (hc : CdOk p M md n L) (hn : n ≤ 7) (hmd : Ints w mo md) (hL : LL w v L) (ho : Ints w ov l) (hl : Ml.OrdOk n l) :
  Calls Tryz.prog 20 #[.agg #[.int .i64 p, .int .i64 M, mo, .int .i64 n, v], ov] w (RetX w fun r _ => r = .int .i64 (Ml.wdL (opsP hc.P) L n l l.length)) := by
 have hv1 := hL.one
 have hm1 := hmd.one
 have hle := ho.le
 have h2n : 2 ^ n ≤ 128 := Nat.pow_le_pow_right (by decide) hn
 refine QC Tryz.func20 rfl rfl (Qc (Qb [0,1] rfl (BXA rfl wu rfl rfl ?_)))
 intro cb w1 hE hB hcb
 refine Qi rfl rfl (Qd (Qa (Qc (Qb [0] rfl (Qi rfl rfl (Qd (Qa (Qc (Qb [0] rfl (Qi rfl rfl (Qd (Qa (Qc (Qc (Qb [0,1,2] rfl (mvV rfl rfl ?_))))))))))))))))
 refine Vw rfl (Zk rfl Qy (ho.ext hE)) (mvV rfl rfl (Qd (Qa (Qf ?_))))
 refine Qu (fun i : Nat => [(2, .pointer (some ⟨cb, 0, none⟩)), (5, .int .u64 (Ml.mskL (l.take i) : Nat)), (6, .int .i64 (Ml.wdL (opsP hc.P) L n l i)), (9, ov), (10, .int .i64 l.length), (11, .int .i64 i)])
  (fun i w' => i ≤ l.length ∧ Ext w w' ∧ Ext w1 w') (fun i => l.length - i) 0 ⟨rfl, rfl, rfl, rfl, rfl, rfl, trivial⟩
  ⟨by omega, hE, Ext.refl _⟩ ?_
 clear hE
 rintro i w2 ⟨i1, hE, hX⟩
 have hoi := ho.ext hE
 try dsimp only
 refine Qc (Qb [0] rfl (Qz rfl rfl rfl (Qd (Qa (Qc (Qq rfl ?_ ?_))))))
 ·intro hi
  simp at hi
  have hg := hl.get hi
  obtain ⟨y, hy⟩ : ∃ y : Nat, gi l i = y := ⟨(gi l i).toNat, by omega⟩
  have hm1 := hl.take_lt i
  have hm2 := hl.take_lt (i + 1)
  have hms := Ml.mskL_take hi
  rw [hy, Int.toNat_natCast] at hms
  have hy2 : 2 ^ y < 2 ^ 32 := Nat.pow_lt_pow_right (by decide) (by omega)
  refine Qe (Qa (Qc (Qf (Qc (Qb [0,1,2] rfl (Vw rfl (QP rfl rfl Qy hoi (by omega) (by omega)) (Vw rfl (ldI rfl na3 hoi (Ext.refl _) (by omega) (by omega)) (Qi rfl rfl (Qd (Qa (Qc ?_)))))))))))
  rw [hy]
  refine Qb [0,1,2,3,4] rfl (mvV rfl rfl (mvV rfl rfl (Vw rfl (shlN K64.u rfl rfl (by omega)) (Vw rfl (orN K64.u rfl rfl (by omega) (by omega)) (Qi rfl rfl (Qd (Qa ?_)))))))
  rw [← hms]
  refine Qb [0,1,2,3,4,5] rfl (mvV rfl rfl (Vw rfl (ldA rfl ZE (hB.ext hX)) (mvV rfl rfl (C rfl wu rfl rfl Tryz.call38 (orDim p M mo v md n L (Ml.mskL (l.take (i + 1))) _ hc hn (hmd.ext hE) (hL.ext hE) hm2) ?_))))
  rintro _ w3 hE3 rfl
  replace hE := hE.trans hE3
  replace hX := hX.trans hE3
  refine Vw rfl (maxI rfl rfl) (Qi rfl rfl (Qd (Qg (Qa (Qb [0,1] rfl (Qw rfl rfl rfl (mvV rfl rfl (Qd ?_))))))))
  exact Qj (i + 1) ⟨rfl, rfl, rfl, rfl, rfl, rfl, trivial⟩ ⟨by omega, hE, hX⟩ (by omega)
 ·intro hi
  simp at hi
  obtain rfl : i = l.length := by omega
  refine Qt (Ql (Qm (Qh (Qa (Qc (Qb [0,1] rfl (mvV rfl rfl (Qi rfl rfl (Qd (Qa (Qs (Qk rfl rfl ?_))))))))))))
  exact ⟨hE, rfl⟩
set_option maxRecDepth 10000 in
theorem Qc1 (p M : Int) (mo v : Value) (md : List Int) (n : Nat) (L : List (List Int)) (ov : Value) (l : List Int) (w : World) (hc : CdOk p M md n L) (hn : n ≤ 7) (hmd : Ints w mo md) (hL : LL w v L) (ho : Ints w ov l) :
  Calls Tryz.prog 8 #[.agg #[.int .i64 p, .int .i64 M, mo, .int .i64 n, v], ov] w (RetX w fun r _ => (r = .tuple #[.int .i64 (Ml.wdL (opsP hc.P) L n l l.length), .int .i64 0] ∧ Ml.OrdOk n l) ∨ (r = .tuple #[.int .i64 0, .int .i64 5] ∧ ¬ Ml.OrdOk n l)) := by
 have hv1 := hL.one
 have hm1 := hmd.one
 refine QC Tryz.func8 rfl rfl (Qc (Qb [0,1,2] rfl (BXA rfl wu rfl rfl ?_)))
 intro cb w1 hE hB hcb
 refine Qi rfl rfl (Qi rfl rfl (Qd (Qa (Qc (Qc (Qb [0,1,2,3] rfl (Vw rfl (ldA rfl ZE hB) (mvV rfl rfl (C rfl wu rfl rfl Tryz.call18 (Kz p M mo v md n L ov l _ hc (hmd.ext hE) (hL.ext hE) (ho.ext hE)) ?_)))))))))
 intro r w2 hE2 hr
 replace hB := hB.ext hE2
 replace hE := hE.trans hE2
 obtain ⟨e, rfl, hq⟩ := ordSplit hr
 refine Qi rfl rfl (Qd (Qa (Qc ?_)))
 clear hr
 rcases hq with ⟨rfl, hl⟩ | ⟨rfl, hl⟩
 ·skip
  refine Qb [0,1] rfl (mvV rfl rfl (QH rfl rfl rfl (Qd (Qa (Qo rfl (rfl) (Qe (Qa (Qc (Qb [0,1,2,3,4] rfl (Vw rfl (ldA rfl ZE hB) (mvV rfl rfl (C rfl wu rfl rfl Tryz.call20 (orWidth p M mo v md n L ov l _ hc hn (hmd.ext hE) (hL.ext hE) (ho.ext hE) hl) ?_))))))))))))
  rintro _ w3 hE3 rfl
  replace hE := hE.trans hE3
  refine Qi rfl rfl (Qi rfl rfl (Qd (Qa (Qs (QE rfl rfl rfl ?_)))))
  exact ⟨hE, .inl ⟨rfl, hl⟩⟩
 ·skip
  refine Qb [0,1] rfl (mvV rfl rfl (QH rfl rfl rfl (Qd (Qa (QD rfl (rfl) (Qc (Qb [0,1,2] rfl (mvV rfl rfl (Qi rfl rfl (Qi rfl rfl ?_))))))))))
  refine Qd (Qa (Qs (Qn (QE rfl rfl rfl ?_))))
  exact ⟨hE, .inr ⟨rfl, hl⟩⟩
end Go.Proofs.YteheedbhcfllfaaGreatDoor
namespace Go.Sx
open Go Go.RowKit Go.Pl
section
variable {P : Program} {N : Nat} {l : Env} {w : World} {ty T T' : TypeId} {x y : Operand}
theorem lowI {r b : Nat} (hx : ev l x = some (.int .i64 r)) (hy : ev l y = some (.int .i64 (-(r : Int)))) (hb : Ml.lowB r = b) (hlt : b < 4294967296) : Yl P N (.binOp .and T x y T') ty l w (.int .i64 b) :=
 Ze hx hy (fun w => by
  have e : (BitVec.ofInt IntKind.i64.bits (r : Int) &&& BitVec.ofInt IntKind.i64.bits (-(r : Int))).toNat = b := hb
  have h1 : (binOp .and T (.int .i64 r) (.int .i64 (-(r : Int)))).run P w = (Op.intBits .and .i64 r (-(r : Int))).run P w := by simp [binOp]
  rw [h1]
  simp only [Op.intBits, e, K64.i.wrap (show b < 9223372036854775808 by omega)]
  rfl) (fun _ _ _ => Qr)
theorem dropI {s b c : Nat} (hx : ev l x = some (.int .i64 s)) (hy : ev l y = some (.int .i64 b)) (hb : Ml.dropB s b = c) (hlt : c < 4294967296) : Yl P N (.binOp .andNot T x y T') ty l w (.int .i64 c) :=
 Ze hx hy (fun w => by
  have e : (BitVec.ofInt IntKind.i64.bits (s : Int) &&& ~~~ BitVec.ofInt IntKind.i64.bits (b : Int)).toNat = c := hb
  have h1 : (binOp .andNot T (.int .i64 s) (.int .i64 b)).run P w = (Op.intBits .andNot .i64 s b).run P w := by simp [binOp]
  rw [h1]
  simp only [Op.intBits, e, K64.i.wrap (show c < 9223372036854775808 by omega)]
  rfl) (fun _ _ _ => Qr)
end
end Go.Sx
namespace Go.Proofs.YteheedbhcfllfaaGreatDoor
open Go Go.Sx Go.Pl Go.RowKit Go.Fd Go.Alg
set_option maxRecDepth 10000 in
theorem Qc2 (p M : Int) (mo v : Value) (md : List Int) (n : Nat) (L : List (List Int)) (w : World) (hc : CdOk p M md n L) (hn : n ≤ 7) (hmd : Ints w mo md) (hL : LL w v L) :
  Calls Tryz.prog 17 #[.agg #[.int .i64 p, .int .i64 M, mo, .int .i64 n, v]] w (RetX w fun r w' => ∃ dv tv t, r = .tuple #[dv, tv] ∧ OwnI w.heap.size w' dv 3 (Ml.dimsL (opsP hc.P) L n) ∧ OwnI w.heap.size w' tv 3 t ∧ Ml.TabTo (opsP hc.P) L n (2 ^ n) t) := by
 have hv1 := hL.one
 have hm1 := hmd.one
 have hll := hc.mv.len
 obtain ⟨rows, hs, hrl, hrr⟩ := hL.row
 obtain ⟨Q, hQ⟩ : ∃ Q : Nat, Q = 2 ^ n := ⟨_, rfl⟩
 have h2n : Q ≤ 128 := hQ ▸ Nat.pow_le_pow_right (by decide) hn
 have h2p : 0 < Q := hQ ▸ Nat.pow_pos (by decide)
 have hrk : ∀ m, Ml.rkM (opsP hc.P) L n m ≤ n := fun m => Ml.rkM_le
 refine QJ Tryz.func17 rfl rfl (Qc (Qb [0,1,2] rfl (BXA rfl wu rfl rfl ?_)))
 intro cb w1 hE hB hcb
 refine Qi rfl rfl (Qi rfl rfl (Qd (Qa (Qc ?_))))
 have hz1 := hE.size
 refine Qb [0,1,2,3,4] rfl (Qx rfl rfl Za (Vw rfl (ldB rfl na3 hB) (Vw rfl (shlN K64.i rfl rfl (by omega)) ?_)))
 rw [← hQ]
 refine QU rfl rfl rfl (Qi rfl rfl (Qd (Qa (Qc ?_))))
 obtain ⟨A, hA⟩ : ∃ A : Nat, A = Q - 1 := ⟨_, rfl⟩
 have hAe : (Q : Int) - 1 = A := by omega
 have hAe2 : (A : Int) + 1 = Q := by omega
 rw [hAe]
 refine Qb [0,1,2,3] rfl (mvV rfl rfl (Qw rfl rfl rfl (MKI (n := Q) rfl wu rfl rfl Qy ?_)))
 intro rv w2 hE2 hr hri hrb
 refine Qi rfl rfl (Qd (Qa (Qc (Qc ?_))))
 have hz2 := hE2.size
 replace hE := hE.trans hE2
 have hr0 : OwnI w1.heap.size w2 rv 3 (tab Q fun y => if y < 0 then (Ml.rkM (opsP hc.P) L n y : Int) else 0) := (QB fun y _ => by rw [if_neg (by omega)] : (tab Q fun y => if y < 0 then (Ml.rkM (opsP hc.P) L n y : Int) else 0) = tab Q fun _ => 0) ▸ hr
 refine Qb [0,1,2] rfl (mvV rfl rfl (Vw rfl (Zk rfl Qy hri) (mvV rfl rfl (Qd (Qa (Qf ?_))))))
 rw [Qp]
 refine Qu (fun i : Nat => [(1, .pointer (some ⟨cb, 0, none⟩)), (4, .int .i64 A), (5, rv), (20, .int .i64 Q), (21, .int .i64 i)])
  (fun i w' => i ≤ Q ∧ Ext w w' ∧ Ext w1 w' ∧ OwnI w1.heap.size w' rv 3 (tab Q fun y => if y < i then (Ml.rkM (opsP hc.P) L n y : Int) else 0)) (fun i => Q - i) 0 ⟨rfl, rfl, rfl, rfl, rfl, trivial⟩
  ⟨by omega, hE, hE2, hr0⟩ ?_
 clear hr hr0 hri hE hE2
 rintro i w3 ⟨i1, hE, hX, hr⟩
 try dsimp only
 refine Qc (Qb [0] rfl (Qz rfl rfl rfl (Qd (Qa (Qc (Qq rfl ?_ ?_))))))
 ·intro hi
  simp at hi
  have hiw : IntKind.u64.wrap (i : Int) = i := K64.u.wrap (by omega)
  refine Qe (Qa (Qc (Qf (Qc (Qb [0,1] rfl (mvV rfl rfl (Qi rfl rfl (Qd (Qa (Qb [0,1,2,3,4,5,6,7] rfl (mvV rfl rfl (mvV rfl rfl (Vw rfl (ldA rfl ZE (hB.ext hX)) (mvV rfl rfl ?_))))))))))))))
  refine Vw rfl (cvK (q := .u64) rfl (by kernel_rfl) (by kernel_rfl)) ?_
  rw [hiw]
  refine C rfl wu rfl rfl Tryz.call37 (orRank p M mo v md n L i i _ hc hn (hmd.ext hE) (hL.ext hE) (hQ ▸ hi) (by omega) (fun _ _ => rfl)) ?_
  rintro _ w4 hE4 rfl
  replace hE := hE.trans hE4
  replace hX := hX.trans hE4
  replace hr := OwnI.ext hr hE4
  refine Vw rfl (QP rfl rfl Qy (OwnI.ints hr) (by omega) (by rw [Qp]; omega)) (STI rfl wu rfl rfl sz3 nofun ?_ (ho := hr) (h0 := by omega) (h1 := by rw [Qp]; omega))
  intro w5 hg5 hX5 ho5 hi5
  rw [ZS] at ho5
  refine Qd (Qg (Qa (Qb [0,1] rfl (Qw rfl rfl rfl (mvV rfl rfl (Qd ?_))))))
  have ht5 : ∀ y, y < Q → (if y = ((i : Nat) : Int).toNat then (Ml.rkM (opsP hc.P) L n i : Int) else if y < i then (Ml.rkM (opsP hc.P) L n y : Int) else 0) = if y < i + 1 then (Ml.rkM (opsP hc.P) L n y : Int) else 0 := fun y _ => by
   rw [Int.toNat_natCast]
   by_cases e : y = i
   ·rw [if_pos e, if_pos (by omega), e]
   ·rw [if_neg e]
    by_cases e2 : y < i
    ·rw [if_pos e2, if_pos (by omega)]
    ·rw [if_neg e2, if_neg (by omega)]
  rw [QB ht5] at ho5
  exact Qj (i + 1) ⟨rfl, rfl, rfl, rfl, rfl, trivial⟩ ⟨by omega, hX5 w (by omega) hE, hX5 w1 (Nat.le_refl _) hX, ho5⟩ (by omega)
 intro hi
 simp at hi
 obtain rfl : i = Q := by omega
 have hrt : tab i (fun y => if y < i then (Ml.rkM (opsP hc.P) L n y : Int) else 0) = tab i fun y => (Ml.rkM (opsP hc.P) L n y : Int) := QB fun y hy => if_pos hy
 rw [hrt] at hr
 refine Qt (Ql (Qm (Qh (Qa (Qc ?_)))))
 have hz3 := hX.size
 have hlr := Own.lt hr
 refine Qb [0,1,2,3] rfl (mvV rfl rfl (Qw rfl rfl rfl (MKI (n := i) rfl wu rfl rfl Qy ?_)))
 intro dv w4 hE4 hd hdi hdb
 refine Qi rfl rfl (Qd (Qa (Qc ?_)))
 have hz4 := hE4.size
 refine Qb [0,1,2,3] rfl (mvV rfl rfl (Qw rfl rfl rfl (MKI (n := i) rfl wu rfl rfl Qy ?_)))
 intro tv w5 hE5 ht hti htb
 refine Qi rfl rfl (Qd (Qa (Qc (Qc ?_))))
 have hz5 := hE5.size
 have hrd : rv.ownBlock ≠ dv.ownBlock := fun e => by have := (hlr _ (e.trans hdb)).2; omega
 have hrt2 : rv.ownBlock ≠ tv.ownBlock := fun e => by have := (hlr _ (e.trans htb)).2; omega
 have hdt : dv.ownBlock ≠ tv.ownBlock := fun e => by
  have h3 := (Own.lt hd _ (e.trans htb)).2
  omega
 have hr5 := OwnI.ext (OwnI.ext hr hE4) hE5
 have hd5 := Own.mono (B' := w1.heap.size) (OwnI.ext hd hE5) hz3
 have ht5 := Own.mono (B' := w1.heap.size) ht (by omega : w1.heap.size ≤ w4.heap.size)
 have hX5 := (hX.trans hE4).trans hE5
 have hE5' := (hE.trans hE4).trans hE5
 have hT0 : Ml.TabTo (opsP hc.P) L n 1 (tab i fun _ => 0) := ⟨by rw [Qp, hQ], by rw [Zw (by omega) (by omega)], fun y h1 h2 => by omega⟩
 clear hr hd ht hdi hti hdb htb hlr hE hX hE4 hE5 hrt i1
 refine Qb [0] rfl (Qi rfl rfl (Qd (Qa (Qf ?_))))
 refine Qu (fun s : Nat × List Int => [(1, .pointer (some ⟨cb, 0, none⟩)), (4, .int .i64 A), (5, rv), (7, dv), (8, tv), (9, .int .i64 s.1)])
  (fun s w' => 1 ≤ s.1 ∧ s.1 ≤ i ∧ Ext w w' ∧ Ext w1 w' ∧ OwnI w1.heap.size w' rv 3 (tab i fun y => (Ml.rkM (opsP hc.P) L n y : Int)) ∧ OwnI w1.heap.size w' dv 3 (tab i fun y => if 0 < y ∧ y < s.1 then Ml.dmM (opsP hc.P) L n y else 0) ∧ OwnI w1.heap.size w' tv 3 s.2 ∧ Ml.TabTo (opsP hc.P) L n s.1 s.2) (fun s => i - s.1) (1, tab i fun _ => 0) ⟨rfl, rfl, rfl, rfl, rfl, rfl, trivial⟩
  ⟨Nat.le_refl _, h2p, hE5', hX5, hr5, ?_, ht5, hT0⟩ ?_
 ·dsimp only
  have e : ∀ y, y < i → (if 0 < y ∧ y < 1 then Ml.dmM (opsP hc.P) L n y else 0) = 0 := fun y _ => if_neg (by omega)
  rw [QB e]
  exact hd5
 clear hE5' hX5 hr5 hd5 ht5 hT0
 rintro ⟨s, t⟩ w6 ⟨s0, s1, hE, hX, hr, hd, ht, hT⟩
 dsimp only at s0 s1 hE hX hr hd ht hT
 have hri := OwnI.ints hr
 have hti := OwnI.ints ht
 have htl : t.length = i := by rw [hT.len, hQ]
 try dsimp only
 refine Qc (Qc (Qb [0,1,2] rfl (mvV rfl rfl (mvV rfl rfl (Vw rfl (Qas rfl rfl) (Qd (Qa (Qq rfl ?_ ?_))))))))
 ·intro hsA
  simp at hsA
  have hsQ : s < i := by omega
  have hsn : s < 2 ^ n := by omega
  have hxor : (((A : Int).toNat ^^^ (s : Int).toNat : Nat) : Int) = ((2 ^ n - 1 - s : Nat) : Int) := by
   rw [Int.toNat_natCast, Int.toNat_natCast, hA, hQ, Ml.xor_all n (by omega) s hsn]
  have hlt2 : 2 ^ n - 1 - s < i := by omega
  have hra := hrk s
  have hrb := hrk (2 ^ n - 1 - s)
  refine Qe (Qa (Qc (Qf (Qc (QA QM [0,1,2,3,4,5,6,7,8,9,10,11,12,13,14,15,16,17,18] (by kernel_rfl) ?_)))))
  intro w7 hd7 _
  replace hE := hE.trans hd7
  replace hX := hX.trans hd7
  replace hr := OwnI.ext hr hd7
  replace hd := OwnI.ext hd hd7
  replace ht := OwnI.ext ht hd7
  replace hri := hri.ext hd7
  replace hti := hti.ext hd7
  refine mvV rfl rfl (mvV rfl rfl (mvV rfl rfl (mvV rfl rfl (Vw rfl (QP rfl rfl Qy hri (by omega) (by rw [Qp]; omega)) (Vw rfl (ldI rfl na3 hri (Ext.refl _) (by omega) (by rw [Qp]; omega)) (mvV rfl rfl (mvV rfl rfl (mvV rfl rfl ?_))))))))
  rw [Zw (by omega) (by omega), Int.toNat_natCast]
  refine Vw rfl (xorI rfl rfl) ?_
  rw [hxor]
  refine Vw rfl (QP rfl rfl Qy hri (by omega) (by rw [Qp]; omega)) (Vw rfl (ldI rfl na3 hri (Ext.refl _) (by omega) (by rw [Qp]; omega)) ?_)
  rw [Zw (by omega) (by omega), Int.toNat_natCast]
  refine Qw rfl rfl rfl (Qx rfl rfl ZI (Vw rfl (ldB rfl ZC (hB.ext hX)) (Vw rfl (ZD rfl QS (hs.ext hE)) (QU rfl rfl rfl (Vw rfl (QP rfl rfl Qy (OwnI.ints hd) (by omega) (by rw [Qp]; omega)) (STI rfl wu rfl rfl sz3 (by intro h; kernel_rfl) ?_ (ho := hd) (h0 := by omega) (h1 := by rw [Qp]; omega)))))))
  intro w8 hg8 hX8 ho8 hi8
  rw [ZS] at ho8
  refine Qd (Qa (Qc ?_))
  have hdm : (Ml.rkM (opsP hc.P) L n s : Int) + (Ml.rkM (opsP hc.P) L n (2 ^ n - 1 - s) : Nat) - (rows.length : Nat) = Ml.dmM (opsP hc.P) L n s := by rw [hrl]; rfl
  rw [hdm] at ho8
  have hdt8 : ∀ y, y < i → (if y = ((s : Nat) : Int).toNat then Ml.dmM (opsP hc.P) L n s else if 0 < y ∧ y < s then Ml.dmM (opsP hc.P) L n y else 0) = if 0 < y ∧ y < s + 1 then Ml.dmM (opsP hc.P) L n y else 0 := fun y _ => by
   rw [Int.toNat_natCast]
   by_cases e : y = s
   ·rw [if_pos e, if_pos (by omega), e]
   ·rw [if_neg e]
    by_cases e2 : 0 < y ∧ y < s
    ·rw [if_pos e2, if_pos (by omega)]
    ·rw [if_neg e2, if_neg (by omega)]
  rw [QB hdt8] at ho8
  replace hE := hX8 w (by omega) hE
  replace hX := hX8 w1 (Nat.le_refl _) hX
  replace hr := Own.kept hr hg8 (.inl hrd)
  replace ht := Own.kept ht hg8 (.inl (Ne.symm hdt))
  clear hg8 hX8 hi8 hd hd7 hri hti hdt8 hdm
  have hti : Ints w8 tv t := OwnI.ints ht
  refine Qb [0,1,2] rfl (Qx rfl rfl Za (Vw rfl (ldB rfl na3 (hB.ext hX)) (Qi rfl rfl (Qd (Qa (Qc (Qc (Qb [0,1] rfl (mvV rfl rfl (Qi rfl rfl (Qd (Qa (Qf ?_)))))))))))))
  have hb7 := Ml.bits7 n (by omega) s hsn
  have hf := Ml.rest_facts s (by omega)
  have hbl := Ml.bitsL_len n s
  refine Qu (fun j : Nat => [(1, .pointer (some ⟨cb, 0, none⟩)), (4, .int .i64 A), (5, rv), (7, dv), (8, tv), (9, .int .i64 s), (10, .int .i64 (Ml.leastT t n s j)), (11, .int .i64 (Ml.restN s j : Nat))])
   (fun j w' => j ≤ (Ml.bitsL n s).length ∧ w' = w8) (fun j => (Ml.bitsL n s).length - j) 0 ⟨rfl, rfl, rfl, rfl, rfl, rfl, rfl, rfl, trivial⟩ ⟨by omega, rfl⟩ ?_
  rintro j w9 ⟨j1, rfl⟩
  obtain ⟨hf1, hf2, hf3⟩ := hf j (by omega)
  rw [hb7] at hf2 hf3
  try dsimp only
  refine Qc (Qc (Qb [0,1] rfl (mvV rfl rfl (QH rfl rfl rfl (Qd (Qa (Qq rfl ?_ ?_)))))))
  ·intro hr0
   have hjl : j < (Ml.bitsL n s).length := Classical.byContradiction fun h => of_decide_eq_true hr0 (by rw [hf3 (by omega)]; rfl)
   obtain ⟨g1, g2, g3, g4⟩ := hf2 hjl
   have hge : Ml.bitAt s j = (gi (Ml.bitsL n s) j).toNat := by rw [Ml.bitAt, hb7]
   refine Qe (Qa (Qc (Qf (Qb [0,1,2,3,4,5,6,7,8,9,10,11] rfl (mvV rfl rfl (mvV rfl rfl (mvV rfl rfl (mvV rfl rfl (mvV rfl rfl (Vw rfl (negI rfl) (Vw rfl (lowI rfl rfl g2 (by omega)) (Vw rfl (dropI rfl rfl g3 (by omega)) ?_))))))))))))
   refine Vw rfl (QP rfl rfl Qy hti (by omega) (by rw [htl]; omega)) (Vw rfl (ldI rfl na3 hti (Ext.refl _) (by omega) (by rw [htl]; omega)) (Vw rfl (minI rfl rfl) (Qi rfl rfl (Qd (Qg (Qa ?_))))))
   have hst := Ml.leastT_step (t := t) hjl
   rw [← hge] at hst
   rw [← hst]
   have hr1 : (Ml.restN s j : Int) - 1 = ((Ml.restN s j - 1 : Nat) : Int) := by omega
   refine Qb [0,1,2,3,4] rfl (mvV rfl rfl (mvV rfl rfl (QU rfl rfl rfl ?_)))
   rw [hr1]
   refine Vw rfl (andN K64.i rfl rfl (by omega) (by omega)) (Qi rfl rfl (Qd ?_))
   exact Qj (j + 1) ⟨rfl, rfl, rfl, rfl, rfl, rfl, rfl, rfl, trivial⟩ ⟨by omega, rfl⟩ (by omega)
  ·intro hr0
   have hr0 : (Ml.restN s j : Int) = 0 := Classical.byContradiction fun h => of_decide_eq_false hr0 h
   have hjl : j = (Ml.bitsL n s).length := Classical.byContradiction fun h => (hf2 (by omega)).1 (by omega)
   subst hjl
   refine Qt (Ql (Qm (Qh (Qa (Qb [0,1,2,3,4,5,6,7,8,9] rfl (mvV rfl rfl (mvV rfl rfl (mvV rfl rfl (mvV rfl rfl (Vw rfl (QP rfl rfl Qy (OwnI.ints ho8) (by omega) (by rw [Qp]; omega)) (Vw rfl (ldI rfl na3 (OwnI.ints ho8) (Ext.refl _) (by omega) (by rw [Qp]; omega)) ?_)))))))))))
   rw [Zw (by omega) (by omega), Int.toNat_natCast, if_pos (by omega)]
   refine mvV rfl rfl (Vw rfl (maxI rfl rfl) (Vw rfl (QP rfl rfl Qy hti (by omega) (by rw [htl]; omega)) (STI rfl wu rfl rfl sz3 nofun ?_ (ho := ht) (h0 := by omega) (h1 := by rw [htl]; omega))))
   intro w10 hg10 hX10 ho10 hi10
   refine Qd (Qg (Qa (Qb [0,1,2] rfl (mvV rfl rfl (Qw rfl rfl rfl (Qi rfl rfl (Qd ?_)))))))
   exact Qj (s + 1, si t s (max (Ml.dmM (opsP hc.P) L n s) (Ml.leastT t n s (Ml.bitsL n s).length))) ⟨rfl, rfl, rfl, rfl, rfl, rfl, trivial⟩ ⟨by dsimp only; omega, by dsimp only; omega, hX10 w (by omega) hE, hX10 w1 (Nat.le_refl _) hX, Own.kept hr hg10 (.inl hrt2), Own.kept ho8 hg10 (.inl hdt), ho10, hT.set (by omega) hsn⟩ (by dsimp only; omega)
 ·intro hsA
  simp at hsA
  obtain rfl : s = i := by omega
  refine Qt (Ql (Qm (Qh (Qa (Qc (Qb [0,1,2,3] rfl (mvV rfl rfl (mvV rfl rfl (Qi rfl rfl (Qi rfl rfl (Qd (Qa (Qs (QE rfl rfl rfl ?_))))))))))))))
  refine ⟨hE, dv, tv, t, rfl, ?_, Own.mono ht hz1, hT⟩
  have e : ∀ y, y < s → (if 0 < y ∧ y < s then Ml.dmM (opsP hc.P) L n y else 0) = if y = 0 then 0 else Ml.dmM (opsP hc.P) L n y := fun y hy => by
   by_cases h0 : y = 0
   ·rw [if_pos h0, if_neg (by omega)]
   ·rw [if_neg h0, if_pos (by omega)]
  rw [QB e] at hd
  rw [Ml.dimsL, ← hQ]
  exact Own.mono hd hz1
end Go.Proofs.YteheedbhcfllfaaGreatDoor
