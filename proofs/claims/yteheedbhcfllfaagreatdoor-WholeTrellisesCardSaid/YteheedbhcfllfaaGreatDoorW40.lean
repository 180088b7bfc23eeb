import Derived.Test.YteheedbhcfllfaaGreatDoorW38
import Derived.Test.YteheedbhcfllfaaGreatDoorW39
import Derived.Test.YteheedbhcfllfaaGreatDoorW16
import Derived.Test.YteheedbhcfllfaaGreatDoorW08
import Derived.RangeFuncWrites
import Derived.RangeFuncRecord
namespace Go.Ml
open Go.Pl
def bv (e : List Bool) : List Value := e.map Value.bool
theorem bv_len {e : List Bool} : (bv e).length = e.length := List.length_map _
theorem bv_get {e : List Bool} {y : Nat} (h : y < e.length) : (bv e)[y]? = some (.bool (e.getD y false)) := by
 simp [bv, List.getD_eq_getElem?_getD, h]
theorem bv_set {e : List Bool} {y : Nat} {x x' : Bool} : (bv (e.set y x)).set y (.bool x') = bv (e.set y x') := by
 rw [bv, List.map_set, List.set_set, bv, List.map_set]
theorem set_same {e : List Bool} {y : Nat} (h : y < e.length) : e.set y (e.getD y false) = e := by
 refine List.ext_getElem (by rw [List.length_set]) fun i h1 h2 => ?_
 rw [List.getElem_set]
 split
 ·rename_i e1
  subst e1
  simp [List.getD_eq_getElem?_getD, h]
 ·rfl
theorem set_ne {e : List Bool} {y z : Nat} {x : Bool} (h : z ≠ y) : (e.set y x).getD z false = e.getD z false := by
 rw [List.getD_eq_getElem?_getD, List.getD_eq_getElem?_getD, List.getElem?_set_ne (Ne.symm h)]
theorem set_at {e : List Bool} {y : Nat} {x : Bool} (h : y < e.length) : (e.set y x).getD y false = x := by
 rw [List.getD_eq_getElem?_getD, List.getElem?_set_self h]; rfl
variable {o : Ops} {L : List (List Int)} {n : Nat} {most : Int}
theorem EndTo.next {s : Nat} {e : List Bool} {x : Bool} (h : EndTo o L n most (s + 1) e) (hs : s + 1 < 2 ^ n)
  (h1 : x = true → gi (dimsL o L n) s ≤ most ∧ ∃ i, i < n ∧ s / 2 ^ i % 2 = 0 ∧ e.getD (s + 2 ^ i) false = true)
  (h2 : x = false → gi (dimsL o L n) s ≤ most → ∀ i, i < n → s / 2 ^ i % 2 = 0 → e.getD (s + 2 ^ i) false = false) : EndTo o L n most s (e.set s x) := by
 have hl := h.len
 have hp : ∀ i : Nat, 0 < 2 ^ i := fun i => Nat.pow_pos (by decide)
 refine ⟨by rw [List.length_set, hl], fun y h3 h4 => ?_, fun y hy => by rw [set_ne (by omega)]; exact h.lo y (by omega)⟩
 by_cases ey : y = s
 ·subst ey
  rw [set_at (by omega)]
  constructor
  ·intro hx
   obtain ⟨a, i, b, c, d⟩ := h1 hx
   exact ⟨a, .inr ⟨i, b, c, by rw [set_ne (by have := hp i; omega)]; exact d⟩⟩
  ·rintro ⟨a, b | ⟨i, b, c, d⟩⟩
   ·omega
   ·rw [set_ne (by have := hp i; omega)] at d
    cases hx : x with
    | true => rfl
    | false => rw [h2 hx a i b c] at d; cases d
 ·rw [set_ne ey, h.hi y (by omega) h4]
  constructor
  ·rintro ⟨a, b | ⟨i, b, c, d⟩⟩
   ·exact ⟨a, .inl b⟩
   ·exact ⟨a, .inr ⟨i, b, c, by rw [set_ne (by have := hp i; omega)]; exact d⟩⟩
  ·rintro ⟨a, b | ⟨i, b, c, d⟩⟩
   ·exact ⟨a, .inl b⟩
   ·rw [set_ne (by have := hp i; omega)] at d
    exact ⟨a, .inr ⟨i, b, c, d⟩⟩
theorem EndTo.first {Q : Nat} (hQ : Q = 2 ^ n) (h0 : 0 < Q) : EndTo o L n most (Q - 1) ((List.replicate Q false).set (Q - 1) (decide (gi (dimsL o L n) ((Q - 1 : Nat) : Int) ≤ most))) := by
 have hp : ∀ i : Nat, 0 < 2 ^ i := fun i => Nat.pow_pos (by decide)
 have hr : ∀ y, (List.replicate Q false).getD y false = false := fun y => by
  rw [List.getD_eq_getElem?_getD, List.getElem?_replicate]
  split <;> rfl
 refine ⟨by rw [List.length_set, List.length_replicate, hQ], fun y h3 h4 => ?_, fun y hy => by rw [set_ne (by omega)]; exact hr y⟩
 obtain rfl : y = Q - 1 := by omega
 rw [set_at (by rw [List.length_replicate]; omega)]
 constructor
 ·intro h
  exact ⟨of_decide_eq_true h, .inl (by omega)⟩
 ·rintro ⟨a, _⟩
  exact decide_eq_true a
end Go.Ml
namespace Go.Proofs.YteheedbhcfllfaaGreatDoor
open Go Go.Sx Go.Pl Go.RowKit Go.Fd Go.Alg
set_option maxRecDepth 10000 in
theorem orBest (p M : Int) (mo v : Value) (md : List Int) (n : Nat) (L : List (List Int)) (w : World) (hc : CdOk p M md n L) (hn : n ≤ 7) (hmd : Ints w mo md) (hL : LL w v L) :
  Calls Tryz.prog 6 #[.agg #[.int .i64 p, .int .i64 M, mo, .int .i64 n, v]] w (RetX w fun r w' => ∃ ov tv l t, r = .tuple #[ov, tv, .int .i64 0] ∧ Ints w' ov l ∧ Ints w' tv t ∧ Ml.OrdOk n l ∧ Ml.TabTo (opsP hc.P) L n (2 ^ n) t ∧ Ml.wdL (opsP hc.P) L n l l.length = gi t ((2 ^ n - 1 : Nat) : Int)) := by
 have hv1 := hL.one
 have hm1 := hmd.one
 obtain ⟨Q, hQ⟩ : ∃ Q : Nat, Q = 2 ^ n := ⟨_, rfl⟩
 have h2n : Q ≤ 128 := hQ ▸ Nat.pow_le_pow_right (by decide) hn
 have h2p : 0 < Q := hQ ▸ Nat.pow_pos (by decide)
 refine QJ Tryz.func6 rfl rfl (Qc (Qb [0,1,2,3] rfl (BXA rfl wu rfl rfl ?_)))
 intro cb w1 hE hB hcb
 refine Qi rfl rfl (Qi rfl rfl (Qi rfl rfl (Qd (Qa (Qc (Qc ?_))))))
 have hz1 := hE.size
 refine Qb [0,1,2] rfl (Vw rfl (ldA rfl ZE hB) (C rfl wu rfl rfl Tryz.call16 (JK p M mo v md n L _ hc.ok (hmd.ext hE) (hL.ext hE) hc.mv hc.can hc.h1 hc.h2) ?_))
 rintro _ w2 hE2 rfl
 replace hB := hB.ext hE2
 replace hE := hE.trans hE2
 refine Qi rfl rfl (Qd (Qa (Qc (Qb [0,1] rfl (mvV rfl rfl (QH rfl rfl rfl (Qd (Qa (Qo rfl (rfl) (Qe (Qa (Qc (Qc (Qb [0,1,2] rfl (Qx rfl rfl Za ?_)))))))))))))))
 refine Vw rfl (ldB rfl na3 hB) (ZA rfl rfl rfl (Qd (Qa (Qo rfl (by simp; omega) (Qe (Qa (Qc (Qb [0,1,2,3,4,5,6] rfl (Vw rfl (ldA rfl ZE hB) (C rfl wu rfl rfl Tryz.call17 (Qc2 p M mo v md n L _ hc hn (hmd.ext hE) (hL.ext hE)) ?_))))))))))
 rintro _ w3 hE3 ⟨dv, tv, t, rfl, hd, ht, hT⟩
 replace hB := hB.ext hE3
 replace hE := hE.trans hE3
 refine mvV rfl rfl (QI rfl rfl rfl (QI rfl rfl rfl (Qi rfl rfl (Qi rfl rfl (Qd (Qa (Qc ?_)))))))
 have htl : t.length = Q := by rw [hT.len, hQ]
 have hdl : (Ml.dimsL (opsP hc.P) L n).length = Q := by rw [Ml.dimsL, Qp, hQ]
 obtain ⟨A, hA⟩ : ∃ A : Nat, A = Q - 1 := ⟨_, rfl⟩
 have hAe : (t.length : Int) - 1 = A := by omega
 have hAe2 : (A : Int) + 1 = Q := by omega
 obtain ⟨most, hmost⟩ : ∃ m : Int, m = gi t A := ⟨_, rfl⟩
 have hmn := hT.bd (by omega) A (by omega)
 have hz3 := hE.size
 refine Qb [0,1,2,3] rfl (mvV rfl rfl (Vw rfl (Zk rfl Qy (OwnI.ints ht)) (QU rfl rfl rfl (Qi rfl rfl (Qd (Qa (Qc ?_)))))))
 rw [hAe]
 refine Qb [0,1,2,3,4] rfl (mvV rfl rfl (mvV rfl rfl (Vw rfl (QP rfl rfl Qy (OwnI.ints ht) (by omega) (by omega)) (Vw rfl (ldI rfl na3 (OwnI.ints ht) (Ext.refl _) (by omega) (by omega)) (Qi rfl rfl (Qd (Qa (Qc ?_))))))))
 rw [← hmost]
 refine Qb [0,1,2,3] rfl (mvV rfl rfl (Qw rfl rfl rfl (MK (n := Q) rfl wu rfl rfl Qbs rfl ?_)))
 intro ev w4 hE4 he heb
 refine Qi rfl rfl (Qd (Qa (Qc ?_)))
 have hd4 := OwnI.ext hd hE4
 have hdi := OwnI.ints hd4
 refine Qb [0,1,2,3,4,5,6,7,8,9] rfl (mvV rfl rfl (mvV rfl rfl (mvV rfl rfl (mvV rfl rfl (Vw rfl (QP rfl rfl Qy hdi (by omega) (by omega)) (Vw rfl (ldI rfl na3 hdi (Ext.refl _) (by omega) (by omega)) (mvV rfl rfl (Vw rfl (Qas rfl rfl) (Vw rfl (iad rfl rfl Qbs he.sl (by omega) (by simp; omega)) ?_)))))))))
 refine ST rfl wu rfl rfl sz4 rfl nofun ?_ he (by omega) (by simp; omega)
 intro w5 hg5 he5
 have hX5 := hE4.grown hg5 he (Nat.le_refl _)
 refine Qd (Qa (Qc (Qc ?_)))
 have he0 : Sx.Own w3.heap.size w5 ev 4 (Ml.bv ((List.replicate Q false).set A (decide (gi (Ml.dimsL (opsP hc.P) L n) A ≤ most)))) := by
  have e : (List.replicate Q (Value.bool false)).set (A : Int).toNat (.bool (decide (gi (Ml.dimsL (opsP hc.P) L n) A ≤ most))) = Ml.bv ((List.replicate Q false).set A (decide (gi (Ml.dimsL (opsP hc.P) L n) A ≤ most))) := by
   rw [Ml.bv, List.map_set, List.map_replicate, Int.toNat_natCast]
  rw [← e]
  exact he5
 have hend0 : Ml.EndTo (opsP hc.P) L n most A ((List.replicate Q false).set A (decide (gi (Ml.dimsL (opsP hc.P) L n) A ≤ most))) := by
  rw [hA]
  exact Ml.EndTo.first hQ h2p
 have hE5 := hE.trans hX5
 clear hd4 hdi he he5 hg5 hE4
 refine Qb [0,1,2] rfl (mvV rfl rfl (QU rfl rfl rfl (Qi rfl rfl (Qd (Qa (Qf ?_))))))
 refine Qu (fun s : Nat × List Bool => [(1, .pointer (some ⟨cb, 0, none⟩)), (2, .slice none 0 0), (3, tv), (6, dv), (7, .int .i64 A), (8, .int .i64 most), (9, ev), (10, .int .i64 ((s.1 : Int) - 1))])
  (fun s w' => s.1 ≤ A ∧ Ext w3 w' ∧ Sx.Own w3.heap.size w' ev 4 (Ml.bv s.2) ∧ Ml.EndTo (opsP hc.P) L n most s.1 s.2) (fun s => s.1) (A, (List.replicate Q false).set A (decide (gi (Ml.dimsL (opsP hc.P) L n) A ≤ most))) ⟨rfl, rfl, rfl, rfl, rfl, rfl, rfl, rfl, trivial⟩
  ⟨Nat.le_refl _, hX5, he0, hend0⟩ ?_
 clear he0 hend0 hE5 hX5
 rintro ⟨k, e⟩ w6 ⟨k1, hX, he, hend⟩
 dsimp only at k1 hX he hend
 have hel : e.length = Q := by rw [hend.len, hQ]
 try dsimp only
 refine Qc (Qc (Qb [0,1] rfl (mvV rfl rfl (Vw rfl (Ko rfl rfl) (Qd (Qa (Qq rfl ?_ ?_)))))))
 ·intro hk
  simp at hk
  obtain ⟨s, rfl⟩ : ∃ s, k = s + 1 := ⟨k - 1, by omega⟩
  have hse : (((s + 1 : Nat) : Int)) - 1 = (s : Int) := by omega
  have hsQ : s + 1 < Q := by omega
  have hsn : s + 1 < 2 ^ n := by omega
  rw [hse]
  refine Qe (Qa (Qc (Qf (Qc (Qb [0] rfl (Qi rfl rfl (Qd (Qa (Qf ?_)))))))))
  have he6 : Sx.Own w3.heap.size w6 ev 4 (Ml.bv (e.set s false)) := by
   have h0 := hend.lo s (by omega)
   have := Ml.set_same (e := e) (y := s) (by omega)
   rw [h0] at this
   rw [this]
   exact he
  refine Qu (fun q : Nat × Bool => [(1, .pointer (some ⟨cb, 0, none⟩)), (2, .slice none 0 0), (3, tv), (6, dv), (7, .int .i64 A), (8, .int .i64 most), (9, ev), (10, .int .i64 s), (11, .int .i64 q.1)])
   (fun q w' => q.1 ≤ n ∧ Ext w3 w' ∧ Sx.Own w3.heap.size w' ev 4 (Ml.bv (e.set s q.2)) ∧ (q.2 = true → gi (Ml.dimsL (opsP hc.P) L n) s ≤ most ∧ ∃ i, i < n ∧ s / 2 ^ i % 2 = 0 ∧ e.getD (s + 2 ^ i) false = true) ∧ (q.2 = false → gi (Ml.dimsL (opsP hc.P) L n) s ≤ most → ∀ i, i < q.1 → s / 2 ^ i % 2 = 0 → e.getD (s + 2 ^ i) false = false)) (fun q => n - q.1) (0, false) ⟨rfl, rfl, rfl, rfl, rfl, rfl, rfl, rfl, rfl, trivial⟩
   ⟨Nat.zero_le _, hX, he6, fun h => by (cases h), fun _ _ i hi => by (cases hi)⟩ ?_
  clear he6 hX he
  rintro ⟨i, x⟩ w7 ⟨i1, hX, he, h1, h2⟩
  dsimp only at i1 hX he h1 h2
  have hdi := OwnI.ints (OwnI.ext hd hX)
  have hlx : (e.set s x).length = Q := by rw [List.length_set, hel]
  try dsimp only
  refine Qc (Qc (Qb [0,1,2,3,4,5,6,7,8,9,10,11,12,13,14,15,16,17,18] rfl (mvV rfl rfl (Qx rfl rfl Za (Vw rfl (ldB rfl na3 (hB.ext hX)) (Qz rfl rfl rfl (mvV rfl rfl ?_)))))))
  refine AND (π1 := [5,6,7,8,9,10,11]) (π2 := [12,13,14,15,16,17,18]) (tc := 56) (tp := 63) rfl rfl rfl (by
    intro hg
    simp at hg
    refine Vg rfl rfl rfl (mv rfl) (Vg rfl rfl rfl (mv rfl) (Vg rfl rfl rfl (QP rfl rfl Qy hdi (by omega) (by omega)) (Vg rfl rfl rfl (ldI rfl na3 hdi (Ext.refl _) (by omega) (by omega)) (Vg rfl rfl rfl (mv rfl) (Vg rfl rfl rfl (Qas rfl rfl) (pkV rfl rfl rfl ?_))))))
    exact Zp rfl) (by
    intro _
    refine SK rfl rfl rfl rfl rfl (SK rfl rfl rfl rfl rfl (SK rfl rfl rfl rfl rfl (SK rfl rfl rfl rfl rfl (SK rfl rfl rfl rfl rfl (SK rfl rfl rfl rfl rfl (pkV rfl rfl rfl ?_))))))
    exact Zp rfl) ?_
  refine mvV rfl rfl ?_
  refine AND (π1 := [13,14,15,16,17,18]) (π2 := []) (tc := 64) (tp := 70) rfl rfl rfl (by
    intro hg
    simp at hg
    refine Vg rfl rfl rfl (mv rfl) (Vg rfl rfl rfl (mv rfl) (Vg rfl rfl rfl (iad rfl rfl Qbs he.sl (by omega) (by rw [Ml.bv_len, hlx]; omega)) (Vg rfl rfl rfl (ldE rfl na4 he.sl (by rw [Int.toNat_natCast]; exact Ml.bv_get (by omega))) (Vg rfl rfl rfl (notB rfl) (pkV rfl rfl rfl ?_)))))
    exact Zp rfl) (by
    intro _
    refine SK rfl rfl rfl rfl rfl (SK rfl rfl rfl rfl rfl (SK rfl rfl rfl rfl rfl (SK rfl rfl rfl rfl rfl (SK rfl rfl rfl rfl rfl (pkV rfl rfl rfl ?_)))))
    exact Zp rfl) ?_
  refine Qd (Qa ?_)
  rw [Ml.set_at (by omega)]
  refine Qq rfl ?_ ?_
  ·intro hg
   simp at hg
   obtain ⟨⟨hin, hdm⟩, rfl⟩ := hg
   have hd1 : s / 2 ^ i < 18446744073709551616 := Nat.lt_of_le_of_lt (Nat.div_le_self _ _) (by omega)
   have hp2 : 2 ^ i ≤ 128 := Nat.le_trans (Nat.pow_le_pow_right (by decide) (show i ≤ 7 by omega)) (by decide)
   have hp0 : 0 < 2 ^ i := Nat.pow_pos (by decide)
   refine Qe (Qa (Qc (Qf ?_)))
   by_cases hb : s / 2 ^ i % 2 = 0
   ·obtain ⟨f1, f2, _, _⟩ := Ml.bit_facts n (by omega) s (by omega) i hin hb
    refine Qb [0,1,2,3,4,5,6,7,8,9,10,11,12,13,14,15,16,17] rfl (mvV rfl rfl (mvV rfl rfl (mvV rfl rfl (mvV rfl rfl (Vw rfl (shrN K64.i rfl rfl (by omega)) (Vw rfl (and1 K64.i rfl rfl hd1) (QR rfl rfl rfl (mvV rfl rfl (KB 80 true rfl (decide_eq_true (by omega)) ?_)))))))))
    refine Vg rfl rfl rfl (mv rfl) (Vg rfl rfl rfl (mv rfl) (Vg rfl rfl rfl (mv rfl) (Vg rfl rfl rfl (shlN K64.i rfl rfl (by omega)) (Vg rfl rfl rfl (orN K64.i rfl rfl (by omega) (by omega)) ?_))))
    rw [f1]
    refine Vg rfl rfl rfl (iad rfl rfl Qbs he.sl (by omega) (by rw [Ml.bv_len, hlx]; omega)) (Vg rfl rfl rfl (ldE rfl na4 he.sl (by rw [Int.toNat_natCast]; exact Ml.bv_get (by omega))) ?_)
    rw [Ml.set_ne (by omega)]
    refine pkV rfl rfl rfl (Vw rfl (iad rfl rfl Qbs he.sl (by omega) (by rw [Ml.bv_len, hlx]; omega)) (ST rfl wu rfl rfl sz4 rfl nofun ?_ he (by omega) (by rw [Ml.bv_len, hlx]; omega)))
    intro w8 hg8 he8
    rw [Int.toNat_natCast, Ml.bv_set] at he8
    have hX8 := hX.grown hg8 he (Nat.le_refl _)
    refine Qd (Qg (Qa (Qb [0,1,2] rfl (mvV rfl rfl (Qw rfl rfl rfl (Qi rfl rfl (Qd (Qj (i + 1, e.getD (s + 2 ^ i) false) ⟨rfl, rfl, rfl, rfl, rfl, rfl, rfl, rfl, rfl, trivial⟩ ⟨by dsimp only; omega, hX8, he8, fun hx => ⟨hdm, i, hin, hb, hx⟩, fun hx hm2 i' hi' hb' => ?_⟩ (by dsimp only; omega)))))))))
    dsimp only at hx hi'
    by_cases ei : i' = i
    ·rw [ei]; exact hx
    ·exact h2 rfl hm2 i' (by omega) hb'
   ·skip
    refine Qb [0,1,2,3,4,5,6,7,8,9,10,11,12,13,14,15,16,17] rfl (mvV rfl rfl (mvV rfl rfl (mvV rfl rfl (mvV rfl rfl (Vw rfl (shrN K64.i rfl rfl (by omega)) (Vw rfl (and1 K64.i rfl rfl hd1) (QR rfl rfl rfl (mvV rfl rfl (KB 80 false rfl (decide_eq_false (by omega)) ?_)))))))))
    refine SK rfl rfl rfl rfl rfl (SK rfl rfl rfl rfl rfl (SK rfl rfl rfl rfl rfl (SK rfl rfl rfl rfl rfl (SK rfl rfl rfl rfl rfl (SK rfl rfl rfl rfl rfl (SK rfl rfl rfl rfl rfl (pkV rfl rfl rfl (Vw rfl (iad rfl rfl Qbs he.sl (by omega) (by rw [Ml.bv_len, hlx]; omega)) (ST rfl wu rfl rfl sz4 rfl nofun ?_ he (by omega) (by rw [Ml.bv_len, hlx]; omega))))))))))
    intro w8 hg8 he8
    rw [Int.toNat_natCast, Ml.bv_set] at he8
    have hX8 := hX.grown hg8 he (Nat.le_refl _)
    refine Qd (Qg (Qa (Qb [0,1,2] rfl (mvV rfl rfl (Qw rfl rfl rfl (Qi rfl rfl (Qd (Qj (i + 1, false) ⟨rfl, rfl, rfl, rfl, rfl, rfl, rfl, rfl, rfl, trivial⟩ ⟨by dsimp only; omega, hX8, he8, fun hx => by (cases hx), fun hx hm2 i' hi' hb' => ?_⟩ (by dsimp only; omega)))))))))
    dsimp only at hi'
    by_cases ei : i' = i
    ·rw [ei] at hb'; exact absurd hb' hb
    ·exact h2 rfl hm2 i' (by omega) hb'
  ·intro hg
   simp at hg
   refine Qt (Ql (Qm (Qh (Qg (Qa (Qb [0,1,2] rfl (mvV rfl rfl (QU rfl rfl rfl (Qi rfl rfl (Qd (Qj (s, e.set s x) ⟨rfl, rfl, rfl, rfl, rfl, rfl, rfl, rfl, trivial⟩ ⟨by dsimp only; omega, hX, he, hend.next hsn h1 fun hx hm2 i' hi' hb' => h2 hx hm2 i' (Classical.byContradiction fun h => ?_) hb'⟩ (by dsimp only; omega))))))))))))
   have := hg (by omega) hm2
   rw [hx] at this
   cases this
 intro hk
 simp at hk
 obtain rfl : k = 0 := by omega
 have hst : e.getD 0 false = true := hT.start (by omega) (by rw [← hQ, ← hA, ← hmost]; exact hend)
 refine Qt (Ql (Qm (Qh (Qa (Qc (Qc ?_))))))
 have hz6 := hX.size
 refine Qb [0] rfl (Qi rfl rfl (Qd (Qa (Qf ?_))))
 refine Qu (fun s : Nat × List Int × Value => [(1, .pointer (some ⟨cb, 0, none⟩)), (2, s.2.2), (3, tv), (7, .int .i64 A), (9, ev), (12, .int .i64 s.1)])
  (fun s w' => s.1 ≤ A ∧ Ext w6 w' ∧ OwnI w6.heap.size w' s.2.2 3 s.2.1 ∧ Ml.Way (opsP hc.P) L n most s.2.1 s.1 ∧ e.getD s.1 false = true) (fun s => A - s.1) (0, [], .slice none 0 0) ⟨rfl, rfl, rfl, rfl, rfl, rfl, trivial⟩
  ⟨Nat.zero_le _, Ext.refl _, OwnI.nil _ _ _, Ml.Way.nil (by omega) (by omega), hst⟩ ?_
 clear hst
 rintro ⟨s, l, ov⟩ w7 ⟨s1, hX7, ho, hw, hes⟩
 dsimp only at s1 hX7 ho hw hes
 have hsn : s < 2 ^ n := by omega
 have he7 := he.ext hX7
 try dsimp only
 refine Qc (Qc (Qb [0,1,2] rfl (mvV rfl rfl (mvV rfl rfl (QH rfl rfl rfl (Qd (Qa (Qq rfl ?_ ?_))))))))
 ·intro hs2
  have hs2 : s ≠ A := fun h => of_decide_eq_true hs2 (by rw [h])
  have hex := (hend.hi s (Nat.zero_le _) hsn).1 hes
  refine Qe (Qa (Qf (Qc (Qb [0,1,2] rfl (Qx rfl rfl Za (Vw rfl (ldB rfl na3 (hB.ext (hX.trans hX7))) (mvV rfl rfl (Qd (Qa (Qf ?_))))))))))
  refine Qu (fun i : Nat => [(1, .pointer (some ⟨cb, 0, none⟩)), (2, ov), (3, tv), (7, .int .i64 A), (9, ev), (12, .int .i64 s), (94, .int .i64 n), (95, .int .i64 i)])
   (fun i w' => i ≤ n ∧ w' = w7 ∧ ∀ i', i' < i → s / 2 ^ i' % 2 = 0 → e.getD (s + 2 ^ i') false = false) (fun i => n - i) 0 ⟨rfl, rfl, rfl, rfl, rfl, rfl, rfl, rfl, trivial⟩
   ⟨Nat.zero_le _, rfl, fun i' hi' => by (cases hi')⟩ ?_
  rintro i w8 ⟨i1, rfl, hno⟩
  try dsimp only
  refine Qc (Qb [0] rfl (Qz rfl rfl rfl (Qd (Qa (Qc (Qq rfl ?_ ?_))))))
  ·intro hin
   simp at hin
   have hd1 : s / 2 ^ i < 18446744073709551616 := Nat.lt_of_le_of_lt (Nat.div_le_self _ _) (by omega)
   have hp2 : 2 ^ i ≤ 128 := Nat.le_trans (Nat.pow_le_pow_right (by decide) (show i ≤ 7 by omega)) (by decide)
   refine Qe (Qa (Qc (Qf (Qc (Qb [0,1] rfl (mvV rfl rfl (Qi rfl rfl (Qd (Qa (Qc ?_))))))))))
   by_cases hb : s / 2 ^ i % 2 = 0
   ·obtain ⟨f1, f2, _, _⟩ := Ml.bit_facts n (by omega) s hsn i hin hb
    refine Qb [0,1,2,3,4,5,6,7,8,9,10,11,12,13] rfl (mvV rfl rfl (mvV rfl rfl (Vw rfl (shrN K64.i rfl rfl (by omega)) (Vw rfl (and1 K64.i rfl rfl hd1) (QR rfl rfl rfl (mvV rfl rfl (KB 103 true rfl (decide_eq_true (by omega)) (Vg rfl rfl rfl (mv rfl) (Vg rfl rfl rfl (mv rfl) ?_)))))))))
    refine Vg rfl rfl rfl (mv rfl) (Vg rfl rfl rfl (shlN K64.i rfl rfl (by omega)) (Vg rfl rfl rfl (orN K64.i rfl rfl (by omega) (by omega)) ?_))
    rw [f1]
    refine Vg rfl rfl rfl (iad rfl rfl Qbs he7.sl (by omega) (by rw [Ml.bv_len]; omega)) (Vg rfl rfl rfl (ldE rfl na4 he7.sl (by rw [Int.toNat_natCast]; exact Ml.bv_get (by omega))) (pkV rfl rfl rfl (Qd (Qa (Qq rfl ?_ ?_)))))
    ·intro hy
     have hy2 := ((hend.hi _ (Nat.zero_le _) f2).1 hy).1
     rw [Ml.dims_pos (by have := Nat.pow_pos (n := i) (show 0 < 2 by decide); omega) f2] at hy2
     have hw2 := hw.step (by omega) hsn hin hb hy2
     have hlb := hw.cnt
     have hlb2 := Ml.bitsL_len n s
     refine Qc (Qb [0,1,2,3,4] rfl (mvV rfl rfl (mvV rfl rfl (BSI (zs := [(i : Int)]) rfl wu rfl rfl rfl rfl Qy ?_))))
     intro kv w9 hE9 hko hki hkb
     refine API rfl wu rfl rfl rfl Qy nofun ?_ (ho := OwnI.ext ho hE9) (hB := by have h71 := hX7.size; have h91 := hE9.size; omega) (hs := hki) (hE := Ext.refl _) (hlen := by simp only [List.length_cons, List.length_nil]; omega)
     intro ov2 w10 hg10 hX10 ho10 hi10 hb10
     refine Qi rfl rfl (Qd (Qa (Qc (Qb [0,1,2,3,4] rfl (mvV rfl rfl (mvV rfl rfl (Vw rfl (shlN K64.i rfl rfl (by omega)) (Vw rfl (orN K64.i rfl rfl (by omega) (by omega)) ?_))))))))
     rw [f1]
     refine Qi rfl rfl (Qd (Qa (Qt (ZU rfl (Ql (Qm (Qh (Qg ?_))))))))
     exact Qj (s + 2 ^ i, l ++ [(i : Int)], ov2) ⟨rfl, rfl, rfl, rfl, rfl, rfl, trivial⟩ ⟨by dsimp only; omega, hX10 w6 (Nat.le_refl _) (hX7.trans hE9), ho10, hw2, hy⟩ (by have := Nat.pow_pos (n := i) (show 0 < 2 by decide); dsimp only; omega)
    ·intro hy
     refine Qe (Qg (Qa (Qb [0,1] rfl (Qw rfl rfl rfl (mvV rfl rfl (Qd (Qj (i + 1) ⟨rfl, rfl, rfl, rfl, rfl, rfl, rfl, rfl, trivial⟩ ⟨by omega, rfl, fun i' hi' hb' => ?_⟩ (by omega))))))))
     by_cases ei : i' = i
     ·rw [ei]; exact hy
     ·exact hno i' (by omega) hb'
   ·skip
    refine Qb [0,1,2,3,4,5,6,7,8,9,10,11,12,13] rfl (mvV rfl rfl (mvV rfl rfl (Vw rfl (shrN K64.i rfl rfl (by omega)) (Vw rfl (and1 K64.i rfl rfl hd1) (QR rfl rfl rfl (mvV rfl rfl (KB 103 false rfl (decide_eq_false (by omega)) (SK rfl rfl rfl rfl rfl (SK rfl rfl rfl rfl rfl ?_)))))))))
    refine SK rfl rfl rfl rfl rfl (SK rfl rfl rfl rfl rfl (SK rfl rfl rfl rfl rfl (SK rfl rfl rfl rfl rfl (SK rfl rfl rfl rfl rfl (pkV rfl rfl rfl (Qd (Qa (Qo rfl (rfl) (Qe (Qg (Qa (Qb [0,1] rfl ?_))))))))))))
    refine Qw rfl rfl rfl (mvV rfl rfl (Qd (Qj (i + 1) ⟨rfl, rfl, rfl, rfl, rfl, rfl, rfl, rfl, trivial⟩ ⟨by omega, rfl, fun i' hi' hb' => ?_⟩ (by omega))))
    by_cases ei : i' = i
    ·rw [ei] at hb'; exact absurd hb' hb
    ·exact hno i' (by omega) hb'
  ·intro hin
   simp at hin
   obtain ⟨_, h | ⟨i', h3, h4, h5⟩⟩ := hex
   ·omega
   ·rw [hno i' (by omega) h4] at h5
    cases h5
 ·intro hs2
  have hs2 : s = A := by
   have := of_decide_eq_false hs2
   omega
  subst hs2
  have hord := hw.done (by omega) (by omega)
  have hle := hT.best_le (by omega) hord
  rw [← hQ, ← hA, ← hmost] at hle
  have hwd := hw.wd
  refine Qt (Ql (Qm (Qh (Qa (Qc (Qb [0,1,2,3,4] rfl (mvV rfl rfl (mvV rfl rfl (Qi rfl rfl (Qi rfl rfl (Qi rfl rfl (Qd (Qa (Qs (QbE rfl rfl rfl rfl ?_)))))))))))))))
  exact ⟨hE.trans (hX.trans hX7), ov, tv, l, t, rfl, OwnI.ints ho, OwnI.ints (OwnI.ext ht (hX.trans hX7)), hord, hT, by rw [← hQ, ← hA, ← hmost]; omega⟩
end Go.Proofs.YteheedbhcfllfaaGreatDoor
namespace Go.Sx
open Go Go.RowKit Go.Pl
def ro (r : Option Nat) : Fence := { Fence.wide with round := r }
section
variable {P : Program} {r : Option Nat} {n : Nat}
theorem ci_of {f : FuncId} {args : Array Value} {w : World} {R : Ending → World → Prop} (h : Calls P f args w R) : CallsIn (ro r) n P f args w R := (callsIn_wide (n := n)).2 h
theorem ci_to {f : FuncId} {args : Array Value} {w : World} {R : Ending → World → Prop} (h : CallsIn (ro r) n P f args w R) : Calls P f args w R := (callsIn_wide (n := n)).1 h
def noDefer (ops : Array Oper) : Bool := ops.toList.all fun o => match o.op with
 | .defer _ => false
 | _ => true
theorem Qar {ops : Array Oper} (h : noDefer ops = true) {i : Nat} {o : Oper} (hi : ops[i]? = some o) : ∀ c, o.op ≠ .defer c := fun c hc => by
 have := List.all_eq_true.1 h o (Array.mem_toList_iff.2 (Array.mem_of_getElem? hi))
 rw [hc] at this
 cases this
theorem put_defers (a : Act) (ds : List Deferred) (d : Option Tmp) (v : Value) : ({ a with defers := ds } : Act).put d v = { a.put d v with defers := ds } := by
 cases d <;> rfl
theorem Xg (a : Act) (ds : List Deferred) : ({ a with defers := ds } : Act).eval = a.eval := by
 funext x; cases x <;> rfl
theorem Zt {ops : Array Oper} {ds : List Deferred} {K : Act → World → Prop} {Q : Exit → Act → World → Prop} {ρ : List Nat} (hnd : noDefer ops = true) (hQ : ∀ a w, K a w → wpOpsIn (ro r) n P ops Q ρ { a with defers := ds } w) :
  ∀ (l : List Nat) (a : Act) (w : World), RL P ops false K l a w → wpOpsIn (ro r) n P ops Q (l ++ ρ) { a with defers := ds } w
 | [], a, w, h => hQ _ _ h
 | i :: π, a, w, h => by
  obtain ⟨o, ho, h⟩ := h
  have hsem : ∀ ρ', Oper.semAt (ro r).round ρ' o = execOp ρ' o := fun ρ' => Oper.semAt_eq _ _ _ (Qar hnd ho)
  simp only [List.cons_append, wpOpsIn, ho]
  split
  ·rename_i hw
   rw [if_pos hw] at h
   refine ⟨fun _ _ => trivial, ?_⟩
   rw [hsem, Xg]
   rcases h with ⟨_, v, hv, hq⟩ | ⟨_, hq⟩
   ·rw [hv w (.inr (Ext.refl w))]
    show wpOpsIn (ro r) n P ops Q (π ++ ρ) (({ a with defers := ds } : Act).put o.dst v) w
    rw [put_defers]
    exact Zt hnd hQ π _ _ hq
   ·unfold Oper.wp at hq
    have next : ∀ a' w', ((∃ v, a' = a.put o.dst v) ∧ (false = true → isTail ops i = false → Ext w w') ∧ RL P ops false K π a' w') → wpOpsIn (ro r) n P ops Q (π ++ ρ) { a' with defers := ds } w' :=
     fun a' w' h => Zt hnd hQ π _ _ h.2.2
    match hr : (execOp a.eval o).run P w with
    | .ok (.value v) w' =>
     rw [hr] at hq
     have := next _ _ hq
     show wpOpsIn (ro r) n P ops Q (π ++ ρ) (({ a with defers := ds } : Act).put o.dst v) w'
     rwa [put_defers]
    | .ok .skip w' =>
     rw [hr] at hq
     have := next _ _ hq
     show wpOpsIn (ro r) n P ops Q (π ++ ρ) (({ a with defers := ds } : Act).put o.dst undef) w'
     rwa [put_defers]
    | .ok (.defer d) w' =>
     rw [hr] at hq
     obtain ⟨⟨v, hv⟩, _⟩ := hq
     have : (d :: a.defers).length = a.defers.length := by
      have h1 := congrArg Act.defers hv
      cases hd : o.dst <;> rw [hd] at h1 <;> exact congrArg List.length h1
     simp at this
    | .ok (.enter f args) w' =>
     rw [hr] at hq
     refine ⟨fun h => (by cases h), ci_of (Calls.mono hq fun e w'' he => ?_)⟩
     cases e with
     | returned v =>
      have := next _ _ he
      show wpOpsIn (ro r) n P ops Q (π ++ ρ) (({ a with defers := ds } : Act).put o.dst v) w''
      rwa [put_defers]
     | panicked c => exact he.elim
     | outgrown => obtain ⟨_, _, hf⟩ := he; exact hf.elim
    | .ok (.row row args) w' =>
     rw [hr] at hq
     refine ⟨fun h => (by cases h), fun c cs _ => ?_⟩
     obtain ⟨v, w'', h1, h2⟩ := hq c cs
     refine ⟨v, w'', ?_, stepsIn_wide.2 h2⟩
     have := next _ _ h1
     show wpOpsIn (ro r) n P ops Q (π ++ ρ) (({ a with defers := ds } : Act).put o.dst v) w''
     rwa [put_defers]
    | .ok (.round a1 a2 a3 a4 a5) w' => rw [hr] at hq; exact hq.elim
    | .halt (.panic v) w' => rw [hr] at hq; exact hq.elim
    | .ok (.callThen _ _ _ _) w' => rw [hr] at hq; exact hq.elim
    | .ok (.stack _ _) w' => rw [hr] at hq; exact hq.elim
    | .ok .recover w' => rw [hr] at hq; exact hq.elim
    | .ok (.spawn _) w' => rw [hr] at hq; exact hq.elim
    | .ok (.comm _ _ _) w' => rw [hr] at hq; exact hq.elim
    | .ok .numGoroutine w' => rw [hr] at hq; exact hq.elim
    | .ok .collect w' => rw [hr] at hq; exact hq.elim
    | .ok (.watch _) w' => rw [hr] at hq; exact hq.elim
    | .ok (.newcoro _ _) w' => rw [hr] at hq; exact hq.elim
    | .ok (.coroswitch _ _) w' => rw [hr] at hq; exact hq.elim
    | .ok (.sleep _) w' => rw [hr] at hq; exact hq.elim
    | .ok (.timer _) w' => rw [hr] at hq; exact hq.elim
    | .ok (.alone _ _) w' => rw [hr] at hq; exact hq.elim
    | .halt .blocked w' => rw [hr] at hq; exact hq.elim
    | .halt .waiting w' => rw [hr] at hq; exact hq.elim
    | .halt (.exit _) w' => rw [hr] at hq; exact hq.elim
    | .halt (.fatal _) w' => rw [hr] at hq; exact hq.elim
    | .halt (.throw _) w' => rw [hr] at hq; exact hq.elim
    | .halt .goexit w' => rw [hr] at hq; exact hq.elim
    | .halt (.unsupported _) w' => rw [hr] at hq; exact hq.elim
    | .halt (.stuck _) w' => rw [hr] at hq; exact hq.elim
  ·rename_i hw
   rw [if_neg hw] at h
   refine ⟨fun _ _ => trivial, ?_⟩
   rw [put_defers]
   exact Zt hnd hQ π _ _ h
end
def AtD (N : Nat) (ds : List Deferred) (a : Act) (l : Env) : Prop := a.defers = ds ∧ At N { a with defers := [] } l
theorem AtD.sub {N : Nat} {ds : List Deferred} {a : Act} {l m : Env} (h : AtD N ds a l) (hs : Sub l m) : AtD N ds a m := ⟨h.1, h.2.sub hs⟩
theorem AtD.eval {N : Nat} {ds : List Deferred} {a : Act} {l : Env} (h : AtD N ds a l) {x : Operand} {v : Value} (hx : ev l x = some v) : a.eval x = v := by
 rw [← Xg a []]; exact h.2.eval hx
section
variable (P : Program) (r : Option Nat) (n : Nat) (ds : List Deferred) (N : Nat)
def WI (c : Code) (Q : Exit → Act → World → Prop) (l : Env) (w : World) : Prop := ∀ a, AtD N ds a l → c.wpIn (ro r) n P Q a w
def PostD (Q : Exit → Act → World → Prop) (e : Exit) (l : Env) (w : World) : Prop := ∀ a, AtD N ds a l → Q e a w
end
section
variable {P : Program} {r : Option Nat} {n : Nat} {ds : List Deferred} {N : Nat} {Q : Exit → Act → World → Prop} {l : Env} {w : World} {ops : Array Oper}
theorem Qbm {a : Act} (h : a.defers = ds) : ({ a with defers := ds } : Act) = a := by cases a; cases h; rfl
def RegQ (ds : List Deferred) (Q : Exit → Act → World → Prop) : Exit → Act → World → Prop := fun e a w => Q e { a with defers := ds } w
theorem ZH {id : Nat} (π : List Nat) (hπ : List.range ops.size = π) (h : WR P N ops false (RegQ ds Q .normal) π l w) (hnd : noDefer ops = true := by kernel_rfl) : WI P r n ds N (.region id ops false) Q l w := by
 intro a ha
 refine wpIn_region ?_
 have := Zt (ds := ds) (r := r) (n := n) (Q := Q) (ρ := []) hnd (fun a w hk => hk) π _ w (h _ ha.2)
 rw [List.append_nil, show ({ ({ a with defers := [] } : Act) with defers := ds } : Act) = a from Qbm ha.1] at this
 rw [hπ]
 exact this
theorem Jn (h : PostD ds N Q .normal l w) : WR P N ops false (RegQ ds Q .normal) [] l w := fun a ha => h _ ⟨rfl, by rw [← ha.defers] at *; cases a; exact ha⟩
def YieldQ (P : Program) (r : Option Nat) (n : Nat) (ds : List Deferred) (ops : Array Oper) (Q : Exit → Act → World → Prop) (ρ : List Nat) : Act → World → Prop := fun a w => wpOpsIn (ro r) n P ops Q ρ { a with defers := ds } w
theorem Qdq {id : Nat} (π ρ : List Nat) (hπ : List.range ops.size = π ++ ρ) (h : WR P N ops false (YieldQ P r n ds ops Q ρ) π l w) (hnd : noDefer ops = true := by kernel_rfl) : WI P r n ds N (.region id ops false) Q l w := by
 intro a ha
 refine wpIn_region ?_
 have := Zt (ds := ds) (r := r) (n := n) (Q := Q) (ρ := ρ) hnd (fun a w hk => hk) π _ w (h _ ha.2)
 rw [show ({ ({ a with defers := [] } : Act) with defers := ds } : Act) = a from Qbm ha.1] at this
 rw [hπ]
 exact this
theorem wir_yield {i d : Nat} {ρ : List Nat} {x : Operand} {cl : List Operand} {vs : List Value} {ats : Array TypeId} {ty : TypeId} {pos : String} {after : Array Edge} {rl : Nat} {R : Ending → World → Prop}
  (hi : ops[i]? = some ⟨some d, .call ⟨.value x, cl.toArray, ats⟩, ty, pos, after, none⟩) (hnd : noDefer ops = true) (hd : Nat.blt d N = true) (hx : ev l x = some (.func (.yield rl) #[] #[])) (hv : evs l cl = some vs)
  (hY : YieldAt (ro r) (n - 1) P rl vs.toArray w R) (h : ∀ e w', R e w' → ∃ v, e = .returned v ∧ WR P N ops false (RegQ ds Q .normal) ρ ((d, v) :: l) w') :
  WR P N ops false (YieldQ P r n ds ops Q (i :: ρ)) [] l w := by
 intro a ha
 obtain ⟨fn, tmps, assign, body, hy, hR⟩ := hY
 show wpOpsIn (ro r) n P ops Q (i :: ρ) { a with defers := ds } w
 simp only [wpOpsIn, hi]
 have hm := ha.evals hv
 have hrun : (execOp a.eval ⟨some d, .call ⟨.value x, cl.toArray, ats⟩, ty, pos, after, none⟩).run P w = .ok (.round rl fn tmps assign body) w := by
  simp only [execOp, resolve, List.map_toArray, hm, ha.eval hx, Deferred.ofValue]
  simp [invoke, hy]
 split
 ·refine ⟨fun _ _ => trivial, ?_⟩
  rw [Oper.semAt_eq _ _ _ (Qar hnd hi), Xg, hrun]
  refine ⟨fun h => (by cases h), hR.mono fun e w' he => ?_⟩
  obtain ⟨v, rfl, hw⟩ := h e w' he
  show wpOpsIn (ro r) n P ops Q ρ (({ a with defers := ds } : Act).put (some d) v) w'
  rw [put_defers, ← List.append_nil ρ]
  exact Zt hnd (fun a w hk => hk) ρ _ w' (hw _ (ha.put hd v))
 ·rename_i hw
  exact (hw (by simp [Region.wanted])).elim
theorem JW {x y : Code} (h : WI P r n ds N x (Exit.then (fun a w => y.wpIn (ro r) n P Q a w) Q) l w) : WI P r n ds N (.seq x y) Q l w := fun a ha => wpIn_seq (h a ha)
theorem wi_skip (h : PostD ds N Q .normal l w) : WI P r n ds N .skip Q l w := fun a ha => wpIn_skip (h a ha)
theorem wi_ret (h : PostD ds N Q .ret l w) : WI P r n ds N .ret Q l w := fun a ha => wpIn_ret (h a ha)
theorem wi_exit {id : Nat} (h : PostD ds N Q (.exit id) l w) : WI P r n ds N (.exit id) Q l w := fun a ha => wpIn_exit (h a ha)
theorem Kf {id : Nat} {c : Code} (h : WI P r n ds N c (Exit.inBlock id Q) l w) : WI P r n ds N (.block id c) Q l w := fun a ha => wpIn_block (h a ha)
theorem wi_cond {c : Operand} {x y : Code} {b : Bool} (hc : ev l c = some (.bool b)) (ht : b = true → WI P r n ds N x Q l w) (hf : b = false → WI P r n ds N y Q l w) : WI P r n ds N (.cond c x y) Q l w :=
 fun a ha => wpIn_cond_split (ha.eval hc) (fun h => ht h a ha) (fun h => hf h a ha)
theorem wi_condF {c : Operand} {x y : Code} {b : Bool} (hc : ev l c = some (.bool b)) (hb : b = false) (hf : WI P r n ds N y Q l w) : WI P r n ds N (.cond c x y) Q l w :=
 wi_cond hc (fun h => by rw [hb] at h; cases h) (fun _ => hf)
def LoopQD {σ : Type} (ds : List Deferred) (N : Nat) (L : σ → Env) (I : σ → World → Prop) (μ : σ → Nat) (m : Nat) (Q : Exit → Act → World → Prop) : Exit → Act → World → Prop :=
 Exit.then (fun a w => ∃ s, AtD N ds a (L s) ∧ I s w ∧ μ s < m) Q
theorem QaI {F : Fence} {c : Code} (J : Nat → Act → World → Prop) (round : ∀ m a w, J m a w → c.wpIn F n P (Exit.then (fun a' w' => ∃ k, k < m ∧ J k a' w') Q) a w) :
  ∀ m a w, J m a w → (Code.loop c).wpIn F n P Q a w := by
 intro m a w h b k cs hro hb hr
 have key : ∀ j a w, J j a w →
   ∃ e a' w', Q e a' w' ∧ ArrivesIn (Machine.fenced P F) P (lone (b.atR a (.code c :: .inLoop c :: k)) cs w) b k cs e a' w' := by
  intro j
  induction j using Nat.strongRecOn with
  | _ j ih =>
   intro a w hJ
   obtain ⟨e, a₁, w₁, hq, harr⟩ := round j a w hJ b (.inLoop c :: k) cs hro hb hr
   cases e with
   | normal =>
    obtain ⟨j', hlt, hJ₁⟩ := hq
    obtain ⟨e₂, a₂, w₂, hq₂, harr₂⟩ := ih j' hlt a₁ w₁ hJ₁
    exact ⟨e₂, a₂, w₂, hq₂, .of_steps (StepsIn.trans harr (.one (fenced_calm hb hr rfl) stepR_inLoop)) harr₂⟩
   | exit id => exact ⟨_, a₁, w₁, hq, .pass (x := .inLoop c) rfl (fun _ _ => .inl (by simp)) harr⟩
   | goto l => exact ⟨_, a₁, w₁, hq, .pass (x := .inLoop c) rfl (fun _ _ => .inl (by simp)) harr⟩
   | ret => exact ⟨_, a₁, w₁, hq, .pass (x := .inLoop c) rfl (fun _ _ => .inl (by simp)) harr⟩
   | panic ch => exact ⟨_, a₁, w₁, hq, .pass (x := .inLoop c) rfl (fun _ _ => .inl (by simp)) harr⟩
   | outgrown => exact ⟨_, a₁, w₁, hq, .pass (x := .inLoop c) rfl (fun _ _ => .inl (by simp)) harr⟩
 obtain ⟨e, a', w', hq, harr⟩ := key m a w h
 exact ⟨e, a', w', hq, .of_steps (.one (fenced_calm hb hr rfl) stepR_loop) harr⟩
theorem wi_loop {σ : Type} (L : σ → Env) (I : σ → World → Prop) (μ : σ → Nat) (s0 : σ) {body : Code} (hL : Sub l (L s0)) (hI : I s0 w)
  (round : ∀ s w, I s w → WI P r n ds N body (LoopQD ds N L I μ (μ s) Q) (L s) w) : WI P r n ds N (.loop body) Q l w := by
 intro a ha
 refine QaI (P := P) (Q := Q) (fun m a w => ∃ s, AtD N ds a (L s) ∧ I s w ∧ μ s = m) ?_ (μ s0) a w ⟨s0, ha.sub hL, hI, rfl⟩
 rintro m a w ⟨s, hA, hI, rfl⟩
 refine wpIn_mono (round s w hI a hA) (fun e a' w' hq => ?_)
 cases e with
 | normal => obtain ⟨s', h1, h2, h3⟩ := hq; exact ⟨μ s', h3, s', h1, h2, rfl⟩
 | _ => exact hq
theorem Zj {y : Code} {Q' : Exit → Act → World → Prop} (h : WI P r n ds N y Q l w) : PostD ds N (Exit.then (fun a w => y.wpIn (ro r) n P Q a w) Q') .normal l w := h
theorem Qcg {K : Act → World → Prop} {id : Nat} (h : PostD ds N Q (.exit id) l w) : PostD ds N (Exit.then K Q) (.exit id) l w := h
theorem Qch {σ : Type} {L : σ → Env} {I : σ → World → Prop} {μ : σ → Nat} {m : Nat} (s' : σ) (hL : Sub l (L s')) (hI : I s' w) (hm : μ s' < m) : PostD ds N (LoopQD ds N L I μ m Q) .normal l w :=
 fun _ ha => ⟨s', ha.sub hL, hI, hm⟩
theorem Qci {σ : Type} {L : σ → Env} {I : σ → World → Prop} {μ : σ → Nat} {m : Nat} {id : Nat} (h : PostD ds N Q (.exit id) l w) : PostD ds N (LoopQD ds N L I μ m Q) (.exit id) l w := h
theorem JD {id : Nat} (h : PostD ds N Q .normal l w) : PostD ds N (Exit.inBlock id Q) .normal l w := h
theorem QbD {id : Nat} (h : PostD ds N Q .normal l w) : PostD ds N (Exit.inBlock id Q) (.exit id) l w := fun a ha => by
 show (if id = id then Q .normal a w else Q (.exit id) a w)
 rw [if_pos rfl]
 exact h a ha
end
def mark (D : Nat) : List Deferred := [{ target := .collected D, args := #[] }]
section
variable {P : Program} {r : Option Nat} {n : Nat} {ds : List Deferred} {N : Nat} {Q : Exit → Act → World → Prop} {l : Env} {w : World} {fn : Func} {R : Ending → World → Prop}
theorem posti_of {e : Exit} (h : Post N Q e l w) : PostD [] N Q e l w := fun a ha => h a (by have := ha.2; rwa [Qbm ha.1] at this)
theorem atd_of {a : Act} (h : At N a l) : AtD N [] a l := ⟨h.defers, by rw [Qbm h.defers]; exact h⟩
theorem at_args {args : List Value} {M : Nat} (hN : M = N) (hlen : Nat.ble args.length N = true) (hl : ∀ t v, lk l t = some v → args[t]? = some v) : At N { tmps := args.toArray ++ Array.replicate (M - args.toArray.size) undef, defers := [] } l := by
 refine ⟨rfl, ?_, ?_⟩
 ·have : args.length ≤ N := Nat.le_of_ble_eq_true hlen
  simp [hN]; omega
 ·intro t v ht
  have := hl t v ht
  have hlt : t < args.length := (List.getElem?_eq_some_iff.1 this).1
  simp [Array.getElem?_append, hlt]
  simpa [List.getElem?_eq_getElem hlt] using this
theorem iter_of2 {f : FuncId} {c : Code} {v0 v1 : Value} (hf : P.funcs[f]? = some fn) (hb : fn.body = some c) (hN : Nat.ble 2 fn.ntmps = true := by rfl) (h : WI P none n [] fn.ntmps c (bodyPost P fn R) [(0, v0), (1, v1)] w) : CallsIn (ro none) n P f #[v0, v1] w R :=
 callsIn_of_wp hf hb trivial (h _ (atd_of (at_args (args := [v0, v1]) rfl hN (fun t _ h => match t, h with
  | 0, h => h
  | 1, h => h
  | _ + 2, h => h)))) rfl
theorem callsM2 {f : FuncId} {c : Code} {v0 v1 : Value} (hf : P.funcs[f]? = some fn) (hb : fn.body = some c) (hN : Nat.ble 2 fn.ntmps = true := by rfl) (h : WI P none 2 [] fn.ntmps c (bodyPostM (ro none) 2 P fn R) [(0, v0), (1, v1)] w) : Calls P f #[v0, v1] w R :=
 ci_to (callsIn_of_wp_marks hf hb trivial (h _ (atd_of (at_args (args := [v0, v1]) rfl hN (fun t _ h => match t, h with
  | 0, h => h
  | 1, h => h
  | _ + 2, h => h)))) rfl)
theorem QdB {D : Nat} (hk : w.heap[D]? = some (.deferred (some []))) (h : Post N (bodyPost P fn R) .ret l (w.putObj D (.deferred none))) : PostD (mark D) N (bodyPostM (ro none) n P fn R) .ret l w := fun a ha => by
 obtain ⟨_, v, h1, h2⟩ := h _ ha.2
 show LeavesInM (ro none) n P fn a.tmps R a.defers .returning w
 rw [ha.1]
 exact ⟨by simp, .inl ⟨D, _, rfl, run_takeDeferred hk, v, h1, h2⟩⟩
theorem Ext.putObj {w0 w : World} (h : Ext w0 w) {D : Nat} (hD : w0.heap.size ≤ D) (o : Obj) : Ext w0 (w.putObj D o) :=
 Below.grown h (grownBy_putObj' w D o) h.size (fun k e => by cases e; exact hD)
theorem Qdp {id p d : Nat} {ty : TypeId} {pos : String} {after : Array Edge} {K : Act → World → Prop} {Q' : Exit → Act → World → Prop} {a : Act} (h : K (a.put (some d) (a.eval (.tmp p))) w) :
  (Code.region id #[⟨some d, .assign (.tmp p), ty, pos, after, none⟩] false).wpIn (ro r) n P (Exit.then K Q') a w := by
 refine wpIn_region ?_
 show wpOpsIn _ n P _ _ [0] a w
 simp only [wpOpsIn, List.getElem?_toArray, List.getElem?_cons_zero]
 rw [if_pos (by simp [Region.wanted])]
 refine ⟨fun _ _ => trivial, ?_⟩
 rw [Oper.semAt_eq _ _ _ (fun c hc => by cases hc)]
 exact h
end
end Go.Sx
namespace Go.Sx
open Go Go.RowKit Go.Pl
section
variable {P : Program} {N : Nat} {Q : Exit → Act → World → Prop} {l : Env} {w : World}
end
end Go.Sx
