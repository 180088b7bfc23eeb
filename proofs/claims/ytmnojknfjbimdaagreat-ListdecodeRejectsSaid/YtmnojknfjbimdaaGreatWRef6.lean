/-
  The reference's product of two elements, by contract: it is that of the ring of residues; and its sum of products.
-/
import Derived.Test.YtmnojknfjbimdaaGreatWRef5
namespace Go.Proofs.YtmnojknfjbimdaaGreat
open Go Go.Sx Go.Pl Go.RowKit Go.Fd Go.Alg
theorem zK_step {P : FP} {c a b : Int} : zK P ((c + a * b) % P.p) = zK P c + zK P a * zK P b := by rw [zK_mod, zK_add, zK_mul]
theorem zK_step2 {P : FP} {c t b : Int} : zK P ((c + (P.p - t) * b) % P.p) = zK P c + zK P (-t) * zK P b := by
  rw [zK_mod, zK_add, zK_mul]
  congr 2
  refine zK_cg ?_
  rw [show P.p - t = -t + P.p * 1 by omega, Int.add_mul_emod_self_left]
def pl (P : FP) (l : List Int) (n : Nat) : K P := pe P (fun t => l.getD t 0) n
theorem gi_getD (l : List Int) (k : Int) : gi l k = l.getD k.toNat 0 := rfl
theorem pl_first (P : FP) (m n : Nat) : pl P (tab m fun _ => 0) n = 0 := by
  rw [pl, ← pe_zero n]
  refine pe_congr n fun j _ => ?_
  by_cases h : j < m
  · simp [tab_get h]
  · rw [List.getD_eq_getElem?_getD, List.getElem?_eq_none (by rw [tab_length]; omega)]; rfl
theorem lo_tab0 {p : Int} (hp : 2 ≤ p) (m : Nat) : Lo p (tab m fun _ => 0) := fun z hz => by
  simp only [tab, List.mem_map] at hz
  obtain ⟨_, _, rfl⟩ := hz
  omega
theorem lo_si' {p : Int} {l : List Int} (h : Lo p l) (k z : Int) (h0 : 0 ≤ z) (h1 : z < p) : Lo p (si l k z) := fun u hu => by
  rcases List.mem_or_eq_of_mem_set hu with hu | rfl
  · exact h u hu
  · exact ⟨h0, h1⟩
set_option maxRecDepth 10000 in
theorem rMul (P : FP) (mo : Value) (md : List Int) (x y : Int) (w : World) (hF : FV w P mo md) :
    Calls Tryz.prog 37 #[fv P mo, .int .i64 x, .int .i64 y] w (RetX w fun v _ => v = .int .i64 (inK P x * inK P y).1) := by
  have hp := P.hp
  have hM := P.hM
  have hp2 := hF.p
  have hm := hF.m
  have hq : P.p ^ P.M ≤ 256 := hF.q
  refine calls3 Tryz.func37 rfl rfl ?_
  refine wc_seq ?_
  refine wc_region [0,1] rfl ?_
  refine BXA rfl wu rfl rfl ?_
  intro g w1 hE hB hg
  refine Go.Sx.V rfl wu rfl rfl (asg rfl) ?_
  refine wr_nil (post_thenN (wc_seq ?_))
  refine wc_region [0,1,2,3] rfl ?_
  refine Go.Sx.V rfl wu rfl rfl (ldA rfl ag24) ?_
  refine Go.Sx.V rfl wu rfl rfl (mv rfl) ?_
  refine C rfl wu rfl rfl Tryz.call68 (rDigs P mo md x _ (hF.ext hE)) ?_
  rintro a w2 hE2 ⟨ha, hab⟩
  replace hE := hE.trans hE2
  replace hB := hB.ext hE2
  refine Go.Sx.V rfl wu rfl rfl (asg rfl) ?_
  refine wr_nil (post_thenN (wc_seq ?_))
  refine wc_region [0,1,2,3] rfl ?_
  refine Go.Sx.V rfl wu rfl rfl (ldA rfl ag24) ?_
  refine Go.Sx.V rfl wu rfl rfl (mv rfl) ?_
  refine C rfl wu rfl rfl Tryz.call68 (rDigs P mo md y _ (hF.ext hE)) ?_
  rintro b w3 hE3 ⟨hb, hbb⟩
  replace hE := hE.trans hE3
  replace hB := hB.ext hE3
  refine Go.Sx.V rfl wu rfl rfl (asg rfl) ?_
  refine wr_nil (post_thenN (wc_seq ?_))
  have hai := (OwnI.ints ha).ext hE3
  have hbi := OwnI.ints hb
  have hmi := hF.ints.ext hE
  clear ha hb hab hbb hE2 hE3
  generalize inK P x = X at hai ⊢
  generalize inK P y = Y at hbi ⊢
  have hla := dig_length P.p P.M X.1
  have hlb := dig_length P.p P.M Y.1
  refine wc_region [0,1,2,3,4,5] rfl ?_
  refine Go.Sx.V rfl wu rfl rfl (fad rfl fa24_1) ?_
  refine Go.Sx.V rfl wu rfl rfl (ldB rfl na3) ?_
  refine Go.Sx.V rfl wu rfl rfl (mulI rfl rfl) ?_
  refine Go.Sx.V rfl wu rfl rfl (subI rfl rfl) ?_
  refine MKI (n := (2 * P.M - 1)) rfl wu rfl rfl ty22 ?_
  intro c w4 hE4 hc hci hcb
  refine Go.Sx.V rfl wu rfl rfl (asg rfl) ?_
  refine wr_nil (post_thenN (wc_seq (wc_seq ?_)))
  clear hci hcb
  refine wc_region [0] rfl ?_
  refine Go.Sx.V rfl wu rfl rfl (asg rfl) ?_
  refine wr_nil (post_thenN (wc_block ?_))
  refine wc_loop (fun q : Int × List Int => [(3, .pointer (some ⟨g, 0, none⟩)), (7, a), (8, b), (9, c), (10, .int .i64 q.1)])
    (fun q w' => 0 ≤ q.1 ∧ q.1 ≤ P.M ∧ Ext w3 w' ∧ OwnI w3.heap.size w' c 3 q.2 ∧ q.2.length = 2 * P.M - 1 ∧ Lo P.p q.2 ∧ pl P q.2 (2 * P.M - 1) = pe P X.v q.1.toNat * Y) (fun q => (P.M - q.1).toNat) (0, tab (2 * P.M - 1) fun _ => 0)
    ⟨rfl, rfl, rfl, rfl, rfl, trivial⟩ ⟨Int.le_refl _, by show (0 : Int) ≤ P.M; omega, hE4, hc, tab_length _ _, lo_tab0 hp _, by show pl P _ _ = 0 * Y; rw [pl_first, zero_mul]⟩ ?_
  clear hc hE4
  rintro ⟨i, l⟩ w5 ⟨i0, i1, hE5, hc, hl, hlo, hpe⟩
  dsimp only at i0 i1 hE5 hc hl hlo hpe
  try dsimp only
  refine wc_seq (wc_seq ?_)
  refine wc_region [0,1,2,3] rfl ?_
  refine Go.Sx.V rfl wu rfl rfl (mv rfl) ?_
  refine Go.Sx.V rfl wu rfl rfl (fad rfl fa24_1) ?_
  refine Go.Sx.V rfl wu rfl rfl (ldB rfl na3) ?_
  refine Go.Sx.V rfl wu rfl rfl (lssI rfl rfl) ?_
  refine wr_nil (post_thenN ?_)
  refine wc_cond rfl ?_ ?_
  · intro hi
    simp at hi
    refine wc_skip (post_thenN (wc_seq (wc_block (wc_seq ?_))))
    refine wc_region [0] rfl ?_
    refine Go.Sx.V rfl wu rfl rfl (asg rfl) ?_
    refine wr_nil (post_thenN (wc_block ?_))
    refine wc_loop (fun q : Int × List Int => [(3, .pointer (some ⟨g, 0, none⟩)), (7, a), (8, b), (9, c), (10, .int .i64 i), (11, .int .i64 q.1)])
      (fun q w' => 0 ≤ q.1 ∧ q.1 ≤ P.M ∧ Ext w3 w' ∧ OwnI w3.heap.size w' c 3 q.2 ∧ q.2.length = 2 * P.M - 1 ∧ Lo P.p q.2 ∧ pl P q.2 (2 * P.M - 1) = pe P X.v i.toNat * Y + zK P (X.v i.toNat) * npow (xi P) i.toNat * pe P Y.v q.1.toNat) (fun q => (P.M - q.1).toNat) (0, l)
      ⟨rfl, rfl, rfl, rfl, rfl, rfl, trivial⟩ ⟨Int.le_refl _, by show (0 : Int) ≤ P.M; omega, hE5, hc, hl, hlo, by show pl P l _ = _ + _ * 0; rw [mul_zero, add_zero]; exact hpe⟩ ?_
    clear hc hE5 hl hlo hpe
    rintro ⟨j, l⟩ w6 ⟨j0, j1, hE6, hc, hl, hlo, hpe⟩
    dsimp only at j0 j1 hE6 hc hl hlo hpe
    have hci := OwnI.ints hc
    try dsimp only
    refine wc_seq (wc_seq ?_)
    refine wc_region [0,1,2,3] rfl ?_
    refine Go.Sx.V rfl wu rfl rfl (mv rfl) ?_
    refine Go.Sx.V rfl wu rfl rfl (fad rfl fa24_1) ?_
    refine Go.Sx.V rfl wu rfl rfl (ldB rfl na3) ?_
    refine Go.Sx.V rfl wu rfl rfl (lssI rfl rfl) ?_
    refine wr_nil (post_thenN ?_)
    refine wc_cond rfl ?_ ?_
    · intro hj
      simp at hj
      refine wc_skip (post_thenN (wc_seq (wc_block ?_)))
      have g1 := gi_v X (j := i)
      have g2 := gi_v Y (j := j)
      have l1 := v_lo X i.toNat (by omega)
      have l2 := v_lo Y j.toNat (by omega)
      have l3 := gi_lo hlo (i := i + j) (by omega) (by omega)
      have m1 := mul_le' (a := X.v i.toNat) (b := Y.v j.toNat) (c := 256) (d := 256) l1.1 (by omega) l2.1 (by omega)
      have m2 : 0 ≤ gi (dig P.p P.M X.1) i * gi (dig P.p P.M Y.1) j ∧ gi (dig P.p P.M X.1) i * gi (dig P.p P.M Y.1) j ≤ 256 * 256 := m1
      have e0 : 0 ≤ (gi l (i + j) + X.v i.toNat * Y.v j.toNat) % P.p := Int.emod_nonneg _ (by omega)
      have e1 : (gi l (i + j) + X.v i.toNat * Y.v j.toNat) % P.p < P.p := Int.emod_lt_of_pos _ (by omega)
      refine wc_draw mixed [0,1,2,3,4,5,6,7,8,9,10,11,12,13,14,15,16,17,18,19,20,21,22,23,24] (by kernel_rfl) ?_
      intro w7 hd _
      replace hE6 := hE6.trans hd
      replace hci := hci.ext hd
      replace hc := hc.ext hd
      refine Go.Sx.V rfl wu rfl rfl (mv rfl) ?_
      refine Go.Sx.V rfl wu rfl rfl (mv rfl) ?_
      refine Go.Sx.V rfl wu rfl rfl (mv rfl) ?_
      refine Go.Sx.V rfl wu rfl rfl (addI rfl rfl) ?_
      refine Go.Sx.V rfl wu rfl rfl (mv rfl) ?_
      refine Go.Sx.V rfl wu rfl rfl (mv rfl) ?_
      refine Go.Sx.V rfl wu rfl rfl (mv rfl) ?_
      refine Go.Sx.V rfl wu rfl rfl (addI rfl rfl) ?_
      refine Go.Sx.V rfl wu rfl rfl (iadI rfl rfl ty22) ?_
      refine Go.Sx.V rfl wu rfl rfl (ldI rfl na3) ?_
      refine Go.Sx.V rfl wu rfl rfl (mv rfl) ?_
      refine Go.Sx.V rfl wu rfl rfl (mv rfl) ?_
      refine Go.Sx.V rfl wu rfl rfl (iadI rfl rfl ty22) ?_
      refine Go.Sx.V rfl wu rfl rfl (ldI rfl na3) ?_
      refine Go.Sx.V rfl wu rfl rfl (mv rfl) ?_
      refine Go.Sx.V rfl wu rfl rfl (mv rfl) ?_
      refine Go.Sx.V rfl wu rfl rfl (iadI rfl rfl ty22) ?_
      refine Go.Sx.V rfl wu rfl rfl (ldI rfl na3) ?_
      refine Go.Sx.V rfl wu rfl rfl (mulI rfl rfl) ?_
      refine Go.Sx.V rfl wu rfl rfl (addI rfl rfl) ?_
      refine Go.Sx.V rfl wu rfl rfl (fad rfl fa24_0) ?_
      refine Go.Sx.V rfl wu rfl rfl (ldB rfl na3) ?_
      refine Go.Sx.V rfl wu rfl rfl (remI rfl rfl) ?_
      refine Go.Sx.V rfl wu rfl rfl (iadI rfl rfl ty22) ?_
      refine STI rfl wu rfl rfl sz3 (by intro h; kernel_rfl) ?_
      intro w8 hg8 hX8 hc8 hci8
      refine wr_nil (post_blockN (post_thenN ?_))
      rw [g1, g2] at hc8
      refine wc_region [0,1,2] rfl ?_
      refine Go.Sx.V rfl wu rfl rfl (mv rfl) ?_
      refine Go.Sx.V rfl wu rfl rfl (addI rfl rfl) ?_
      refine Go.Sx.V rfl wu rfl rfl (asg rfl) ?_
      refine wr_nil ?_
      refine post_loopN (j + 1, si l (i + j) ((gi l (i + j) + X.v i.toNat * Y.v j.toNat) % P.p)) ⟨rfl, rfl, rfl, rfl, rfl, rfl, trivial⟩ ⟨by show 0 ≤ j + 1; omega, by show j + 1 ≤ _; omega, hX8 _ (Nat.le_refl _) hE6, hc8, by rw [si_length]; exact hl, lo_si' hlo _ _ e0 e1, ?_⟩ (by show (P.M - (j + 1)).toNat < (P.M - j).toNat; omega)
      show pl P (l.set (i + j).toNat _) _ = _ + _ * pe P Y.v (j + 1).toNat
      have es := pe_mstep (P := P) l (k := (i + j).toNat) (i := i.toNat) (j := j.toNat) (n := 2 * P.M - 1) (by omega) (by omega) (by omega) (u := (gi l (i + j) + X.v i.toNat * Y.v j.toNat) % P.p) (a := X.v i.toNat) (b := Y.v j.toNat) zK_step
      rw [pl, es, show (j + 1).toNat = j.toNat + 1 by omega, pe, mul_add, ← add_assoc, ← hpe]
      rfl
    · intro hj
      simp at hj
      refine wc_exit (post_thenE (post_loopE (post_blockX (post_blockN (post_thenN ?_)))))
      refine wc_region [0,1,2] rfl ?_
      refine Go.Sx.V rfl wu rfl rfl (mv rfl) ?_
      refine Go.Sx.V rfl wu rfl rfl (addI rfl rfl) ?_
      refine Go.Sx.V rfl wu rfl rfl (asg rfl) ?_
      refine wr_nil ?_
      refine post_loopN (i + 1, l) ⟨rfl, rfl, rfl, rfl, rfl, trivial⟩ ⟨by show 0 ≤ i + 1; omega, by show i + 1 ≤ _; omega, hE6, hc, hl, hlo, ?_⟩ (by show (P.M - (i + 1)).toNat < (P.M - i).toNat; omega)
      show pl P l _ = pe P X.v (i + 1).toNat * Y
      rw [hpe, show j.toNat = P.M by omega, pe_self, show (i + 1).toNat = i.toNat + 1 by omega, pe, add_mul]
  · intro hi
    simp at hi
    refine wc_exit (post_thenE (post_loopE (post_blockX (post_thenN (wc_seq (wc_seq ?_))))))
    rw [show i.toNat = P.M by omega, pe_self] at hpe
    clear hai hbi hla hlb
    refine wc_region [0,1,2,3,4] rfl ?_
    refine Go.Sx.V rfl wu rfl rfl (fad rfl fa24_1) ?_
    refine Go.Sx.V rfl wu rfl rfl (ldB rfl na3) ?_
    refine Go.Sx.V rfl wu rfl rfl (mulI rfl rfl) ?_
    refine Go.Sx.V rfl wu rfl rfl (subI rfl rfl) ?_
    refine Go.Sx.V rfl wu rfl rfl (asg rfl) ?_
    refine wr_nil (post_thenN (wc_block ?_))
    refine wc_loop (fun q : Int × List Int => [(3, .pointer (some ⟨g, 0, none⟩)), (9, c), (12, .int .i64 q.1)])
      (fun q w' => P.M - 1 ≤ q.1 ∧ q.1 ≤ 2 * P.M - 2 ∧ Ext w3 w' ∧ OwnI w3.heap.size w' c 3 q.2 ∧ q.2.length = 2 * P.M - 1 ∧ Lo P.p q.2 ∧ pl P q.2 (q.1.toNat + 1) = X * Y) (fun q => (q.1 + 1 - P.M).toNat) (2 * P.M - 2, l)
      ⟨rfl, rfl, rfl, trivial⟩ ⟨by show (P.M : Int) - 1 ≤ 2 * P.M - 2; omega, Int.le_refl _, hE5, hc, hl, hlo, by show pl P l ((2 * (P.M : Int) - 2).toNat + 1) = _; rw [show (2 * (P.M : Int) - 2).toNat + 1 = 2 * P.M - 1 by omega]; exact hpe⟩ ?_
    clear hc hE5 hl hlo hpe
    rintro ⟨i, l⟩ w6 ⟨i0, i1, hE6, hc, hl, hlo, hpe⟩
    dsimp only at i0 i1 hE6 hc hl hlo hpe
    try dsimp only
    refine wc_seq (wc_seq ?_)
    refine wc_region [0,1,2,3] rfl ?_
    refine Go.Sx.V rfl wu rfl rfl (mv rfl) ?_
    refine Go.Sx.V rfl wu rfl rfl (fad rfl fa24_1) ?_
    refine Go.Sx.V rfl wu rfl rfl (ldB rfl na3) ?_
    refine Go.Sx.V rfl wu rfl rfl (geqI rfl rfl) ?_
    refine wr_nil (post_thenN ?_)
    refine wc_cond rfl ?_ ?_
    · intro hi
      simp at hi
      refine wc_skip (post_thenN (wc_seq (wc_block (wc_seq ?_))))
      have hlm := hF.len (by omega)
      refine wc_region [0] rfl ?_
      refine Go.Sx.V rfl wu rfl rfl (asg rfl) ?_
      refine wr_nil (post_thenN (wc_block ?_))
      refine wc_loop (fun q : Int × List Int => [(3, .pointer (some ⟨g, 0, none⟩)), (9, c), (12, .int .i64 i), (13, .int .i64 q.1)])
        (fun q w' => 0 ≤ q.1 ∧ q.1 ≤ P.M ∧ Ext w3 w' ∧ OwnI w3.heap.size w' c 3 q.2 ∧ q.2.length = 2 * P.M - 1 ∧ Lo P.p q.2 ∧ gi q.2 i = gi l i ∧ pl P q.2 (i.toNat + 1) = X * Y + zK P (-gi l i) * npow (xi P) (i.toNat - P.M) * pe P P.md q.1.toNat) (fun q => (P.M - q.1).toNat) (0, l)
        ⟨rfl, rfl, rfl, rfl, trivial⟩ ⟨Int.le_refl _, by show (0 : Int) ≤ P.M; omega, hE6, hc, hl, hlo, rfl, by show pl P l _ = _ + _ * 0; rw [mul_zero, add_zero]; exact hpe⟩ ?_
      clear hc hE6
      rintro ⟨j, l2⟩ w7 ⟨j0, j1, hE7, hc, hl2, hlo2, hgi, hpe2⟩
      dsimp only at j0 j1 hE7 hc hl2 hlo2 hgi hpe2
      have hci := OwnI.ints hc
      try dsimp only
      refine wc_seq (wc_seq ?_)
      refine wc_region [0,1,2,3] rfl ?_
      refine Go.Sx.V rfl wu rfl rfl (mv rfl) ?_
      refine Go.Sx.V rfl wu rfl rfl (fad rfl fa24_1) ?_
      refine Go.Sx.V rfl wu rfl rfl (ldB rfl na3) ?_
      refine Go.Sx.V rfl wu rfl rfl (lssI rfl rfl) ?_
      refine wr_nil (post_thenN ?_)
      refine wc_cond rfl ?_ ?_
      · intro hj
        simp at hj
        refine wc_skip (post_thenN (wc_seq (wc_block ?_)))
        have hlow := hF.low j.toNat
        have hmj : gi md j = P.md j.toNat := by rw [hF.mdf]; rfl
        have l1 := gi_lo hlo2 (i := i) (by omega) (by omega)
        have l2' := gi_lo hlo2 (i := i - P.M + j) (by omega) (by omega)
        have m1 := mul_le' (a := P.p - gi l2 i) (b := gi md j) (c := 256) (d := 256) (by omega) (by omega) (by omega) (by omega)
        have e0 : 0 ≤ (gi l2 (i - P.M + j) + (P.p - gi l2 i) * gi md j) % P.p := Int.emod_nonneg _ (by omega)
        have e1 : (gi l2 (i - P.M + j) + (P.p - gi l2 i) * gi md j) % P.p < P.p := Int.emod_lt_of_pos _ (by omega)
        have hM' := hmi.ext hE7
        refine wc_draw mixed [0,1,2,3,4,5,6,7,8,9,10,11,12,13,14,15,16,17,18,19,20,21,22,23,24,25,26,27,28,29,30,31,32,33,34] (by kernel_rfl) ?_
        intro w8 hd _
        replace hE7 := hE7.trans hd
        replace hci := hci.ext hd
        replace hc := hc.ext hd
        replace hM' := hM'.ext hd
        refine Go.Sx.V rfl wu rfl rfl (mv rfl) ?_
        refine Go.Sx.V rfl wu rfl rfl (mv rfl) ?_
        refine Go.Sx.V rfl wu rfl rfl (fad rfl fa24_1) ?_
        refine Go.Sx.V rfl wu rfl rfl (ldB rfl na3) ?_
        refine Go.Sx.V rfl wu rfl rfl (subI rfl rfl) ?_
        refine Go.Sx.V rfl wu rfl rfl (mv rfl) ?_
        refine Go.Sx.V rfl wu rfl rfl (addI rfl rfl) ?_
        refine Go.Sx.V rfl wu rfl rfl (mv rfl) ?_
        refine Go.Sx.V rfl wu rfl rfl (mv rfl) ?_
        refine Go.Sx.V rfl wu rfl rfl (fad rfl fa24_1) ?_
        refine Go.Sx.V rfl wu rfl rfl (ldB rfl na3) ?_
        refine Go.Sx.V rfl wu rfl rfl (subI rfl rfl) ?_
        refine Go.Sx.V rfl wu rfl rfl (mv rfl) ?_
        refine Go.Sx.V rfl wu rfl rfl (addI rfl rfl) ?_
        refine Go.Sx.V rfl wu rfl rfl (iadI rfl rfl ty22) ?_
        refine Go.Sx.V rfl wu rfl rfl (ldI rfl na3) ?_
        refine Go.Sx.V rfl wu rfl rfl (fad rfl fa24_0) ?_
        refine Go.Sx.V rfl wu rfl rfl (ldB rfl na3) ?_
        refine Go.Sx.V rfl wu rfl rfl (mv rfl) ?_
        refine Go.Sx.V rfl wu rfl rfl (mv rfl) ?_
        refine Go.Sx.V rfl wu rfl rfl (iadI rfl rfl ty22) ?_
        refine Go.Sx.V rfl wu rfl rfl (ldI rfl na3) ?_
        refine Go.Sx.V rfl wu rfl rfl (subI rfl rfl) ?_
        refine Go.Sx.V rfl wu rfl rfl (fad rfl fa24_2) ?_
        refine Go.Sx.V rfl wu rfl rfl (ldB rfl na22 (hB.ext hE7)) ?_
        refine Go.Sx.V rfl wu rfl rfl (mv rfl) ?_
        refine Go.Sx.V rfl wu rfl rfl (iadI rfl rfl ty22) ?_
        refine Go.Sx.V rfl wu rfl rfl (ldI rfl na3) ?_
        refine Go.Sx.V rfl wu rfl rfl (mulI rfl rfl) ?_
        refine Go.Sx.V rfl wu rfl rfl (addI rfl rfl) ?_
        refine Go.Sx.V rfl wu rfl rfl (fad rfl fa24_0) ?_
        refine Go.Sx.V rfl wu rfl rfl (ldB rfl na3) ?_
        refine Go.Sx.V rfl wu rfl rfl (remI rfl rfl) ?_
        refine Go.Sx.V rfl wu rfl rfl (iadI rfl rfl ty22) ?_
        refine STI rfl wu rfl rfl sz3 (by intro h; kernel_rfl) ?_
        intro w9 hg9 hX9 hc9 hci9
        refine wr_nil (post_blockN (post_thenN ?_))
        refine wc_region [0,1,2] rfl ?_
        refine Go.Sx.V rfl wu rfl rfl (mv rfl) ?_
        refine Go.Sx.V rfl wu rfl rfl (addI rfl rfl) ?_
        refine Go.Sx.V rfl wu rfl rfl (asg rfl) ?_
        refine wr_nil ?_
        refine post_loopN (j + 1, si l2 (i - P.M + j) ((gi l2 (i - P.M + j) + (P.p - gi l2 i) * gi md j) % P.p)) ⟨rfl, rfl, rfl, rfl, trivial⟩ ⟨by show 0 ≤ j + 1; omega, by show j + 1 ≤ _; omega, hX9 _ (Nat.le_refl _) hE7, hc9, by rw [si_length]; exact hl2, lo_si' hlo2 _ _ e0 e1, ?_, ?_⟩ (by show (P.M - (j + 1)).toNat < (P.M - j).toNat; omega)
        · show gi (l2.set (i - P.M + j).toNat _) i = _
          rw [gi_getD, List.getD_eq_getElem?_getD, List.getElem?_set_ne (by omega)]
          exact hgi
        · show pl P (l2.set (i - P.M + j).toNat _) _ = _ + _ * pe P P.md (j + 1).toNat
          have es := pe_mstep (P := P) l2 (k := (i - P.M + j).toNat) (i := i.toNat - P.M) (j := j.toNat) (n := i.toNat + 1) (by omega) (by omega) (by omega) (u := (gi l2 (i - P.M + j) + (P.p - gi l i) * P.md j.toNat) % P.p) (a := -gi l i) (b := P.md j.toNat) zK_step2
          rw [hmj, hgi, pl, es, show (j + 1).toNat = j.toNat + 1 by omega, pe.eq_2 P P.md, mul_add, ← add_assoc, ← hpe2]
          rfl
      · intro hj
        simp at hj
        refine wc_exit (post_thenE (post_loopE (post_blockX (post_blockN (post_thenN ?_)))))
        refine wc_region [0,1,2] rfl ?_
        refine Go.Sx.V rfl wu rfl rfl (mv rfl) ?_
        refine Go.Sx.V rfl wu rfl rfl (subI rfl rfl) ?_
        refine Go.Sx.V rfl wu rfl rfl (asg rfl) ?_
        refine wr_nil ?_
        refine post_loopN (i - 1, l2) ⟨rfl, rfl, rfl, trivial⟩ ⟨by show (P.M : Int) - 1 ≤ i - 1; omega, by show i - 1 ≤ _; omega, hE7, hc, hl2, hlo2, ?_⟩ (by show (i - 1 + 1 - P.M).toNat < (i + 1 - P.M).toNat; omega)
        show pl P l2 ((i - 1).toNat + 1) = _
        rw [show j.toNat = P.M by omega] at hpe2
        rw [show (i - 1).toNat + 1 = i.toNat by omega]
        exact pe_red l2 (m := i.toNat - P.M) (t := gi l i) (by omega) hgi hpe2
    · intro hi
      simp at hi
      refine wc_exit (post_thenE (post_loopE (post_blockX (post_thenN (wc_seq ?_)))))
      rw [show i.toNat + 1 = P.M by omega] at hpe
      have hci := OwnI.ints hc
      have hts : Ints w6 (slv c 0 P.M) (l.take P.M) := by
        have h := hci.slv (lo := 0) (hi := P.M) (by omega) (by omega) (by omega)
        rw [show (0 : Int).toNat = 0 from rfl, List.drop_zero, show ((P.M : Int) - 0).toNat = P.M by omega] at h
        exact h
      have htl : (l.take P.M).length = P.M := by rw [List.length_take]; omega
      refine wc_draw mixed [0,1,2,3,4,5,6] (by kernel_rfl) ?_
      intro w7 hd _
      replace hE6 := hE6.trans hd
      replace hci := hci.ext hd
      replace hts := hts.ext hd
      refine Go.Sx.V rfl wu rfl rfl (ldA rfl ag24) ?_
      refine Go.Sx.V rfl wu rfl rfl (mv rfl) ?_
      refine Go.Sx.V rfl wu rfl rfl (fad rfl fa24_1) ?_
      refine Go.Sx.V rfl wu rfl rfl (ldB rfl na3) ?_
      refine Go.Sx.V rfl wu rfl rfl (slH rfl rfl ty22 hci (by omega) (by simp; omega)) ?_
      refine C rfl wu rfl rfl Tryz.call69 (rVal P mo (slv c 0 P.M) _ _ hts ⟨hp, hp2⟩ (fun z hz => hlo z (List.mem_of_mem_take hz)) (by rw [htl]; omega) (by rw [htl]; omega)) ?_
      rintro _ w8 hE8 rfl
      refine Go.Sx.V rfl wu rfl rfl (asg rfl) ?_
      refine wr_nil (post_thenN (wc_ret ?_))
      refine post_ret1 rfl rfl ?_
      exact ⟨(hE.trans hE6).trans hE8, by rw [val_pe (by omega) hlo, ← hpe]; rfl⟩
end Go.Proofs.YtmnojknfjbimdaaGreat

