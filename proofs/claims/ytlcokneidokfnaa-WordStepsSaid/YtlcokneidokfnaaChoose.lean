/-
  What word.choose and the reference's Binomial compute: Pascal's triangle.
-/
import Derived.Test.YtlcokneidokfnaaTypes
namespace Go.Proofs.Ytlcokneidokfnaa
open Go Go.Sx Go.Pl Go.RowKit

/-- The row in the middle of its renewal: the entries behind j are those of row i, the others those of row i - 1. -/
def rowAt (m : Nat) (i j : Int) : List Int := tab (m + 1) (fun t => if j < t then (bin i.toNat t : Int) else bin (i - 1).toNat t)
theorem rowAt_length (m : Nat) (i j : Int) : (rowAt m i j).length = m + 1 := tab_length _ _
theorem rowAt_zero (m : Nat) (i : Int) (h : 1 ≤ i) : rowAt m i 0 = rowAt m (i + 1) (i + 1) := by
  unfold rowAt
  refine tab_congr (fun t _ => ?_)
  have e : (i + 1 - 1).toNat = i.toNat := by omega
  have e1 : (i + 1).toNat = i.toNat + 1 := by omega
  rw [e, e1]
  by_cases h0 : (0 : Int) < t
  · rw [if_pos h0]
    by_cases h1 : i + 1 < t
    · rw [if_pos h1, bin_big _ _ (by omega), bin_big _ _ (by omega)]
    · rw [if_neg h1]
  · have : t = 0 := by omega
    subst this
    rw [if_neg (by omega), if_neg (by omega), bin_zero, bin_zero]
theorem rowAt_first (m : Nat) : si (tab (m + 1) (fun _ => 0)) 0 1 = rowAt m 1 1 := by
  unfold rowAt
  rw [si_tab]
  refine tab_congr (fun t _ => ?_)
  match t with
  | 0 => rfl
  | 1 => rfl
  | t + 2 =>
    rw [bin_big _ _ (by omega), bin_big _ _ (by omega)]
    simp
theorem rowAt_lo (m : Nat) (i j k : Int) (hk0 : 0 ≤ k) (hk : k ≤ m) (hkj : k ≤ j) : gi (rowAt m i j) k = bin (i - 1).toNat k.toNat := by
  unfold rowAt
  rw [gi_tab (by omega) hk0, if_neg (by omega)]
theorem rowAt_step (m : Nat) (i j : Int) (hj : 1 ≤ j) (hi : j ≤ i) (hm : i ≤ m) :
    si (rowAt m i j) j (gi (rowAt m i j) j + gi (rowAt m i j) (j - 1)) = rowAt m i (j - 1) := by
  rw [rowAt_lo m i j j (by omega) (by omega) (by omega), rowAt_lo m i j (j - 1) (by omega) (by omega) (by omega)]
  unfold rowAt
  rw [si_tab]
  refine tab_congr (fun t _ => ?_)
  obtain ⟨a, ha⟩ : ∃ a, j.toNat = a + 1 := ⟨j.toNat - 1, by omega⟩
  obtain ⟨b, hb⟩ : ∃ b, i.toNat = b + 1 := ⟨i.toNat - 1, by omega⟩
  have e1 : (j - 1).toNat = a := by omega
  have e2 : (i - 1).toNat = b := by omega
  have e3 : bin (b + 1) (a + 1) = bin b a + bin b (a + 1) := rfl
  rw [ha, hb, e1, e2]
  by_cases ht : t = a + 1
  · subst ht
    rw [if_pos rfl, if_pos (by omega), e3]
    omega
  · rw [if_neg ht]
    by_cases h : j < t
    · rw [if_pos h, if_pos (by omega)]
    · rw [if_neg h, if_neg (by omega)]
theorem rowAt_le (m : Nat) (i j k : Int) (hm : m ≤ 64) (hi : i ≤ m) (hk0 : 0 ≤ k) (hk : k ≤ m) (hkj : k ≤ j) : 0 ≤ gi (rowAt m i j) k ∧ gi (rowAt m i j) k ≤ 3458764513820540928 := by
  unfold rowAt
  rw [gi_tab (by omega) hk0, if_neg (by omega)]
  have : bin (i - 1).toNat k.toNat ≤ 3458764513820540928 := by
    have h63 := bin_small2 (i - 1).toNat k.toNat (by omega)
    exact h63
  omega
theorem rowAt_last (m : Nat) (i k : Int) (hi : i = m + 1) (hk0 : 0 ≤ k) (hk : k ≤ m) : gi (rowAt m i i) k = binZ m k := by
  unfold rowAt
  rw [gi_tab (by omega) hk0, if_neg (by omega), binZ, if_neg (by omega)]
  have e : (i - 1).toNat = m := by omega
  rw [e]
  simp

set_option maxRecDepth 10000 in
theorem choose_any (m : Nat) (k : Int) (w : World) (h1 : m ≤ 64) :
    Calls Try.prog 54 #[.int .i64 (m : Int), .int .i64 k] w (RetX w fun v _ => v = .int .i64 (binZ m k)) := by
  refine calls2 Try.func54 rfl rfl ?_
  refine wc_seq ?_
  refine wc_region [0] rfl ?_
  refine Go.Sx.V rfl wu rfl rfl (asg rfl) ?_
  refine wr_nil (post_thenN (wc_seq (wc_seq ?_)))
  refine wc_region [0,1,2,3,4,5,6] rfl ?_
  refine Go.Sx.V rfl wu rfl rfl (mv rfl) ?_
  refine Go.Sx.V rfl wu rfl rfl (lssI rfl rfl) ?_
  refine Go.Sx.V rfl wu rfl rfl (mv rfl) ?_
  refine OR (π1 := [3,4,5,6]) (π2 := []) (tc := 10) (tp := 14) rfl rfl rfl (by
      intro _
      refine SK rfl rfl rfl rfl rfl ?_
      refine SK rfl rfl rfl rfl rfl ?_
      refine SK rfl rfl rfl rfl rfl ?_
      refine Go.Sx.V rfl wu rfl rfl (pk rfl rfl) ?_
      exact join rfl) (by
      intro hg
      simp at hg
      refine Go.Sx.V rfl (wg rfl rfl) rfl rfl (mv rfl) ?_
      refine Go.Sx.V rfl (wg rfl rfl) rfl rfl (mv rfl) ?_
      refine Go.Sx.V rfl (wg rfl rfl) rfl rfl (gtrI rfl rfl) ?_
      refine Go.Sx.V rfl wu rfl rfl (pk rfl rfl) ?_
      exact join rfl) ?_
  refine wr_nil (post_thenN ?_)
  refine wc_cond rfl ?_ ?_
  · intro h
    refine wc_seq ?_
    refine wc_region [0] rfl ?_
    refine Go.Sx.V rfl wu rfl rfl (asg rfl) ?_
    refine wr_nil (post_thenN (wc_ret (post_thenR ?_)))
    refine post_ret1 rfl rfl ?_
    simp at h
    refine ⟨Ext.refl _, ?_⟩
    rcases h with h | h
    · simp [binZ, h]
    · rw [binZ, if_neg (by omega), bin_big _ _ (by omega)]; rfl
  · intro h
    simp at h
    refine wc_skip (post_thenN (wc_seq ?_))
    refine wc_region [0,1,2,3] rfl ?_
    refine Go.Sx.V rfl wu rfl rfl (mv rfl) ?_
    refine Go.Sx.V rfl wu rfl rfl (addI rfl rfl) ?_
    refine MKI (n := m + 1) rfl wu rfl rfl ty26 ?_
    intro row w1 hE ho hi hb
    refine Go.Sx.V rfl wu rfl rfl (asg rfl) ?_
    refine wr_nil (post_thenN (wc_seq ?_))
    have hl := tab_length (m + 1) (fun _ => (0 : Int))
    refine wc_region [0,1,2] rfl ?_
    refine Go.Sx.V rfl wu rfl rfl (mv rfl) ?_
    refine Go.Sx.V rfl wu rfl rfl (iadI rfl rfl ty26) ?_
    refine STI rfl wu rfl rfl sz3 (by intro h; cases h) ?_
    intro w2 hg hX ho hi
    refine wr_nil (post_thenN (wc_seq (wc_seq ?_)))
    replace hE := hX _ (Nat.le_refl _) hE
    rw [rowAt_first] at ho hi
    refine wc_region [0] rfl ?_
    refine Go.Sx.V rfl wu rfl rfl (asg rfl) ?_
    refine wr_nil (post_thenN (wc_block ?_))
    refine wc_loop (fun i : Int => [(0, .int .i64 m), (1, .int .i64 k), (5, row), (6, .int .i64 i)])
      (fun i w' => 1 ≤ i ∧ i ≤ m + 1 ∧ Ext w w' ∧ OwnI w.heap.size w' row 3 (rowAt m i i)) (fun i => (m + 1 - i).toNat) 1 ⟨rfl, rfl, rfl, rfl, trivial⟩ ⟨by omega, by omega, hE, ho⟩ ?_
    rintro i w3 ⟨hi0, hi1, hE, ho⟩
    have hi := ho.ints
    have hl := rowAt_length m i i
    try dsimp only
    refine wc_seq (wc_seq ?_)
    refine wc_region [0,1,2] rfl ?_
    refine Go.Sx.V rfl wu rfl rfl (mv rfl) ?_
    refine Go.Sx.V rfl wu rfl rfl (mv rfl) ?_
    refine Go.Sx.V rfl wu rfl rfl (leqI rfl rfl) ?_
    refine wr_nil (post_thenN ?_)
    refine wc_cond rfl ?_ ?_
    · intro hc
      simp at hc
      refine wc_skip (post_thenN (wc_seq (wc_block (wc_seq ?_))))
      refine wc_region [0,1] rfl ?_
      refine Go.Sx.V rfl wu rfl rfl (mv rfl) ?_
      refine Go.Sx.V rfl wu rfl rfl (asg rfl) ?_
      refine wr_nil (post_thenN (wc_block ?_))
      refine wc_loop (fun j : Int => [(0, .int .i64 m), (1, .int .i64 k), (5, row), (6, .int .i64 i), (7, .int .i64 j)])
        (fun j w' => 0 ≤ j ∧ j ≤ i ∧ Ext w w' ∧ OwnI w.heap.size w' row 3 (rowAt m i j)) (fun j => j.toNat) i ⟨rfl, rfl, rfl, rfl, rfl, trivial⟩ ⟨by omega, by omega, hE, ho⟩ ?_
      rintro j w3 ⟨hj0, hj1, hE, ho⟩
      have hi := ho.ints
      have hl := rowAt_length m i j
      try dsimp only
      refine wc_seq (wc_seq ?_)
      refine wc_region [0,1] rfl ?_
      refine Go.Sx.V rfl wu rfl rfl (mv rfl) ?_
      refine Go.Sx.V rfl wu rfl rfl (gtrI rfl rfl) ?_
      refine wr_nil (post_thenN ?_)
      refine wc_cond rfl ?_ ?_
      · intro hd
        simp at hd
        refine wc_skip (post_thenN (wc_seq (wc_block ?_)))
        have b1 := rowAt_le m i j j h1 hc hj0 (by omega) (by omega)
        have b2 := rowAt_le m i j (j - 1) h1 hc (by omega) (by omega) (by omega)
        refine wc_draw mixed [0,1,2,3,4,5,6,7,8,9,10,11] (by kernel_rfl) ?_
        intro w4 hw _
        replace ho := ho.ext hw
        replace hi := hi.ext hw
        replace hE := hE.trans hw
        refine Go.Sx.V rfl wu rfl rfl (mv rfl) ?_
        refine Go.Sx.V rfl wu rfl rfl (mv rfl) ?_
        refine Go.Sx.V rfl wu rfl rfl (iadI rfl rfl ty26) ?_
        refine Go.Sx.V rfl wu rfl rfl (ldI rfl na3) ?_
        refine Go.Sx.V rfl wu rfl rfl (mv rfl) ?_
        refine Go.Sx.V rfl wu rfl rfl (mv rfl) ?_
        refine Go.Sx.V rfl wu rfl rfl (subI rfl rfl) ?_
        refine Go.Sx.V rfl wu rfl rfl (iadI rfl rfl ty26) ?_
        refine Go.Sx.V rfl wu rfl rfl (ldI rfl na3) ?_
        refine Go.Sx.V rfl wu rfl rfl (addI rfl rfl) ?_
        refine Go.Sx.V rfl wu rfl rfl (iadI rfl rfl ty26) ?_
        refine STI rfl wu rfl rfl sz3 (by intro h; kernel_rfl) ?_
        intro w5 hg hX ho hi
        refine wr_nil (post_blockN (post_thenN ?_))
        rw [rowAt_step m i j (by omega) hj1 (by omega)] at ho hi
        replace hE := hX _ (Nat.le_refl _) hE
        refine wc_region [0,1,2] rfl ?_
        refine Go.Sx.V rfl wu rfl rfl (mv rfl) ?_
        refine Go.Sx.V rfl wu rfl rfl (subI rfl rfl) ?_
        refine Go.Sx.V rfl wu rfl rfl (asg rfl) ?_
        refine wr_nil ?_
        exact post_loopN (j - 1) ⟨rfl, rfl, rfl, rfl, rfl, trivial⟩ ⟨by omega, by omega, hE, ho⟩ (by omega)
      · intro hd
        simp at hd
        refine wc_exit (post_thenE (post_loopE (post_blockX (post_blockN (post_thenN ?_)))))
        have : j = 0 := by omega
        subst this
        rw [rowAt_zero m i hi0] at ho
        refine wc_region [0,1,2] rfl ?_
        refine Go.Sx.V rfl wu rfl rfl (mv rfl) ?_
        refine Go.Sx.V rfl wu rfl rfl (addI rfl rfl) ?_
        refine Go.Sx.V rfl wu rfl rfl (asg rfl) ?_
        refine wr_nil ?_
        exact post_loopN (i + 1) ⟨rfl, rfl, rfl, rfl, trivial⟩ ⟨by omega, by omega, hE, ho⟩ (by omega)
    · intro hc
      simp at hc
      refine wc_exit (post_thenE (post_loopE (post_blockX (post_thenN (wc_seq ?_)))))
      refine wc_region [0,1,2,3,4] rfl ?_
      refine Go.Sx.V rfl wu rfl rfl (mv rfl) ?_
      refine Go.Sx.V rfl wu rfl rfl (mv rfl) ?_
      refine Go.Sx.V rfl wu rfl rfl (iadI rfl rfl ty26) ?_
      refine Go.Sx.V rfl wu rfl rfl (ldI rfl na3) ?_
      refine Go.Sx.V rfl wu rfl rfl (asg rfl) ?_
      refine wr_nil (post_thenN (wc_ret ?_))
      refine post_ret1 rfl rfl ?_
      exact ⟨hE, by rw [rowAt_last m i k (by omega) (by omega) (by omega)]⟩
end Go.Proofs.Ytlcokneidokfnaa
