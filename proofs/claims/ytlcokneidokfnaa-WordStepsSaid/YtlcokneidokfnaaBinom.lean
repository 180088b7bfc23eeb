/-
  Statement 1 of chapter 11: Binomial counts the subsets and obeys Pascal's rule. The two Binomials by contract, and the law's own walk.
-/
import Derived.Test.YtlcokneidokfnaaChoose
namespace Go.Proofs.Ytlcokneidokfnaa
open Go Go.Sx Go.Pl Go.RowKit

/-- What Binomial answers. -/
def binAns (n k : Int) : Int × Int := if n < 0 ∨ 64 < n then (0, 6) else (0 + binZ n k, 0)
def two (p : Int × Int) : Value := .tuple #[.int .i64 p.1, .int .i64 p.2]
theorem binAns_bad {n : Int} (k : Int) (h : n < 0 ∨ 64 < n) : binAns n k = (0, 6) := if_pos h
theorem binAns_ok {n : Int} (k : Int) (h : 0 ≤ n ∧ n ≤ 64) : binAns n k = (binZ n k, 0) := by rw [binAns, if_neg (by omega)]; simp
theorem binZ_big {n k : Int} (h : n < k) (hn : 0 ≤ n) : binZ n k = 0 := by rw [binZ, if_neg (by omega), bin_big _ _ (by omega)]; rfl
theorem binZ_neg {n k : Int} (h : k < 0) : binZ n k = 0 := if_pos h

theorem wBinomial (n k : Int) (w : World) :
    Calls Try.prog 17 #[.int .i64 n, .int .i64 k] w (RetX w fun v _ => v = two (binAns n k)) := by
  refine calls2 Try.func17 rfl rfl ?_
  refine wc_seq ?_
  refine wc_region [0,1] rfl ?_
  refine Go.Sx.V rfl wu rfl rfl (asg rfl) ?_
  refine Go.Sx.V rfl wu rfl rfl (asg rfl) ?_
  refine wr_nil (post_thenN (wc_seq (wc_seq ?_)))
  refine wc_region [0,1,2,3,4,5] rfl ?_
  refine Go.Sx.V rfl wu rfl rfl (mv rfl) ?_
  refine Go.Sx.V rfl wu rfl rfl (lssI rfl rfl) ?_
  refine Go.Sx.V rfl wu rfl rfl (mv rfl) ?_
  refine OR (π1 := [3,4,5]) (π2 := []) (tc := 8) (tp := 11) rfl rfl rfl (by
      intro _
      refine SK rfl rfl rfl rfl rfl ?_
      refine SK rfl rfl rfl rfl rfl ?_
      refine Go.Sx.V rfl wu rfl rfl (pk rfl rfl) ?_
      exact join rfl) (by
      intro hg
      simp at hg
      refine Go.Sx.V rfl (wg rfl rfl) rfl rfl (mv rfl) ?_
      refine Go.Sx.V rfl (wg rfl rfl) rfl rfl (gtrI rfl rfl) ?_
      refine Go.Sx.V rfl wu rfl rfl (pk rfl rfl) ?_
      exact join rfl) ?_
  refine wr_nil (post_thenN ?_)
  refine wc_cond rfl ?_ ?_
  · intro h
    simp at h
    refine wc_seq ?_
    refine wc_region [0,1] rfl ?_
    refine Go.Sx.V rfl wu rfl rfl (asg rfl) ?_
    refine Go.Sx.V rfl wu rfl rfl (asg rfl) ?_
    refine wr_nil (post_thenN (wc_ret (post_thenR ?_)))
    refine post_ret2 rfl rfl rfl ?_
    exact ⟨Ext.refl _, by rw [binAns_bad k h]; rfl⟩
  · intro h
    simp at h
    refine wc_skip (post_thenN (wc_seq ?_))
    obtain ⟨m, rfl⟩ : ∃ m : Nat, n = m := ⟨n.toNat, by omega⟩
    refine wc_region [0,1,2,3,4] rfl ?_
    refine Go.Sx.V rfl wu rfl rfl (mv rfl) ?_
    refine Go.Sx.V rfl wu rfl rfl (mv rfl) ?_
    refine C rfl wu rfl rfl Try.call54 (choose_any m k _ (by omega)) ?_
    rintro _ w1 hE rfl
    refine Go.Sx.V rfl wu rfl rfl (asg rfl) ?_
    refine Go.Sx.V rfl wu rfl rfl (asg rfl) ?_
    refine wr_nil (post_thenN (wc_ret ?_))
    refine post_ret2 rfl rfl rfl ?_
    exact ⟨hE, by rw [binAns_ok k (by omega)]; rfl⟩

set_option maxRecDepth 10000 in
theorem rBinomial (n k : Int) (w : World) :
    Calls Try.prog 18 #[.int .i64 n, .int .i64 k] w (RetX w fun v _ => v = two (binAns n k)) := by
  refine calls2 Try.func18 rfl rfl ?_
  refine wc_seq ?_
  refine wc_region [0,1] rfl ?_
  refine Go.Sx.V rfl wu rfl rfl (asg rfl) ?_
  refine Go.Sx.V rfl wu rfl rfl (asg rfl) ?_
  refine wr_nil (post_thenN (wc_seq (wc_seq ?_)))
  refine wc_region [0,1,2,3,4,5] rfl ?_
  refine Go.Sx.V rfl wu rfl rfl (mv rfl) ?_
  refine Go.Sx.V rfl wu rfl rfl (lssI rfl rfl) ?_
  refine Go.Sx.V rfl wu rfl rfl (mv rfl) ?_
  refine OR (π1 := [3,4,5]) (π2 := []) (tc := 11) (tp := 14) rfl rfl rfl (by
      intro _
      refine SK rfl rfl rfl rfl rfl ?_
      refine SK rfl rfl rfl rfl rfl ?_
      refine Go.Sx.V rfl wu rfl rfl (pk rfl rfl) ?_
      exact join rfl) (by
      intro hg
      simp at hg
      refine Go.Sx.V rfl (wg rfl rfl) rfl rfl (mv rfl) ?_
      refine Go.Sx.V rfl (wg rfl rfl) rfl rfl (gtrI rfl rfl) ?_
      refine Go.Sx.V rfl wu rfl rfl (pk rfl rfl) ?_
      exact join rfl) ?_
  refine wr_nil (post_thenN ?_)
  refine wc_cond rfl ?_ ?_
  · intro h
    simp at h
    refine wc_seq ?_
    refine wc_region [0,1] rfl ?_
    refine Go.Sx.V rfl wu rfl rfl (asg rfl) ?_
    refine Go.Sx.V rfl wu rfl rfl (asg rfl) ?_
    refine wr_nil (post_thenN (wc_ret (post_thenR ?_)))
    refine post_ret2 rfl rfl rfl ?_
    exact ⟨Ext.refl _, by rw [binAns_bad k h]; rfl⟩
  · intro h
    simp at h
    refine wc_skip (post_thenN (wc_seq (wc_seq ?_)))
    obtain ⟨m, rfl⟩ : ∃ m : Nat, n = m := ⟨n.toNat, by omega⟩
    have h1 : m ≤ 64 := by omega
    rw [binAns_ok k (by omega)]
    clear h
    refine wc_region [0,1,2,3,4,5,6] rfl ?_
    refine Go.Sx.V rfl wu rfl rfl (mv rfl) ?_
    refine Go.Sx.V rfl wu rfl rfl (lssI rfl rfl) ?_
    refine Go.Sx.V rfl wu rfl rfl (mv rfl) ?_
    refine OR (π1 := [3,4,5,6]) (π2 := []) (tc := 17) (tp := 21) rfl rfl rfl (by
        intro _
        refine SK rfl rfl rfl rfl rfl ?_
        refine SK rfl rfl rfl rfl rfl ?_
        refine SK rfl rfl rfl rfl rfl ?_
        refine Go.Sx.V rfl wu rfl rfl (pk rfl rfl) ?_
        exact join rfl) (by
        intro hg
        simp at hg
        refine Go.Sx.V rfl (wg rfl rfl) rfl rfl (mv rfl) ?_
        refine Go.Sx.V rfl (wg rfl rfl) rfl rfl (mv rfl) ?_
        refine Go.Sx.V rfl (wg rfl rfl) rfl rfl (gtrI rfl rfl) ?_
        refine Go.Sx.V rfl wu rfl rfl (pk rfl rfl) ?_
        exact join rfl) ?_
    refine wr_nil (post_thenN ?_)
    refine wc_cond rfl ?_ ?_
    · intro h
      refine wc_seq ?_
      refine wc_region [0,1] rfl ?_
      refine Go.Sx.V rfl wu rfl rfl (asg rfl) ?_
      refine Go.Sx.V rfl wu rfl rfl (asg rfl) ?_
      refine wr_nil (post_thenN (wc_ret (post_thenR ?_)))
      refine post_ret2 rfl rfl rfl ?_
      simp at h
      refine ⟨Ext.refl _, ?_⟩
      rcases h with h | h
      · rw [binZ_neg h]; rfl
      · rw [binZ_big h (by omega)]; rfl
    · intro h
      simp at h
      refine wc_skip (post_thenN (wc_seq ?_))
      refine wc_region [0,1,2,3] rfl ?_
      refine Go.Sx.V rfl wu rfl rfl (mv rfl) ?_
      refine Go.Sx.V rfl wu rfl rfl (addI rfl rfl) ?_
      refine MKI (n := m + 1) rfl wu rfl rfl ty26 ?_
      intro row w1 hE ho hi hb
      refine Go.Sx.V rfl wu rfl rfl (asg rfl) ?_
      refine wr_nil (post_thenN (wc_seq ?_))
      have hl := tab_length (m + 1) (fun _ => (0 : Int))
      refine wc_region [0,1,2] rfl ?_
      refine Go.Sx.V rfl wu rfl rfl (mv rfl) ?_
      refine Go.Sx.V rfl wu rfl rfl (iadI rfl rfl ty26) ?_
      refine STI rfl wu rfl rfl sz3 (by intro h; cases h) ?_
      intro w2 hg hX ho hi
      refine wr_nil (post_thenN (wc_seq (wc_seq ?_)))
      replace hE := hX _ (Nat.le_refl _) hE
      rw [rowAt_first] at ho hi
      refine wc_region [0] rfl ?_
      refine Go.Sx.V rfl wu rfl rfl (asg rfl) ?_
      refine wr_nil (post_thenN (wc_block ?_))
      refine wc_loop (fun i : Int => [(1, .int .i64 k), (0, .int .i64 m), (6, row), (5, .int .i64 0), (7, .int .i64 i)])
        (fun i w' => 1 ≤ i ∧ i ≤ m + 1 ∧ Ext w w' ∧ OwnI w.heap.size w' row 3 (rowAt m i i)) (fun i => (m + 1 - i).toNat) 1 ⟨rfl, rfl, rfl, rfl, rfl, trivial⟩ ⟨by omega, by omega, hE, ho⟩ ?_
      rintro i w3 ⟨hi0, hi1, hE, ho⟩
      have hi := ho.ints
      have hl := rowAt_length m i i
      try dsimp only
      refine wc_seq (wc_seq ?_)
      refine wc_region [0,1,2] rfl ?_
      refine Go.Sx.V rfl wu rfl rfl (mv rfl) ?_
      refine Go.Sx.V rfl wu rfl rfl (mv rfl) ?_
      refine Go.Sx.V rfl wu rfl rfl (leqI rfl rfl) ?_
      refine wr_nil (post_thenN ?_)
      refine wc_cond rfl ?_ ?_
      · intro hc
        simp at hc
        refine wc_skip (post_thenN (wc_seq (wc_block (wc_seq ?_))))
        refine wc_region [0,1] rfl ?_
        refine Go.Sx.V rfl wu rfl rfl (mv rfl) ?_
        refine Go.Sx.V rfl wu rfl rfl (asg rfl) ?_
        refine wr_nil (post_thenN (wc_block ?_))
        refine wc_loop (fun j : Int => [(1, .int .i64 k), (0, .int .i64 m), (6, row), (5, .int .i64 0), (7, .int .i64 i), (8, .int .i64 j)])
          (fun j w' => 0 ≤ j ∧ j ≤ i ∧ Ext w w' ∧ OwnI w.heap.size w' row 3 (rowAt m i j)) (fun j => j.toNat) i ⟨rfl, rfl, rfl, rfl, rfl, rfl, trivial⟩ ⟨by omega, by omega, hE, ho⟩ ?_
        rintro j w3 ⟨hj0, hj1, hE, ho⟩
        have hi := ho.ints
        have hl := rowAt_length m i j
        try dsimp only
        refine wc_seq (wc_seq ?_)
        refine wc_region [0,1] rfl ?_
        refine Go.Sx.V rfl wu rfl rfl (mv rfl) ?_
        refine Go.Sx.V rfl wu rfl rfl (geqI rfl rfl) ?_
        refine wr_nil (post_thenN ?_)
        refine wc_cond rfl ?_ ?_
        · intro hd
          simp at hd
          refine wc_skip (post_thenN (wc_seq (wc_block ?_)))
          have b1 := rowAt_le m i j j h1 hc hj0 (by omega) (by omega)
          have b2 := rowAt_le m i j (j - 1) h1 hc (by omega) (by omega) (by omega)
          refine wc_draw mixed [0,1,2,3,4,5,6,7,8,9,10,11] (by kernel_rfl) ?_
          intro w4 hw _
          replace ho := ho.ext hw
          replace hi := hi.ext hw
          replace hE := hE.trans hw
          refine Go.Sx.V rfl wu rfl rfl (mv rfl) ?_
          refine Go.Sx.V rfl wu rfl rfl (mv rfl) ?_
          refine Go.Sx.V rfl wu rfl rfl (iadI rfl rfl ty26) ?_
          refine Go.Sx.V rfl wu rfl rfl (ldI rfl na3) ?_
          refine Go.Sx.V rfl wu rfl rfl (mv rfl) ?_
          refine Go.Sx.V rfl wu rfl rfl (mv rfl) ?_
          refine Go.Sx.V rfl wu rfl rfl (subI rfl rfl) ?_
          refine Go.Sx.V rfl wu rfl rfl (iadI rfl rfl ty26) ?_
          refine Go.Sx.V rfl wu rfl rfl (ldI rfl na3) ?_
          refine Go.Sx.V rfl wu rfl rfl (addI rfl rfl) ?_
          refine Go.Sx.V rfl wu rfl rfl (iadI rfl rfl ty26) ?_
          refine STI rfl wu rfl rfl sz3 (by intro h; kernel_rfl) ?_
          intro w5 hg hX ho hi
          refine wr_nil (post_blockN (post_thenN ?_))
          rw [rowAt_step m i j (by omega) hj1 (by omega)] at ho hi
          replace hE := hX _ (Nat.le_refl _) hE
          refine wc_region [0,1,2] rfl ?_
          refine Go.Sx.V rfl wu rfl rfl (mv rfl) ?_
          refine Go.Sx.V rfl wu rfl rfl (subI rfl rfl) ?_
          refine Go.Sx.V rfl wu rfl rfl (asg rfl) ?_
          refine wr_nil ?_
          exact post_loopN (j - 1) ⟨rfl, rfl, rfl, rfl, rfl, rfl, trivial⟩ ⟨by omega, by omega, hE, ho⟩ (by omega)
        · intro hd
          simp at hd
          refine wc_exit (post_thenE (post_loopE (post_blockX (post_blockN (post_thenN ?_)))))
          have : j = 0 := by omega
          subst this
          rw [rowAt_zero m i hi0] at ho
          refine wc_region [0,1,2] rfl ?_
          refine Go.Sx.V rfl wu rfl rfl (mv rfl) ?_
          refine Go.Sx.V rfl wu rfl rfl (addI rfl rfl) ?_
          refine Go.Sx.V rfl wu rfl rfl (asg rfl) ?_
          refine wr_nil ?_
          exact post_loopN (i + 1) ⟨rfl, rfl, rfl, rfl, rfl, trivial⟩ ⟨by omega, by omega, hE, ho⟩ (by omega)
      · intro hc
        simp at hc
        refine wc_exit (post_thenE (post_loopE (post_blockX (post_thenN (wc_seq ?_)))))
        refine wc_region [0,1,2,3,4,5] rfl ?_
        refine Go.Sx.V rfl wu rfl rfl (mv rfl) ?_
        refine Go.Sx.V rfl wu rfl rfl (mv rfl) ?_
        refine Go.Sx.V rfl wu rfl rfl (iadI rfl rfl ty26) ?_
        refine Go.Sx.V rfl wu rfl rfl (ldI rfl na3) ?_
        refine Go.Sx.V rfl wu rfl rfl (asg rfl) ?_
        refine Go.Sx.V rfl wu rfl rfl (asg rfl) ?_
        refine wr_nil (post_thenN (wc_ret ?_))
        refine post_ret2 rfl rfl rfl ?_
        exact ⟨hE, by rw [rowAt_last m i k (by omega) (by omega) (by omega)]; rfl⟩
end Go.Proofs.Ytlcokneidokfnaa
