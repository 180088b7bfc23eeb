/-
  The reference's powers and orders of a field's elements, by contract.
-/
import Derived.Test.YtjpcgjllmpdmhaaZRef6
import Derived.Test.YtjpcgjllmpdmhaaZKPow
namespace Go.Proofs.Ytjpcgjllmpdmhaa
open Go Go.Sx Go.Pl Go.RowKit Go.Fd Go.Alg

set_option maxRecDepth 10000 in
theorem rPow (P : FP) (mo : Value) (md : List Int) (x n : Int) (w : World) (hF : FV w P mo md) :
    Calls Try.prog 47 #[fv P mo, .int .i64 x, .int .i64 n] w (RetX w fun v _ => v = .tuple #[.int .i64 (powA P (inK P x) n).1.1, .int .i64 (powA P (inK P x) n).2]) := by
  have hord := hF.ord
  have hq := hF.q
  have hn1 := n1_eq (P := P)
  have hq2 := P.q_two
  refine calls3 Try.func47 rfl rfl ?_
  refine wc_seq ?_
  refine wc_region [0,1,2] rfl ?_
  refine BXA rfl wu rfl rfl ?_
  intro fb w1 hE hB hg
  refine Go.Sx.V rfl wu rfl rfl (asg rfl) ?_
  refine Go.Sx.V rfl wu rfl rfl (asg rfl) ?_
  refine wr_nil (post_thenN (wc_seq ?_))
  refine wc_region [0,1,2,3] rfl ?_
  refine Go.Sx.V rfl wu rfl rfl (ldA rfl ag24) ?_
  refine Go.Sx.V rfl wu rfl rfl (mv rfl) ?_
  refine C rfl wu rfl rfl Try.call67 (rIn P mo md x _ (hF.ext hE)) ?_
  rintro _ w2 hE2 rfl
  replace hB := hB.ext hE2
  replace hE := hE.trans hE2
  refine Go.Sx.V rfl wu rfl rfl (asg rfl) ?_
  refine wr_nil (post_thenN (wc_seq (wc_seq ?_)))
  generalize inK P x = X
  have hX := X.2
  refine wc_region [0,1] rfl ?_
  refine Go.Sx.V rfl wu rfl rfl (mv rfl) ?_
  refine Go.Sx.V rfl wu rfl rfl (eqlI rfl rfl) ?_
  refine wr_nil (post_thenN ?_)
  refine wc_cond rfl ?_ ?_
  · intro h
    simp at h
    refine wc_seq ?_
    refine wc_region [0,1] rfl ?_
    refine Go.Sx.V rfl wu rfl rfl (asg rfl) ?_
    refine Go.Sx.V rfl wu rfl rfl (asg rfl) ?_
    refine wr_nil (post_thenN (wc_ret (post_thenR ?_)))
    refine post_ret2 rfl rfl rfl ?_
    exact ⟨hE, by rw [powA, if_pos h]; rfl⟩
  · intro h
    simp at h
    refine wc_skip (post_thenN (wc_seq (wc_seq ?_)))
    refine wc_region [0,1,2,3,4,5] rfl ?_
    refine Go.Sx.V rfl wu rfl rfl (mv rfl) ?_
    refine Go.Sx.V rfl wu rfl rfl (eqlI rfl rfl) ?_
    refine Go.Sx.V rfl wu rfl rfl (mv rfl) ?_
    refine AND (π1 := [3,4,5]) (π2 := []) (tc := 18) (tp := 21) rfl rfl rfl (by
        intro hg
        simp at hg
        refine Go.Sx.V rfl (wg rfl rfl) rfl rfl (mv rfl) ?_
        refine Go.Sx.V rfl (wg rfl rfl) rfl rfl (lssI rfl rfl) ?_
        refine Go.Sx.V rfl wu rfl rfl (pk rfl rfl) ?_
        exact join rfl) (by
        intro _
        refine SK rfl rfl rfl rfl rfl ?_
        refine SK rfl rfl rfl rfl rfl ?_
        refine Go.Sx.V rfl wu rfl rfl (pk rfl rfl) ?_
        exact join rfl) ?_
    refine wr_nil (post_thenN ?_)
    refine wc_cond rfl ?_ ?_
    · intro h1
      simp at h1
      refine wc_seq ?_
      refine wc_region [0,1] rfl ?_
      refine Go.Sx.V rfl wu rfl rfl (asg rfl) ?_
      refine Go.Sx.V rfl wu rfl rfl (asg rfl) ?_
      refine wr_nil (post_thenN (wc_ret (post_thenR ?_)))
      refine post_ret2 rfl rfl rfl ?_
      exact ⟨hE, by rw [powA, if_neg h, if_pos (show X = 0 from Subtype.ext h1.1), if_pos h1.2]; rfl⟩
    · intro h1
      simp at h1
      refine wc_skip (post_thenN (wc_seq (wc_seq ?_)))
      refine wc_region [0,1] rfl ?_
      refine Go.Sx.V rfl wu rfl rfl (mv rfl) ?_
      refine Go.Sx.V rfl wu rfl rfl (eqlI rfl rfl) ?_
      refine wr_nil (post_thenN ?_)
      refine wc_cond rfl ?_ ?_
      · intro h2
        simp at h2
        refine wc_seq ?_
        refine wc_region [0,1] rfl ?_
        refine Go.Sx.V rfl wu rfl rfl (asg rfl) ?_
        refine Go.Sx.V rfl wu rfl rfl (asg rfl) ?_
        refine wr_nil (post_thenN (wc_ret (post_thenR ?_)))
        refine post_ret2 rfl rfl rfl ?_
        exact ⟨hE, by rw [powA, if_neg h, if_pos (show X = 0 from Subtype.ext h2), if_neg (by have := h1 h2; omega)]; rfl⟩
      · intro h2
        simp at h2
        have hX0 : X ≠ 0 := fun e => h2 (by rw [e]; rfl)
        refine wc_skip (post_thenN (wc_seq ?_))
        have t0 := tmod_lo (n := n) (k := P.q - 1) (by omega)
        have t1 := tmod_mod (n := n) (k := P.q - 1) (by omega)
        have n0 : 0 ≤ n % (P.q - 1) := Int.emod_nonneg _ (by omega)
        have n2 : n % (P.q - 1) < P.q - 1 := Int.emod_lt_of_pos _ (by omega)
        refine wc_region [0,1,2,3] rfl ?_
        refine Go.Sx.V rfl wu rfl rfl (ldA rfl ag24) ?_
        refine C rfl wu rfl rfl Try.call78 (rOrder P.p P.M mo _) ?_
        rintro _ w3 hE3 rfl
        replace hB := hB.ext hE3
        replace hE := hE.trans hE3
        rw [hord]
        refine Go.Sx.V rfl wu rfl rfl (subI rfl rfl) ?_
        refine Go.Sx.V rfl wu rfl rfl (asg rfl) ?_
        refine wr_nil (post_thenN (wc_seq ?_))
        refine wc_region [0,1,2,3,4,5,6,7] rfl ?_
        refine Go.Sx.V rfl wu rfl rfl (mv rfl) ?_
        refine Go.Sx.V rfl wu rfl rfl (mv rfl) ?_
        refine Go.Sx.V rfl wu rfl rfl (remT rfl rfl) ?_
        refine Go.Sx.V rfl wu rfl rfl (mv rfl) ?_
        refine Go.Sx.V rfl wu rfl rfl (addI rfl rfl) ?_
        refine Go.Sx.V rfl wu rfl rfl (mv rfl) ?_
        refine Go.Sx.V rfl wu rfl rfl (remI rfl rfl) ?_
        refine Go.Sx.V rfl wu rfl rfl (asg rfl) ?_
        refine wr_nil (post_thenN (wc_seq ?_))
        rw [t1]
        refine wc_region [0] rfl ?_
        refine Go.Sx.V rfl wu rfl rfl (asg rfl) ?_
        refine wr_nil (post_thenN (wc_seq (wc_seq ?_)))
        refine wc_region [0] rfl ?_
        refine Go.Sx.V rfl wu rfl rfl (asg rfl) ?_
        refine wr_nil (post_thenN (wc_block ?_))
        refine wc_loop (fun i : Int => [(1, .int .i64 X.1), (2, .int .i64 (n % (P.q - 1))), (3, .pointer (some ⟨fb, 0, none⟩)), (9, .int .i64 (npow X i.toNat).1), (10, .int .i64 i)])
          (fun i w' => 0 ≤ i ∧ i ≤ n % (P.q - 1) ∧ Ext w w' ∧ Ext w3 w') (fun i => (n % (P.q - 1) - i).toNat) 0 ⟨rfl, rfl, rfl, rfl, rfl, trivial⟩ ⟨by omega, n0, hE, Ext.refl _⟩ ?_
        clear hE
        rintro i w4 ⟨i0, i1, hE, hE3⟩
        try dsimp only
        refine wc_seq (wc_seq ?_)
        refine wc_region [0,1,2] rfl ?_
        refine Go.Sx.V rfl wu rfl rfl (mv rfl) ?_
        refine Go.Sx.V rfl wu rfl rfl (mv rfl) ?_
        refine Go.Sx.V rfl wu rfl rfl (lssI rfl rfl) ?_
        refine wr_nil (post_thenN ?_)
        refine wc_cond rfl ?_ ?_
        · intro hi
          simp at hi
          refine wc_skip (post_thenN (wc_seq (wc_block ?_)))
          refine wc_region [0,1,2,3,4] rfl ?_
          refine Go.Sx.V rfl wu rfl rfl (ldA rfl ag24) ?_
          refine Go.Sx.V rfl wu rfl rfl (mv rfl) ?_
          refine Go.Sx.V rfl wu rfl rfl (mv rfl) ?_
          refine C rfl wu rfl rfl Try.call41 (rMul P mo md (npow X i.toNat).1 X.1 _ (hF.ext hE)) ?_
          rintro _ w5 hE5 rfl
          rw [inK_val, inK_val]
          refine Go.Sx.V rfl wu rfl rfl (asg rfl) ?_
          refine wr_nil (post_blockN (post_thenN ?_))
          refine wc_region [0,1,2] rfl ?_
          refine Go.Sx.V rfl wu rfl rfl (mv rfl) ?_
          refine Go.Sx.V rfl wu rfl rfl (addI rfl rfl) ?_
          refine Go.Sx.V rfl wu rfl rfl (asg rfl) ?_
          refine wr_nil ?_
          exact post_loopN (i + 1) ⟨rfl, rfl, rfl, by rw [show (i + 1).toNat = i.toNat + 1 by omega]; rfl, rfl, trivial⟩ ⟨by omega, by omega, hE.trans hE5, hE3.trans hE5⟩ (by omega)
        · intro hi
          simp at hi
          refine wc_exit (post_thenE (post_loopE (post_blockX (post_thenN (wc_seq ?_)))))
          refine wc_region [0,1,2] rfl ?_
          refine Go.Sx.V rfl wu rfl rfl (mv rfl) ?_
          refine Go.Sx.V rfl wu rfl rfl (asg rfl) ?_
          refine Go.Sx.V rfl wu rfl rfl (asg rfl) ?_
          refine wr_nil (post_thenN (wc_ret ?_))
          refine post_ret2 rfl rfl rfl ?_
          refine ⟨hE, ?_⟩
          rw [powA, if_neg h, if_neg hX0, hn1, show i = n % (P.q - 1) by omega]

end Go.Proofs.Ytjpcgjllmpdmhaa
