/-
  The reference's powers and orders of a field's elements, by contract.
-/
import Derived.Test.YtmookiiehfdloaaRef6
import Derived.Test.YtmookiiehfdloaaKPow
namespace Go.Proofs.Ytmookiiehfdloaa
open Go Go.Sx Go.Pl Go.RowKit Go.Fd Go.Alg

set_option maxRecDepth 10000 in
theorem rPow (P : FP) (mo : Value) (md : List Int) (x n : Int) (w : World) (hF : FV w P mo md) :
    Calls Try.prog 30 #[fv P mo, .int .i64 x, .int .i64 n] w (RetX w fun v _ => v = .tuple #[.int .i64 (powA P (inK P x) n).1.1, .int .i64 (powA P (inK P x) n).2]) := by
  have hord := hF.ord
  have hq := hF.q
  have hn1 := n1_eq (P := P)
  have hq2 := P.q_two
  refine calls3 Try.func30 rfl rfl ?_
  refine wc_seq ?_
  refine wc_region [0,1,2] rfl ?_
  refine BXA rfl wu rfl rfl ?_
  intro fb w1 hE hB hg
  refine Go.Sx.V rfl wu rfl rfl (asg rfl) ?_
  refine Go.Sx.V rfl wu rfl rfl (asg rfl) ?_
  refine wr_nil (post_thenN (wc_seq ?_))
  refine wc_region [0,1,2,3] rfl ?_
  refine Go.Sx.V rfl wu rfl rfl (ldA rfl ag24) ?_
  refine Go.Sx.V rfl wu rfl rfl (mv rfl) ?_
  refine C rfl wu rfl rfl Try.call26 (rIn P mo md x _ (hF.ext hE)) ?_
  rintro _ w2 hE2 rfl
  replace hB := hB.ext hE2
  replace hE := hE.trans hE2
  refine Go.Sx.V rfl wu rfl rfl (asg rfl) ?_
  refine wr_nil (post_thenN (wc_seq (wc_seq ?_)))
  generalize inK P x = X
  have hX := X.2
  refine wc_region [0,1] rfl ?_
  refine Go.Sx.V rfl wu rfl rfl (mv rfl) ?_
  refine Go.Sx.V rfl wu rfl rfl (eqlI rfl rfl) ?_
  refine wr_nil (post_thenN ?_)
  refine wc_cond rfl ?_ ?_
  · intro h
    simp at h
    refine wc_seq ?_
    refine wc_region [0,1] rfl ?_
    refine Go.Sx.V rfl wu rfl rfl (asg rfl) ?_
    refine Go.Sx.V rfl wu rfl rfl (asg rfl) ?_
    refine wr_nil (post_thenN (wc_ret (post_thenR ?_)))
    refine post_ret2 rfl rfl rfl ?_
    exact ⟨hE, by rw [powA, if_pos h]; rfl⟩
  · intro h
    simp at h
    refine wc_skip (post_thenN (wc_seq (wc_seq ?_)))
    refine wc_region [0,1,2,3,4,5] rfl ?_
    refine Go.Sx.V rfl wu rfl rfl (mv rfl) ?_
    refine Go.Sx.V rfl wu rfl rfl (eqlI rfl rfl) ?_
    refine Go.Sx.V rfl wu rfl rfl (mv rfl) ?_
    refine AND (π1 := [3,4,5]) (π2 := []) (tc := 18) (tp := 21) rfl rfl rfl (by
        intro hg
        simp at hg
        refine Go.Sx.V rfl (wg rfl rfl) rfl rfl (mv rfl) ?_
        refine Go.Sx.V rfl (wg rfl rfl) rfl rfl (lssI rfl rfl) ?_
        refine Go.Sx.V rfl wu rfl rfl (pk rfl rfl) ?_
        exact join rfl) (by
        intro _
        refine SK rfl rfl rfl rfl rfl ?_
        refine SK rfl rfl rfl rfl rfl ?_
        refine Go.Sx.V rfl wu rfl rfl (pk rfl rfl) ?_
        exact join rfl) ?_
    refine wr_nil (post_thenN ?_)
    refine wc_cond rfl ?_ ?_
    · intro h1
      simp at h1
      refine wc_seq ?_
      refine wc_region [0,1] rfl ?_
      refine Go.Sx.V rfl wu rfl rfl (asg rfl) ?_
      refine Go.Sx.V rfl wu rfl rfl (asg rfl) ?_
      refine wr_nil (post_thenN (wc_ret (post_thenR ?_)))
      refine post_ret2 rfl rfl rfl ?_
      exact ⟨hE, by rw [powA, if_neg h, if_pos (show X = 0 from Subtype.ext h1.1), if_pos h1.2]; rfl⟩
    · intro h1
      simp at h1
      refine wc_skip (post_thenN (wc_seq (wc_seq ?_)))
      refine wc_region [0,1] rfl ?_
      refine Go.Sx.V rfl wu rfl rfl (mv rfl) ?_
      refine Go.Sx.V rfl wu rfl rfl (eqlI rfl rfl) ?_
      refine wr_nil (post_thenN ?_)
      refine wc_cond rfl ?_ ?_
      · intro h2
        simp at h2
        refine wc_seq ?_
        refine wc_region [0,1] rfl ?_
        refine Go.Sx.V rfl wu rfl rfl (asg rfl) ?_
        refine Go.Sx.V rfl wu rfl rfl (asg rfl) ?_
        refine wr_nil (post_thenN (wc_ret (post_thenR ?_)))
        refine post_ret2 rfl rfl rfl ?_
        exact ⟨hE, by rw [powA, if_neg h, if_pos (show X = 0 from Subtype.ext h2), if_neg (by have := h1 h2; omega)]; rfl⟩
      · intro h2
        simp at h2
        have hX0 : X ≠ 0 := fun e => h2 (by rw [e]; rfl)
        refine wc_skip (post_thenN (wc_seq ?_))
        have t0 := tmod_lo (n := n) (k := P.q - 1) (by omega)
        have t1 := tmod_mod (n := n) (k := P.q - 1) (by omega)
        have n0 : 0 ≤ n % (P.q - 1) := Int.emod_nonneg _ (by omega)
        have n2 : n % (P.q - 1) < P.q - 1 := Int.emod_lt_of_pos _ (by omega)
        refine wc_region [0,1,2,3] rfl ?_
        refine Go.Sx.V rfl wu rfl rfl (ldA rfl ag24) ?_
        refine C rfl wu rfl rfl Try.call33 (rOrder P.p P.M mo _) ?_
        rintro _ w3 hE3 rfl
        replace hB := hB.ext hE3
        replace hE := hE.trans hE3
        rw [hord]
        refine Go.Sx.V rfl wu rfl rfl (subI rfl rfl) ?_
        refine Go.Sx.V rfl wu rfl rfl (asg rfl) ?_
        refine wr_nil (post_thenN (wc_seq ?_))
        refine wc_region [0,1,2,3,4,5,6,7] rfl ?_
        refine Go.Sx.V rfl wu rfl rfl (mv rfl) ?_
        refine Go.Sx.V rfl wu rfl rfl (mv rfl) ?_
        refine Go.Sx.V rfl wu rfl rfl (remT rfl rfl) ?_
        refine Go.Sx.V rfl wu rfl rfl (mv rfl) ?_
        refine Go.Sx.V rfl wu rfl rfl (addI rfl rfl) ?_
        refine Go.Sx.V rfl wu rfl rfl (mv rfl) ?_
        refine Go.Sx.V rfl wu rfl rfl (remI rfl rfl) ?_
        refine Go.Sx.V rfl wu rfl rfl (asg rfl) ?_
        refine wr_nil (post_thenN (wc_seq ?_))
        rw [t1]
        refine wc_region [0] rfl ?_
        refine Go.Sx.V rfl wu rfl rfl (asg rfl) ?_
        refine wr_nil (post_thenN (wc_seq (wc_seq ?_)))
        refine wc_region [0] rfl ?_
        refine Go.Sx.V rfl wu rfl rfl (asg rfl) ?_
        refine wr_nil (post_thenN (wc_block ?_))
        refine wc_loop (fun i : Int => [(1, .int .i64 X.1), (2, .int .i64 (n % (P.q - 1))), (3, .pointer (some ⟨fb, 0, none⟩)), (9, .int .i64 (npow X i.toNat).1), (10, .int .i64 i)])
          (fun i w' => 0 ≤ i ∧ i ≤ n % (P.q - 1) ∧ Ext w w' ∧ Ext w3 w') (fun i => (n % (P.q - 1) - i).toNat) 0 ⟨rfl, rfl, rfl, rfl, rfl, trivial⟩ ⟨by omega, n0, hE, Ext.refl _⟩ ?_
        clear hE
        rintro i w4 ⟨i0, i1, hE, hE3⟩
        try dsimp only
        refine wc_seq (wc_seq ?_)
        refine wc_region [0,1,2] rfl ?_
        refine Go.Sx.V rfl wu rfl rfl (mv rfl) ?_
        refine Go.Sx.V rfl wu rfl rfl (mv rfl) ?_
        refine Go.Sx.V rfl wu rfl rfl (lssI rfl rfl) ?_
        refine wr_nil (post_thenN ?_)
        refine wc_cond rfl ?_ ?_
        · intro hi
          simp at hi
          refine wc_skip (post_thenN (wc_seq (wc_block ?_)))
          refine wc_region [0,1,2,3,4] rfl ?_
          refine Go.Sx.V rfl wu rfl rfl (ldA rfl ag24) ?_
          refine Go.Sx.V rfl wu rfl rfl (mv rfl) ?_
          refine Go.Sx.V rfl wu rfl rfl (mv rfl) ?_
          refine C rfl wu rfl rfl Try.call32 (rMul P mo md (npow X i.toNat).1 X.1 _ (hF.ext hE)) ?_
          rintro _ w5 hE5 rfl
          rw [inK_val, inK_val]
          refine Go.Sx.V rfl wu rfl rfl (asg rfl) ?_
          refine wr_nil (post_blockN (post_thenN ?_))
          refine wc_region [0,1,2] rfl ?_
          refine Go.Sx.V rfl wu rfl rfl (mv rfl) ?_
          refine Go.Sx.V rfl wu rfl rfl (addI rfl rfl) ?_
          refine Go.Sx.V rfl wu rfl rfl (asg rfl) ?_
          refine wr_nil ?_
          exact post_loopN (i + 1) ⟨rfl, rfl, rfl, by rw [show (i + 1).toNat = i.toNat + 1 by omega]; rfl, rfl, trivial⟩ ⟨by omega, by omega, hE.trans hE5, hE3.trans hE5⟩ (by omega)
        · intro hi
          simp at hi
          refine wc_exit (post_thenE (post_loopE (post_blockX (post_thenN (wc_seq ?_)))))
          refine wc_region [0,1,2] rfl ?_
          refine Go.Sx.V rfl wu rfl rfl (mv rfl) ?_
          refine Go.Sx.V rfl wu rfl rfl (asg rfl) ?_
          refine Go.Sx.V rfl wu rfl rfl (asg rfl) ?_
          refine wr_nil (post_thenN (wc_ret ?_))
          refine post_ret2 rfl rfl rfl ?_
          refine ⟨hE, ?_⟩
          rw [powA, if_neg h, if_neg hX0, hn1, show i = n % (P.q - 1) by omega]

set_option maxRecDepth 10000 in
theorem rMulOrder (P : FP) (mo : Value) (md : List Int) (x : Int) (w : World) (hF : FV w P mo md) (hgen : ∃ g : K P, HasOrder g (n1 P)) :
    Calls Try.prog 46 #[fv P mo, .int .i64 x] w (RetX w fun v _ => (inK P x = 0 ∧ v = .int .i64 0) ∨ (inK P x ≠ 0 ∧ ∃ m : Nat, HasOrder (inK P x) m ∧ v = .int .i64 m)) := by
  have hq := hF.q
  have hn1 := n1_eq (P := P)
  obtain ⟨g0, hg0⟩ := hgen
  refine calls2 Try.func46 rfl rfl ?_
  refine wc_seq ?_
  refine wc_region [0,1] rfl ?_
  refine BXA rfl wu rfl rfl ?_
  intro fb w1 hE hB hg
  refine Go.Sx.V rfl wu rfl rfl (asg rfl) ?_
  refine wr_nil (post_thenN (wc_seq ?_))
  refine wc_region [0,1,2,3] rfl ?_
  refine Go.Sx.V rfl wu rfl rfl (ldA rfl ag24) ?_
  refine Go.Sx.V rfl wu rfl rfl (mv rfl) ?_
  refine C rfl wu rfl rfl Try.call26 (rIn P mo md x _ (hF.ext hE)) ?_
  rintro _ w2 hE2 rfl
  replace hB := hB.ext hE2
  replace hE := hE.trans hE2
  refine Go.Sx.V rfl wu rfl rfl (asg rfl) ?_
  refine wr_nil (post_thenN (wc_seq (wc_seq ?_)))
  generalize inK P x = X
  refine wc_region [0,1] rfl ?_
  refine Go.Sx.V rfl wu rfl rfl (mv rfl) ?_
  refine Go.Sx.V rfl wu rfl rfl (eqlI rfl rfl) ?_
  refine wr_nil (post_thenN ?_)
  refine wc_cond rfl ?_ ?_
  · intro h
    simp at h
    refine wc_seq ?_
    refine wc_region [0] rfl ?_
    refine Go.Sx.V rfl wu rfl rfl (asg rfl) ?_
    refine wr_nil (post_thenN (wc_ret (post_thenR ?_)))
    refine post_ret1 rfl rfl ?_
    exact ⟨hE, .inl ⟨Subtype.ext h, rfl⟩⟩
  · intro h
    simp at h
    have hX0 : X ≠ 0 := fun e => h (by rw [e]; rfl)
    obtain ⟨m, hm, hmd⟩ := ex_order hg0 hX0
    have hml := ord_le hmd
    refine wc_skip (post_thenN (wc_seq ?_))
    refine wc_region [0] rfl ?_
    refine Go.Sx.V rfl wu rfl rfl (asg rfl) ?_
    refine wr_nil (post_thenN (wc_seq (wc_seq ?_)))
    refine wc_region [0,1] rfl ?_
    refine Go.Sx.V rfl wu rfl rfl (mv rfl) ?_
    refine Go.Sx.V rfl wu rfl rfl (asg rfl) ?_
    refine wr_nil (post_thenN (wc_block ?_))
    refine wc_loop (fun k : Nat => [(1, .int .i64 X.1), (2, .pointer (some ⟨fb, 0, none⟩)), (5, .int .i64 k), (6, .int .i64 (npow X k).1)])
      (fun k w' => 1 ≤ k ∧ k ≤ m ∧ Ext w w' ∧ Ext w2 w') (fun k => m - k) 1 ⟨rfl, rfl, rfl, by rw [npow_one]; rfl, trivial⟩ ⟨by omega, hm.1, hE, Ext.refl _⟩ ?_
    clear hE
    rintro k w4 ⟨k0, k1, hE, hE2⟩
    try dsimp only
    refine wc_seq (wc_seq ?_)
    refine wc_region [0,1] rfl ?_
    refine Go.Sx.V rfl wu rfl rfl (mv rfl) ?_
    refine Go.Sx.V rfl wu rfl rfl (neqI rfl rfl) ?_
    refine wr_nil (post_thenN ?_)
    refine wc_cond rfl ?_ ?_
    · intro hi
      simp at hi
      have hkm : k < m := by
        apply Classical.byContradiction
        intro hc
        have : k = m := by omega
        subst this
        exact hi (by rw [hm.2.1]; rfl)
      refine wc_skip (post_thenN (wc_seq (wc_block ?_)))
      refine wc_region [0,1,2] rfl ?_
      refine Go.Sx.V rfl wu rfl rfl (mv rfl) ?_
      refine Go.Sx.V rfl wu rfl rfl (addI rfl rfl) ?_
      refine Go.Sx.V rfl wu rfl rfl (asg rfl) ?_
      refine wr_nil (post_blockN (post_thenN ?_))
      refine wc_region [0,1,2,3,4] rfl ?_
      refine Go.Sx.V rfl wu rfl rfl (ldA rfl ag24) ?_
      refine Go.Sx.V rfl wu rfl rfl (mv rfl) ?_
      refine Go.Sx.V rfl wu rfl rfl (mv rfl) ?_
      refine C rfl wu rfl rfl Try.call32 (rMul P mo md (npow X k).1 X.1 _ (hF.ext hE)) ?_
      rintro _ w5 hE5 rfl
      rw [inK_val, inK_val]
      refine Go.Sx.V rfl wu rfl rfl (asg rfl) ?_
      refine wr_nil ?_
      exact post_loopN (k + 1) ⟨rfl, rfl, rfl, rfl, trivial⟩ ⟨by omega, by omega, hE.trans hE5, hE2.trans hE5⟩ (by omega)
    · intro hi
      simp at hi
      have e1 : npow X k = 1 := Subtype.ext hi
      have hkm : k = m := by
        apply Classical.byContradiction
        intro hc
        exact hm.2.2 k (by omega) (by omega) e1
      refine wc_exit (post_thenE (post_loopE (post_blockX (post_thenN (wc_seq ?_)))))
      refine wc_region [0,1] rfl ?_
      refine Go.Sx.V rfl wu rfl rfl (mv rfl) ?_
      refine Go.Sx.V rfl wu rfl rfl (asg rfl) ?_
      refine wr_nil (post_thenN (wc_ret ?_))
      refine post_ret1 rfl rfl ?_
      exact ⟨hE, .inr ⟨hX0, m, hm, by rw [hkm]⟩⟩
end Go.Proofs.Ytmookiiehfdloaa
