/-
  slices.Compare on ints, word.Compare and the reference's Compare, by contract: the lexicographic order of lists.
-/
import Derived.Test.YtmnojknfjbimdaaGreatWMTya
namespace Go.Proofs.YtmnojknfjbimdaaGreat
open Go Go.Sx Go.Pl Go.RowKit
theorem isNaN_any (x : Int) (w : World) : Calls Tryz.prog 141 #[.int .i64 x] w (RetX w fun v _ => v = .bool false) := by
  refine calls1 Tryz.func141 rfl rfl ?_
  refine wc_seq ?_
  refine wc_region [0] rfl ?_
  refine Go.Sx.V rfl wu rfl rfl (asg rfl) ?_
  refine wr_nil (post_thenN (wc_seq ?_))
  refine wc_region [0,1,2,3] rfl ?_
  refine Go.Sx.V rfl wu rfl rfl (mv rfl) ?_
  refine Go.Sx.V rfl wu rfl rfl (mv rfl) ?_
  refine Go.Sx.V rfl wu rfl rfl (neqI rfl rfl) ?_
  refine Go.Sx.V rfl wu rfl rfl (asg rfl) ?_
  refine wr_nil (post_thenN (wc_ret ?_))
  refine post_ret1 rfl rfl ?_
  exact ⟨Ext.refl _, by simp⟩
theorem cmpC (x y : Int) (w : World) : Calls Tryz.prog 98 #[.int .i64 x, .int .i64 y] w (RetX w fun v _ => v = .int .i64 (cmpZ x y)) := by
  refine calls2 Tryz.func98 rfl rfl ?_
  refine wc_seq ?_
  refine wc_region [0] rfl ?_
  refine Go.Sx.V rfl wu rfl rfl (asg rfl) ?_
  refine wr_nil (post_thenN (wc_seq ?_))
  refine wc_region [0,1,2] rfl ?_
  refine Go.Sx.V rfl wu rfl rfl (mv rfl) ?_
  refine C rfl wu rfl rfl Tryz.call141 (isNaN_any x _) ?_
  rintro _ w1 hE1 rfl
  refine Go.Sx.V rfl wu rfl rfl (asg rfl) ?_
  refine wr_nil (post_thenN (wc_seq ?_))
  refine wc_region [0,1,2] rfl ?_
  refine Go.Sx.V rfl wu rfl rfl (mv rfl) ?_
  refine C rfl wu rfl rfl Tryz.call141 (isNaN_any y _) ?_
  rintro _ w2 hE2 rfl
  refine Go.Sx.V rfl wu rfl rfl (asg rfl) ?_
  refine wr_nil (post_thenN (wc_seq (wc_seq ?_)))
  replace hE2 := hE1.trans hE2
  refine wc_region [0] rfl ?_
  refine Go.Sx.V rfl wu rfl rfl (mv rfl) ?_
  refine wr_nil (post_thenN ?_)
  refine wc_condF rfl (rfl) ?_
  refine wc_skip (post_thenN (wc_seq (wc_seq ?_)))
  refine wc_region [0] rfl ?_
  refine Go.Sx.V rfl wu rfl rfl (mv rfl) ?_
  refine wr_nil (post_thenN ?_)
  refine wc_condF rfl (rfl) ?_
  refine wc_skip (post_thenN (wc_seq (wc_seq ?_)))
  refine wc_region [0,1,2] rfl ?_
  refine Go.Sx.V rfl wu rfl rfl (mv rfl) ?_
  refine Go.Sx.V rfl wu rfl rfl (mv rfl) ?_
  refine Go.Sx.V rfl wu rfl rfl (lssI rfl rfl) ?_
  refine wr_nil (post_thenN ?_)
  refine wc_cond rfl ?_ ?_
  · intro h
    simp at h
    refine wc_seq ?_
    refine wc_region [0] rfl ?_
    refine Go.Sx.V rfl wu rfl rfl (asg rfl) ?_
    refine wr_nil (post_thenN (wc_ret (post_thenR ?_)))
    refine post_ret1 rfl rfl ?_
    exact ⟨hE2, by rw [cmpZ, if_pos h]⟩
  · intro h
    simp at h
    refine wc_skip (post_thenN (wc_seq (wc_seq ?_)))
    refine wc_region [0,1,2] rfl ?_
    refine Go.Sx.V rfl wu rfl rfl (mv rfl) ?_
    refine Go.Sx.V rfl wu rfl rfl (mv rfl) ?_
    refine Go.Sx.V rfl wu rfl rfl (gtrI rfl rfl) ?_
    refine wr_nil (post_thenN ?_)
    refine wc_cond rfl ?_ ?_
    · intro h2
      simp at h2
      refine wc_seq ?_
      refine wc_region [0] rfl ?_
      refine Go.Sx.V rfl wu rfl rfl (asg rfl) ?_
      refine wr_nil (post_thenN (wc_ret (post_thenR ?_)))
      refine post_ret1 rfl rfl ?_
      exact ⟨hE2, by rw [cmpZ, if_neg (by omega), if_pos h2]⟩
    · intro h2
      simp at h2
      refine wc_skip (post_thenN (wc_seq ?_))
      refine wc_region [0] rfl ?_
      refine Go.Sx.V rfl wu rfl rfl (asg rfl) ?_
      refine wr_nil (post_thenN (wc_ret ?_))
      refine post_ret1 rfl rfl ?_
      exact ⟨hE2, by rw [cmpZ, if_neg (by omega), if_neg (by omega)]⟩
set_option maxRecDepth 10000 in
theorem sCompare (a b : Value) (xs ys : List Int) (w : World) (ha : Ints w a xs) (hb : Ints w b ys) :
    Calls Tryz.prog 65 #[a, b] w (RetX w fun v _ => v = .int .i64 (cmpL xs ys)) := by
  have la := ha.le
  have lb := hb.le
  refine calls2 Tryz.func65 rfl rfl ?_
  refine wc_seq ?_
  refine wc_region [0] rfl ?_
  refine Go.Sx.V rfl wu rfl rfl (asg rfl) ?_
  refine wr_nil (post_thenN (wc_seq (wc_seq ?_)))
  refine wc_region [0,1,2] rfl ?_
  refine Go.Sx.V rfl wu rfl rfl (mv rfl) ?_
  refine Go.Sx.V rfl wu rfl rfl (lenI rfl ty22) ?_
  refine Go.Sx.V rfl wu rfl rfl (mv rfl) ?_
  refine wr_nil (post_thenN (wc_block ?_))
  refine wc_loop (fun i : Int => [(0, a), (1, b), (9, a), (10, .int .i64 xs.length), (11, .int .i64 i)])
    (fun i w' => 0 ≤ i ∧ i ≤ xs.length ∧ i ≤ ys.length ∧ cmpL xs ys = cmpL (xs.drop i.toNat) (ys.drop i.toNat) ∧ Ext w w') (fun i => (xs.length - i).toNat) 0 ⟨rfl, rfl, rfl, rfl, rfl, trivial⟩ ⟨by omega, by omega, by omega, rfl, Ext.refl _⟩ ?_
  rintro i w1 ⟨h0, h1, h2, hc, hE⟩
  try dsimp only
  refine wc_seq ?_
  refine wc_region [0] rfl ?_
  refine Go.Sx.V rfl wu rfl rfl (lssI rfl rfl) ?_
  refine wr_nil (post_thenN (wc_seq ?_))
  refine wc_cond rfl ?_ ?_
  · intro h
    simp at h
    refine wc_skip (post_thenN (wc_seq (wc_block (wc_seq ?_))))
    refine wc_region [0,1,2,3,4] rfl ?_
    refine Go.Sx.V rfl wu rfl rfl (mv rfl) ?_
    refine Go.Sx.V rfl wu rfl rfl (iadI rfl rfl ty22) ?_
    refine Go.Sx.V rfl wu rfl rfl (ldI rfl na3) ?_
    refine Go.Sx.V rfl wu rfl rfl (asg rfl) ?_
    refine Go.Sx.V rfl wu rfl rfl (asg rfl) ?_
    refine wr_nil (post_thenN (wc_seq (wc_seq ?_)))
    refine wc_region [0,1,2,3] rfl ?_
    refine Go.Sx.V rfl wu rfl rfl (mv rfl) ?_
    refine Go.Sx.V rfl wu rfl rfl (mv rfl) ?_
    refine Go.Sx.V rfl wu rfl rfl (lenI rfl ty22) ?_
    refine Go.Sx.V rfl wu rfl rfl (geqI rfl rfl) ?_
    refine wr_nil (post_thenN ?_)
    refine wc_cond rfl ?_ ?_
    · intro h3
      simp at h3
      refine wc_seq ?_
      refine wc_region [0] rfl ?_
      refine Go.Sx.V rfl wu rfl rfl (asg rfl) ?_
      refine wr_nil (post_thenN (wc_ret (post_thenR (post_blockR (post_thenR (post_loopR (post_blockR (post_thenR ?_))))))))
      refine post_ret1 rfl rfl ?_
      exact ⟨hE, by rw [hc, cmpL_long h0 h h3]⟩
    · intro h3
      simp at h3
      refine wc_skip (post_thenN (wc_seq ?_))
      rw [cmpL_drop h0 h h3] at hc
      refine wc_region [0,1,2,3,4] rfl ?_
      refine Go.Sx.V rfl wu rfl rfl (mv rfl) ?_
      refine Go.Sx.V rfl wu rfl rfl (mv rfl) ?_
      refine Go.Sx.V rfl wu rfl rfl (iadI rfl rfl ty22) ?_
      refine Go.Sx.V rfl wu rfl rfl (ldI rfl na3) ?_
      refine Go.Sx.V rfl wu rfl rfl (asg rfl) ?_
      refine wr_nil (post_thenN (wc_seq ?_))
      refine wc_region [0,1,2,3] rfl ?_
      refine Go.Sx.V rfl wu rfl rfl (mv rfl) ?_
      refine Go.Sx.V rfl wu rfl rfl (mv rfl) ?_
      refine C rfl wu rfl rfl Tryz.call98 (cmpC (gi xs i) (gi ys i) _) ?_
      rintro _ w2 hE2 rfl
      refine Go.Sx.V rfl wu rfl rfl (asg rfl) ?_
      refine wr_nil (post_thenN (wc_seq ?_))
      replace hE2 := hE.trans hE2
      refine wc_region [0,1] rfl ?_
      refine Go.Sx.V rfl wu rfl rfl (mv rfl) ?_
      refine Go.Sx.V rfl wu rfl rfl (neqI rfl rfl) ?_
      refine wr_nil (post_thenN ?_)
      refine wc_cond rfl ?_ ?_
      · intro h4
        refine wc_seq ?_
        refine wc_region [0,1] rfl ?_
        refine Go.Sx.V rfl wu rfl rfl (mv rfl) ?_
        refine Go.Sx.V rfl wu rfl rfl (asg rfl) ?_
        refine wr_nil (post_thenN (wc_ret (post_blockR (post_thenR (post_loopR (post_blockR (post_thenR ?_)))))))
        refine post_ret1 rfl rfl ?_
        refine ⟨hE2, ?_⟩
        rw [hc]
        simp only [cmpZ] at h4 ⊢
        split at h4
        · rename_i h5; rw [if_pos h5, if_pos h5]
        · rename_i h5
          split at h4
          · rename_i h6; rw [if_neg h5, if_pos h6, if_neg h5, if_pos h6]
          · simp at h4
      · intro h4
        refine wc_skip (post_blockN (post_thenN ?_))
        refine wc_region [0,1] rfl ?_
        refine Go.Sx.V rfl wu rfl rfl (addI rfl rfl) ?_
        refine Go.Sx.V rfl wu rfl rfl (mv rfl) ?_
        refine wr_nil ?_
        refine post_loopN (i + 1) ⟨rfl, rfl, rfl, rfl, rfl, trivial⟩ ⟨by omega, by omega, by omega, ?_, hE2⟩ (by omega)
        rw [hc]
        simp only [cmpZ] at h4
        split at h4
        · simp at h4
        · rename_i h5
          split at h4
          · simp at h4
          · rename_i h6; rw [if_neg h5, if_neg h6]
  · intro h
    simp at h
    refine wc_exit (post_thenE (post_loopE (post_blockX (post_thenN (wc_seq (wc_seq ?_))))))
    refine wc_region [0,1,2,3,4] rfl ?_
    refine Go.Sx.V rfl wu rfl rfl (mv rfl) ?_
    refine Go.Sx.V rfl wu rfl rfl (lenI rfl ty22) ?_
    refine Go.Sx.V rfl wu rfl rfl (mv rfl) ?_
    refine Go.Sx.V rfl wu rfl rfl (lenI rfl ty22) ?_
    refine Go.Sx.V rfl wu rfl rfl (lssI rfl rfl) ?_
    refine wr_nil (post_thenN ?_)
    refine wc_cond rfl ?_ ?_
    · intro h3
      simp at h3
      refine wc_seq ?_
      refine wc_region [0] rfl ?_
      refine Go.Sx.V rfl wu rfl rfl (asg rfl) ?_
      refine wr_nil (post_thenN (wc_ret (post_thenR ?_)))
      refine post_ret1 rfl rfl ?_
      exact ⟨hE, by rw [hc, cmpL_short h h0 (by omega)]⟩
    · intro h3
      simp at h3
      refine wc_skip (post_thenN (wc_seq ?_))
      refine wc_region [0] rfl ?_
      refine Go.Sx.V rfl wu rfl rfl (asg rfl) ?_
      refine wr_nil (post_thenN (wc_ret ?_))
      refine post_ret1 rfl rfl ?_
      exact ⟨hE, by rw [hc, cmpL_end h (by omega)]⟩
set_option maxRecDepth 10000 in
theorem rCompare (a b : Value) (xs ys : List Int) (w : World) (ha : Ints w a xs) (hb : Ints w b ys) :
    Calls Tryz.prog 24 #[a, b] w (RetX w fun v _ => v = .int .i64 (cmpL xs ys)) := by
  have la := ha.le
  have lb := hb.le
  refine calls2 Tryz.func24 rfl rfl ?_
  refine wc_seq ?_
  refine wc_region [0] rfl ?_
  refine Go.Sx.V rfl wu rfl rfl (asg rfl) ?_
  refine wr_nil (post_thenN (wc_seq (wc_seq ?_)))
  refine wc_region [0] rfl ?_
  refine Go.Sx.V rfl wu rfl rfl (asg rfl) ?_
  refine wr_nil (post_thenN (wc_block ?_))
  refine wc_loop (fun i : Int => [(0, a), (1, b), (5, .int .i64 i)])
    (fun i w' => 0 ≤ i ∧ i ≤ xs.length ∧ i ≤ ys.length ∧ cmpL xs ys = cmpL (xs.drop i.toNat) (ys.drop i.toNat) ∧ Ext w w') (fun i => (xs.length - i).toNat) 0 ⟨rfl, rfl, rfl, trivial⟩ ⟨by omega, by omega, by omega, rfl, Ext.refl _⟩ ?_
  rintro i w1 ⟨h0, h1, h2, hc, hE⟩
  try dsimp only
  refine wc_seq (wc_seq ?_)
  refine wc_region [0,1,2,3,4,5,6,7,8,9] rfl ?_
  refine Go.Sx.V rfl wu rfl rfl (mv rfl) ?_
  refine Go.Sx.V rfl wu rfl rfl (mv rfl) ?_
  refine Go.Sx.V rfl wu rfl rfl (lenI rfl ty22) ?_
  refine Go.Sx.V rfl wu rfl rfl (lssI rfl rfl) ?_
  refine Go.Sx.V rfl wu rfl rfl (mv rfl) ?_
  refine AND (π1 := [5,6,7,8,9]) (π2 := []) (tc := 10) (tp := 15) rfl rfl rfl (by
      intro hg
      simp at hg
      refine Go.Sx.V rfl (wg rfl rfl) rfl rfl (mv rfl) ?_
      refine Go.Sx.V rfl (wg rfl rfl) rfl rfl (mv rfl) ?_
      refine Go.Sx.V rfl (wg rfl rfl) rfl rfl (lenI rfl ty22) ?_
      refine Go.Sx.V rfl (wg rfl rfl) rfl rfl (lssI rfl rfl) ?_
      refine Go.Sx.V rfl wu rfl rfl (pk rfl rfl) ?_
      exact join rfl) (by
      intro _
      refine SK rfl rfl rfl rfl rfl ?_
      refine SK rfl rfl rfl rfl rfl ?_
      refine SK rfl rfl rfl rfl rfl ?_
      refine SK rfl rfl rfl rfl rfl ?_
      refine Go.Sx.V rfl wu rfl rfl (pk rfl rfl) ?_
      exact join rfl) ?_
  refine wr_nil (post_thenN ?_)
  refine wc_cond rfl ?_ ?_
  · intro h
    simp at h
    obtain ⟨h3, h4⟩ := h
    rw [cmpL_drop h0 h3 h4] at hc
    refine wc_skip (post_thenN (wc_seq (wc_block (wc_seq (wc_seq ?_)))))
    refine wc_draw mixed [0,1,2,3,4,5,6,7,8] (by kernel_rfl) ?_
    intro w2 hd _
    replace hE := hE.trans hd
    refine Go.Sx.V rfl wu rfl rfl (mv rfl) ?_
    refine Go.Sx.V rfl wu rfl rfl (mv rfl) ?_
    refine Go.Sx.V rfl wu rfl rfl (iadI rfl rfl ty22) ?_
    refine Go.Sx.V rfl wu rfl rfl (ldI rfl na3) ?_
    refine Go.Sx.V rfl wu rfl rfl (mv rfl) ?_
    refine Go.Sx.V rfl wu rfl rfl (mv rfl) ?_
    refine Go.Sx.V rfl wu rfl rfl (iadI rfl rfl ty22) ?_
    refine Go.Sx.V rfl wu rfl rfl (ldI rfl na3) ?_
    refine Go.Sx.V rfl wu rfl rfl (lssI rfl rfl) ?_
    refine wr_nil (post_thenN ?_)
    refine wc_cond rfl ?_ ?_
    · intro h5
      simp at h5
      refine wc_seq ?_
      refine wc_region [0] rfl ?_
      refine Go.Sx.V rfl wu rfl rfl (asg rfl) ?_
      refine wr_nil (post_thenN (wc_ret (post_thenR (post_blockR (post_thenR (post_loopR (post_blockR (post_thenR ?_))))))))
      refine post_ret1 rfl rfl ?_
      exact ⟨hE, by rw [hc, if_pos h5]⟩
    · intro h5
      simp at h5
      refine wc_skip (post_thenN (wc_seq ?_))
      refine wc_draw mixed [0,1,2,3,4,5,6,7,8] (by kernel_rfl) ?_
      intro w3 hd _
      replace hE := hE.trans hd
      refine Go.Sx.V rfl wu rfl rfl (mv rfl) ?_
      refine Go.Sx.V rfl wu rfl rfl (mv rfl) ?_
      refine Go.Sx.V rfl wu rfl rfl (iadI rfl rfl ty22) ?_
      refine Go.Sx.V rfl wu rfl rfl (ldI rfl na3) ?_
      refine Go.Sx.V rfl wu rfl rfl (mv rfl) ?_
      refine Go.Sx.V rfl wu rfl rfl (mv rfl) ?_
      refine Go.Sx.V rfl wu rfl rfl (iadI rfl rfl ty22) ?_
      refine Go.Sx.V rfl wu rfl rfl (ldI rfl na3) ?_
      refine Go.Sx.V rfl wu rfl rfl (gtrI rfl rfl) ?_
      refine wr_nil (post_thenN ?_)
      refine wc_cond rfl ?_ ?_
      · intro h6
        simp at h6
        refine wc_seq ?_
        refine wc_region [0] rfl ?_
        refine Go.Sx.V rfl wu rfl rfl (asg rfl) ?_
        refine wr_nil (post_thenN (wc_ret (post_blockR (post_thenR (post_loopR (post_blockR (post_thenR ?_)))))))
        refine post_ret1 rfl rfl ?_
        exact ⟨hE, by rw [hc, if_neg (by omega), if_pos h6]⟩
      · intro h6
        simp at h6
        refine wc_skip (post_blockN (post_thenN ?_))
        refine wc_region [0,1,2] rfl ?_
        refine Go.Sx.V rfl wu rfl rfl (mv rfl) ?_
        refine Go.Sx.V rfl wu rfl rfl (addI rfl rfl) ?_
        refine Go.Sx.V rfl wu rfl rfl (asg rfl) ?_
        refine wr_nil ?_
        exact post_loopN (i + 1) ⟨rfl, rfl, rfl, trivial⟩ ⟨by omega, by omega, by omega, by rw [hc, if_neg (by omega), if_neg (by omega)], hE⟩ (by omega)
  · intro h
    simp at h
    refine wc_exit (post_thenE (post_loopE (post_blockX (post_thenN (wc_seq (wc_seq ?_))))))
    refine wc_region [0,1,2,3,4] rfl ?_
    refine Go.Sx.V rfl wu rfl rfl (mv rfl) ?_
    refine Go.Sx.V rfl wu rfl rfl (lenI rfl ty22) ?_
    refine Go.Sx.V rfl wu rfl rfl (mv rfl) ?_
    refine Go.Sx.V rfl wu rfl rfl (lenI rfl ty22) ?_
    refine Go.Sx.V rfl wu rfl rfl (lssI rfl rfl) ?_
    refine wr_nil (post_thenN ?_)
    refine wc_cond rfl ?_ ?_
    · intro h3
      simp at h3
      refine wc_seq ?_
      refine wc_region [0] rfl ?_
      refine Go.Sx.V rfl wu rfl rfl (asg rfl) ?_
      refine wr_nil (post_thenN (wc_ret (post_thenR ?_)))
      refine post_ret1 rfl rfl ?_
      exact ⟨hE, by rw [hc, cmpL_short (by omega) h0 (by omega)]⟩
    · intro h3
      simp at h3
      refine wc_skip (post_thenN (wc_seq (wc_seq ?_)))
      refine wc_region [0,1,2,3,4] rfl ?_
      refine Go.Sx.V rfl wu rfl rfl (mv rfl) ?_
      refine Go.Sx.V rfl wu rfl rfl (lenI rfl ty22) ?_
      refine Go.Sx.V rfl wu rfl rfl (mv rfl) ?_
      refine Go.Sx.V rfl wu rfl rfl (lenI rfl ty22) ?_
      refine Go.Sx.V rfl wu rfl rfl (gtrI rfl rfl) ?_
      refine wr_nil (post_thenN ?_)
      refine wc_cond rfl ?_ ?_
      · intro h4
        simp at h4
        refine wc_seq ?_
        refine wc_region [0] rfl ?_
        refine Go.Sx.V rfl wu rfl rfl (asg rfl) ?_
        refine wr_nil (post_thenN (wc_ret (post_thenR ?_)))
        refine post_ret1 rfl rfl ?_
        exact ⟨hE, by rw [hc, cmpL_long h0 (by omega) (by omega)]⟩
      · intro h4
        simp at h4
        refine wc_skip (post_thenN (wc_seq ?_))
        refine wc_region [0] rfl ?_
        refine Go.Sx.V rfl wu rfl rfl (asg rfl) ?_
        refine wr_nil (post_thenN (wc_ret ?_))
        refine post_ret1 rfl rfl ?_
        exact ⟨hE, by rw [hc, cmpL_end (by omega) (by omega)]⟩
end Go.Proofs.YtmnojknfjbimdaaGreat

