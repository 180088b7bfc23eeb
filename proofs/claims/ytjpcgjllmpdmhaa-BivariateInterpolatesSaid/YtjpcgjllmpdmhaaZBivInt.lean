/-
  Statements BivariateInterpolates, BivariateLeast and BivariateCounts: for every description of a field and all arguments the laws return true. No condition.
-/
import Derived.Test.YtjpcgjllmpdmhaaZRKoe
import Derived.Test.YtjpcgjllmpdmhaaZRHas
import Derived.Test.YtjpcgjllmpdmhaaZKoe3
import Derived.Test.YtjpcgjllmpdmhaaRows
namespace Go.Proofs.Ytjpcgjllmpdmhaa
open Go Go.Sx Go.Pl Go.RowKit Go.Fd Go.Alg Go.Fr

set_option maxRecDepth 10000 in
theorem law_BivariateInterpolates {w : World} (v0 : Value) (r : FRec) (s0 : v0 = r.v ∧ FOf w r) (v1 : Value) (x : TkRec) (s1 : v1 = x.val ∧ Ints w x.u x.xs ∧ Ints w x.v x.ys ∧ Go.Fr.Fits x.M ∧ Go.Fr.Fits x.W ∧ Go.Fr.Fits x.L) :
    Calls Try.prog 13 #[v0, v1] w (RetX w fun v _ => v = .bool true) := by
  obtain ⟨p, M, mo, md⟩ := r
  obtain ⟨rfl, hr⟩ := s0
  obtain ⟨rfl, hu, hv, hfM, hfW, hfL⟩ := s1
  have hmayE : ∀ P : FP, May P x → argsA P x.xs x.ys.length x.M x.W x.L = 0 := fun P => may_args
  obtain ⟨u, v, xs, ys, m, wt, l⟩ := x
  dsimp only at hu hv hfM hfW hfL hmayE
  refine calls2 Try.func13 rfl rfl ?_
  refine wc_seq ?_
  refine wc_region [0,1,2] rfl ?_
  refine BXA rfl wu rfl rfl ?_
  intro fb w1 hE hB hg
  refine BXA rfl wu rfl rfl ?_
  intro cb w3 hE3 hB3 hg3
  replace hB := hB.ext hE3
  replace hE := hE.trans hE3
  refine Go.Sx.V rfl wu rfl rfl (asg rfl) ?_
  refine wr_nil (post_thenN (wc_seq (wc_seq ?_)))
  refine wc_region [0,1] rfl ?_
  refine C rfl wu rfl rfl Try.call16 (lAlive _) ?_
  rintro _ w4 hE4 rfl
  replace hB := hB.ext hE4
  replace hB3 := hB3.ext hE4
  replace hE := hE.trans hE4
  refine Go.Sx.V rfl wu rfl rfl (notB rfl) ?_
  refine wr_nil (post_thenN ?_)
  refine wc_condF rfl (by simp) ?_
  refine wc_skip (post_thenN (wc_seq ?_))
  have hmi := hr.ints.ext hE
  dsimp only at hmi hB hB3
  refine wc_region [0,1,2] rfl ?_
  refine Go.Sx.V rfl wu rfl rfl (ldA rfl ag24) ?_
  refine C rfl wu rfl rfl Try.call17 (lMade p M mo md _ hmi) ?_
  rintro g w5 hE5 hm
  replace hB := hB.ext hE5
  replace hB3 := hB3.ext hE5
  replace hE := hE.trans hE5
  refine Go.Sx.V rfl wu rfl rfl (asg rfl) ?_
  refine wr_nil (post_thenN (wc_seq ?_))
  replace hmi := hmi.ext hE5
  replace hu := hu.ext hE
  replace hv := hv.ext hE
  have hX := Ext.refl w5
  have hxle := hu.le
  refine wc_region [0,1,2,3] rfl ?_
  refine Go.Sx.V rfl wu rfl rfl (fad rfl fa73_0) ?_
  refine Go.Sx.V rfl wu rfl rfl (ldB rfl na22 hB3) ?_
  refine Go.Sx.V rfl wu rfl rfl (lenI rfl ty22 hu) ?_
  refine Go.Sx.V rfl wu rfl rfl (asg rfl) ?_
  refine wr_nil (post_thenN (wc_seq (wc_seq ?_)))
  rcases made_split hm hmi with rfl | ⟨P, hp, hM, hF, hG⟩
  · skip
    refine wc_region [0,1,2,3,4,5,6,7,8,9,10,11] rfl ?_
    refine Go.Sx.V rfl wu rfl rfl (mv rfl) ?_
    refine Go.Sx.V rfl wu rfl rfl (eqlPn rfl rfl Try.underlying28) ?_
    refine Go.Sx.V rfl wu rfl rfl (mv rfl) ?_
    refine KB 19 true rfl (by rfl) ?_
    refine SK rfl rfl rfl rfl rfl ?_
    refine SK rfl rfl rfl rfl rfl ?_
    refine Go.Sx.V rfl wu rfl rfl (pk rfl rfl) ?_
    refine Go.Sx.V rfl wu rfl rfl (mv rfl) ?_
    refine KB 23 true rfl (by rfl) ?_
    refine SK rfl rfl rfl rfl rfl ?_
    refine SK rfl rfl rfl rfl rfl ?_
    refine SK rfl rfl rfl rfl rfl ?_
    refine SK rfl rfl rfl rfl rfl ?_
    refine Go.Sx.V rfl wu rfl rfl (pk rfl rfl) ?_
    refine wr_nil (post_thenN ?_)
    refine wc_condT rfl (by simp) ?_
    refine wc_seq ?_
    refine wc_region [0] rfl ?_
    refine Go.Sx.V rfl wu rfl rfl (asg rfl) ?_
    refine wr_nil (post_thenN (wc_ret (post_thenR ?_)))
    refine post_ret1 rfl rfl ?_
    exact ⟨hE, rfl⟩
  · subst hp hM
    obtain ⟨ga, hga⟩ := hG.ptr
    refine wc_region [0,1,2,3,4,5,6,7,8,9,10,11] rfl ?_
    refine Go.Sx.V rfl wu rfl rfl (mv rfl) ?_
    rw [hga]
    refine Go.Sx.V rfl wu rfl rfl (eqlPn rfl rfl Try.underlying28) ?_
    rw [← hga]
    refine Go.Sx.V rfl wu rfl rfl (mv rfl) ?_
    refine KB 19 false rfl (by rfl) ?_
    refine Go.Sx.V rfl (wg rfl rfl) rfl rfl (mv rfl) ?_
    refine Go.Sx.V rfl (wg rfl rfl) rfl rfl (gtrI rfl rfl) ?_
    refine Go.Sx.V rfl wu rfl rfl (pk rfl rfl) ?_
    refine Go.Sx.V rfl wu rfl rfl (mv rfl) ?_
    refine OR (π1 := [7,8,9,10,11]) (π2 := []) (tc := 23) (tp := 28) rfl rfl rfl (by
        intro _
        refine SK rfl rfl rfl rfl rfl ?_
        refine SK rfl rfl rfl rfl rfl ?_
        refine SK rfl rfl rfl rfl rfl ?_
        refine SK rfl rfl rfl rfl rfl ?_
        refine Go.Sx.V rfl wu rfl rfl (pk rfl rfl) ?_
        exact join rfl) (by
        intro hg
        simp at hg
        refine Go.Sx.V rfl (wg rfl rfl) rfl rfl (fad rfl fa73_1) ?_
        refine Go.Sx.V rfl (wg rfl rfl) rfl rfl (ldB rfl na22 hB3) ?_
        refine Go.Sx.V rfl (wg rfl rfl) rfl rfl (lenI rfl ty22 hv) ?_
        refine Go.Sx.V rfl (wg rfl rfl) rfl rfl (gtrI rfl rfl) ?_
        refine Go.Sx.V rfl wu rfl rfl (pk rfl rfl) ?_
        exact join rfl) ?_
    refine wr_nil (post_thenN ?_)
    refine wc_cond rfl ?_ ?_
    · intro h
      refine wc_seq ?_
      refine wc_region [0] rfl ?_
      refine Go.Sx.V rfl wu rfl rfl (asg rfl) ?_
      refine wr_nil (post_thenN (wc_ret (post_thenR ?_)))
      refine post_ret1 rfl rfl ?_
      exact ⟨hE, rfl⟩
    · intro h
      simp at h
      have hn300 : xs.length ≤ 300 := by omega
      refine wc_skip (post_thenN (wc_seq (wc_seq ?_)))
      by_cases hmay : May P ⟨u, v, xs, ys, m, wt, l⟩
      · have hz := hmayE P hmay
        have hmay' := hmay
        obtain ⟨a1, a2, a3, a4, a5, a6, a7, a8, a9⟩ := hmay'
        dsimp only at a1 a2 a3 a4 a5 a6 a7 a8 a9
        obtain ⟨z1, z2, z3, z4, z5, z6, z7, z8, z9⟩ := args_zero.1 hz
        refine wc_region [0,1,2,3,4,5,6,7,8,9,10,11,12,13,14,15,16,17,18,19,20,21,22,23,24,25,26,27,28,29,30,31,32,33,34,35,36,37,38,39,40,41,42,43,44,45,46,47,48,49,50,51,52,53,54,55,56,57,58] rfl ?_
        refine Go.Sx.V rfl wu rfl rfl (ldA rfl ag73 hB3) ?_
        refine Go.Sx.V rfl wu rfl rfl (ldA rfl ag24 hB) ?_
        refine C rfl wu rfl rfl Try.call48 (lMay P mo md ⟨u, v, xs, ys, m, wt, l⟩ _ hF hu hv) ?_
        rintro _ w6 hE6 ⟨t, rfl, ht⟩
        obtain rfl := ht.2 hmay
        replace hX := hX.trans hE6
        replace hB := hB.ext hE6
        replace hB3 := hB3.ext hE6
        refine Go.Sx.V rfl wu rfl rfl (notB rfl) ?_
        refine Go.Sx.V rfl wu rfl rfl (mv rfl) ?_
        refine KB 33 false rfl (by rfl) ?_
        refine SK rfl rfl rfl rfl rfl ?_
        refine SK rfl rfl rfl rfl rfl ?_
        refine SK rfl rfl rfl rfl rfl ?_
        refine SK rfl rfl rfl rfl rfl ?_
        refine SK rfl rfl rfl rfl rfl ?_
        refine Go.Sx.V rfl wu rfl rfl (pk rfl rfl) ?_
        refine Go.Sx.V rfl wu rfl rfl (mv rfl) ?_
        refine KB 40 false rfl (by rfl) ?_
        refine SK rfl rfl rfl rfl rfl ?_
        refine SK rfl rfl rfl rfl rfl ?_
        refine SK rfl rfl rfl rfl rfl ?_
        refine SK rfl rfl rfl rfl rfl ?_
        refine Go.Sx.V rfl wu rfl rfl (pk rfl rfl) ?_
        refine Go.Sx.V rfl wu rfl rfl (mv rfl) ?_
        refine KB 46 false rfl (by rfl) ?_
        refine SK rfl rfl rfl rfl rfl ?_
        refine SK rfl rfl rfl rfl rfl ?_
        refine SK rfl rfl rfl rfl rfl ?_
        refine Go.Sx.V rfl wu rfl rfl (pk rfl rfl) ?_
        refine Go.Sx.V rfl wu rfl rfl (mv rfl) ?_
        refine KB 51 false rfl (by rfl) ?_
        refine SK rfl rfl rfl rfl rfl ?_
        refine SK rfl rfl rfl rfl rfl ?_
        refine SK rfl rfl rfl rfl rfl ?_
        refine Go.Sx.V rfl wu rfl rfl (pk rfl rfl) ?_
        refine Go.Sx.V rfl wu rfl rfl (mv rfl) ?_
        refine KB 56 false rfl (by rfl) ?_
        refine SK rfl rfl rfl rfl rfl ?_
        refine SK rfl rfl rfl rfl rfl ?_
        refine SK rfl rfl rfl rfl rfl ?_
        refine Go.Sx.V rfl wu rfl rfl (pk rfl rfl) ?_
        refine Go.Sx.V rfl wu rfl rfl (mv rfl) ?_
        refine KB 61 false rfl (by rfl) ?_
        refine SK rfl rfl rfl rfl rfl ?_
        refine SK rfl rfl rfl rfl rfl ?_
        refine SK rfl rfl rfl rfl rfl ?_
        refine Go.Sx.V rfl wu rfl rfl (pk rfl rfl) ?_
        refine Go.Sx.V rfl wu rfl rfl (mv rfl) ?_
        refine KB 66 false rfl (by rfl) ?_
        refine SK rfl rfl rfl rfl rfl ?_
        refine SK rfl rfl rfl rfl rfl ?_
        refine SK rfl rfl rfl rfl rfl ?_
        refine Go.Sx.V rfl wu rfl rfl (pk rfl rfl) ?_
        refine Go.Sx.V rfl wu rfl rfl (mv rfl) ?_
        refine KB 71 false rfl (by rfl) ?_
        refine SK rfl rfl rfl rfl rfl ?_
        refine SK rfl rfl rfl rfl rfl ?_
        refine SK rfl rfl rfl rfl rfl ?_
        refine Go.Sx.V rfl wu rfl rfl (pk rfl rfl) ?_
        refine Go.Sx.V rfl wu rfl rfl (mv rfl) ?_
        refine KB 76 false rfl (by rfl) ?_
        refine SK rfl rfl rfl rfl rfl ?_
        refine SK rfl rfl rfl rfl rfl ?_
        refine SK rfl rfl rfl rfl rfl ?_
        refine SK rfl rfl rfl rfl rfl ?_
        refine SK rfl rfl rfl rfl rfl ?_
        refine SK rfl rfl rfl rfl rfl ?_
        refine SK rfl rfl rfl rfl rfl ?_
        refine SK rfl rfl rfl rfl rfl ?_
        refine SK rfl rfl rfl rfl rfl ?_
        refine SK rfl rfl rfl rfl rfl ?_
        refine Go.Sx.V rfl wu rfl rfl (pk rfl rfl) ?_
        refine wr_nil (post_thenN ?_)
        refine wc_condF rfl (by rfl) ?_
        refine wc_skip (post_thenN (wc_seq ?_))
        refine wc_region [0,1,2,3,4,5,6,7,8,9,10,11,12,13,14,15,16] rfl ?_
        refine Go.Sx.V rfl wu rfl rfl (mv rfl) ?_
        refine Go.Sx.V rfl wu rfl rfl (fad rfl fa73_0) ?_
        refine Go.Sx.V rfl wu rfl rfl (ldB rfl na22 hB3) ?_
        refine Go.Sx.V rfl wu rfl rfl (fad rfl fa73_1) ?_
        refine Go.Sx.V rfl wu rfl rfl (ldB rfl na22 hB3) ?_
        refine Go.Sx.V rfl wu rfl rfl (fad rfl fa73_2) ?_
        refine Go.Sx.V rfl wu rfl rfl (ldB rfl na3) ?_
        refine Go.Sx.V rfl wu rfl rfl (fad rfl fa73_3) ?_
        refine Go.Sx.V rfl wu rfl rfl (ldB rfl na3) ?_
        refine Go.Sx.V rfl wu rfl rfl (fad rfl fa73_4) ?_
        refine Go.Sx.V rfl wu rfl rfl (ldB rfl na3) ?_
        refine C rfl wu rfl rfl Try.call50 (bInterp P g u v xs ys m wt l _ (hG.ext hX) (hu.ext hX) (hv.ext hX)) ?_
        rintro dv w7 hE7 hint
        replace hX := hX.trans hE7
        replace hB := hB.ext hE7
        replace hB3 := hB3.ext hE7
        obtain ⟨q, Q, rfl, hq, hip⟩ : ∃ q Q, dv = .tuple #[q, .int .i64 0] ∧ LO w6.heap.size w7 q 22 (bcl Q) ∧ IntP (fun i : Nat => inK P (gi xs i)) (fun i : Nat => inK P (gi ys i)) xs.length m.toNat wt.toNat (l.toNat + 1) Q := hint.elim (fun h => absurd hz h.1) (·.2)
        refine Go.Sx.V rfl wu rfl rfl (mv rfl) ?_
        refine Go.Sx.V rfl wu rfl rfl (ext rfl rfl) ?_
        refine Go.Sx.V rfl wu rfl rfl (ext rfl rfl) ?_
        refine Go.Sx.V rfl wu rfl rfl (asg rfl) ?_
        refine Go.Sx.V rfl wu rfl rfl (asg rfl) ?_
        refine wr_nil (post_thenN (wc_seq (wc_block (wc_seq ?_))))
        have mm0 : 0 ≤ (xs.length : Int) * m := Int.mul_nonneg (by omega) (by omega)
        have mm1 : (xs.length : Int) * m ≤ 8 * 3 := Int.mul_le_mul (by omega) (by omega) (by omega) (by omega)
        have mm2 : (xs.length : Int) * m * (m + 1) ≤ 8 * 3 * 4 := Int.mul_le_mul mm1 (by omega) (by omega) (by omega)
        have mm3 : 0 ≤ (xs.length : Int) * m * (m + 1) := Int.mul_nonneg mm0 (by omega)
        refine wc_region [0,1,2,3,4,5] rfl ?_
        refine Go.Sx.V rfl wu rfl rfl (mv rfl) ?_
        refine Go.Sx.V rfl wu rfl rfl (fad rfl fa73_1) ?_
        refine Go.Sx.V rfl wu rfl rfl (ldB rfl na22 hB3) ?_
        refine Go.Sx.V rfl wu rfl rfl (lenI rfl ty22 (hv.ext hX)) ?_
        refine Go.Sx.V rfl wu rfl rfl (neqI rfl rfl) ?_
        refine Go.Sx.V rfl wu rfl rfl (asg rfl) ?_
        refine wr_nil (post_thenN ?_)
        refine wc_condF rfl (by simp; omega) ?_
        refine wc_seq ?_
        refine wc_region [0,1,2,3,4,5] rfl ?_
        refine Go.Sx.V rfl wu rfl rfl (ldA rfl ag24 hB) ?_
        refine Go.Sx.V rfl wu rfl rfl (fad rfl fa73_0) ?_
        refine Go.Sx.V rfl wu rfl rfl (ldB rfl na22 hB3) ?_
        refine C rfl wu rfl rfl Try.call49 (rDifferent P mo md u xs _ (hF.ext hX) (hu.ext hX)) ?_
        rintro _ w8 hE8 rfl
        replace hX := hX.trans hE8
        replace hB := hB.ext hE8
        replace hB3 := hB3.ext hE8
        replace hq := hq.ext hE8
        refine Go.Sx.V rfl wu rfl rfl (notB rfl) ?_
        refine Go.Sx.V rfl wu rfl rfl (asg rfl) ?_
        refine wr_nil (post_thenN ?_)
        refine wc_condF rfl (by rw [a9]; rfl) ?_
        refine wc_seq ?_
        refine wc_region [0,1,2,3,4,5,6,7,8,9,10,11,12,13,14,15,16,17,18,19,20,21,22,23,24,25,26,27,28] rfl ?_
        refine Go.Sx.V rfl wu rfl rfl (fad rfl fa73_2) ?_
        refine Go.Sx.V rfl wu rfl rfl (ldB rfl na3) ?_
        refine Go.Sx.V rfl wu rfl rfl (lssI rfl rfl) ?_
        refine Go.Sx.V rfl wu rfl rfl (mv rfl) ?_
        refine OR (π1 := [4,5,6,7]) (π2 := [8,9,10,11,12,13,14,15,16,17,18,19,20,21,22,23,24,25,26,27,28]) (tc := 133) (tp := 137) rfl rfl rfl (by
            intro _
            refine SK rfl rfl rfl rfl rfl ?_
            refine SK rfl rfl rfl rfl rfl ?_
            refine SK rfl rfl rfl rfl rfl ?_
            refine Go.Sx.V rfl wu rfl rfl (pk rfl rfl) ?_
            exact join rfl) (by
            intro hg
            simp at hg
            refine Go.Sx.V rfl (wg rfl rfl) rfl rfl (fad rfl fa73_2) ?_
            refine Go.Sx.V rfl (wg rfl rfl) rfl rfl (ldB rfl na3) ?_
            refine Go.Sx.V rfl (wg rfl rfl) rfl rfl (gtrI rfl rfl) ?_
            refine Go.Sx.V rfl wu rfl rfl (pk rfl rfl) ?_
            exact join rfl) ?_
        refine Go.Sx.V rfl wu rfl rfl (mv rfl) ?_
        refine OR (π1 := [9,10,11,12]) (π2 := [13,14,15,16,17,18,19,20,21,22,23,24,25,26,27,28]) (tc := 138) (tp := 142) rfl rfl rfl (by
            intro _
            refine SK rfl rfl rfl rfl rfl ?_
            refine SK rfl rfl rfl rfl rfl ?_
            refine SK rfl rfl rfl rfl rfl ?_
            refine Go.Sx.V rfl wu rfl rfl (pk rfl rfl) ?_
            exact join rfl) (by
            intro hg
            simp at hg
            refine Go.Sx.V rfl (wg rfl rfl) rfl rfl (fad rfl fa73_3) ?_
            refine Go.Sx.V rfl (wg rfl rfl) rfl rfl (ldB rfl na3) ?_
            refine Go.Sx.V rfl (wg rfl rfl) rfl rfl (lssI rfl rfl) ?_
            refine Go.Sx.V rfl wu rfl rfl (pk rfl rfl) ?_
            exact join rfl) ?_
        refine Go.Sx.V rfl wu rfl rfl (mv rfl) ?_
        refine OR (π1 := [14,15,16,17]) (π2 := [18,19,20,21,22,23,24,25,26,27,28]) (tc := 143) (tp := 147) rfl rfl rfl (by
            intro _
            refine SK rfl rfl rfl rfl rfl ?_
            refine SK rfl rfl rfl rfl rfl ?_
            refine SK rfl rfl rfl rfl rfl ?_
            refine Go.Sx.V rfl wu rfl rfl (pk rfl rfl) ?_
            exact join rfl) (by
            intro hg
            simp at hg
            refine Go.Sx.V rfl (wg rfl rfl) rfl rfl (fad rfl fa73_3) ?_
            refine Go.Sx.V rfl (wg rfl rfl) rfl rfl (ldB rfl na3) ?_
            refine Go.Sx.V rfl (wg rfl rfl) rfl rfl (gtrI rfl rfl) ?_
            refine Go.Sx.V rfl wu rfl rfl (pk rfl rfl) ?_
            exact join rfl) ?_
        refine Go.Sx.V rfl wu rfl rfl (mv rfl) ?_
        refine OR (π1 := [19,20,21,22]) (π2 := [23,24,25,26,27,28]) (tc := 148) (tp := 152) rfl rfl rfl (by
            intro _
            refine SK rfl rfl rfl rfl rfl ?_
            refine SK rfl rfl rfl rfl rfl ?_
            refine SK rfl rfl rfl rfl rfl ?_
            refine Go.Sx.V rfl wu rfl rfl (pk rfl rfl) ?_
            exact join rfl) (by
            intro hg
            simp at hg
            refine Go.Sx.V rfl (wg rfl rfl) rfl rfl (fad rfl fa73_4) ?_
            refine Go.Sx.V rfl (wg rfl rfl) rfl rfl (ldB rfl na3) ?_
            refine Go.Sx.V rfl (wg rfl rfl) rfl rfl (lssI rfl rfl) ?_
            refine Go.Sx.V rfl wu rfl rfl (pk rfl rfl) ?_
            exact join rfl) ?_
        refine Go.Sx.V rfl wu rfl rfl (mv rfl) ?_
        refine OR (π1 := [24,25,26,27]) (π2 := [28]) (tc := 153) (tp := 157) rfl rfl rfl (by
            intro _
            refine SK rfl rfl rfl rfl rfl ?_
            refine SK rfl rfl rfl rfl rfl ?_
            refine SK rfl rfl rfl rfl rfl ?_
            refine Go.Sx.V rfl wu rfl rfl (pk rfl rfl) ?_
            exact join rfl) (by
            intro hg
            simp at hg
            refine Go.Sx.V rfl (wg rfl rfl) rfl rfl (fad rfl fa73_4) ?_
            refine Go.Sx.V rfl (wg rfl rfl) rfl rfl (ldB rfl na3) ?_
            refine Go.Sx.V rfl (wg rfl rfl) rfl rfl (gtrI rfl rfl) ?_
            refine Go.Sx.V rfl wu rfl rfl (pk rfl rfl) ?_
            exact join rfl) ?_
        refine Go.Sx.V rfl wu rfl rfl (asg rfl) ?_
        refine wr_nil (post_thenN ?_)
        refine wc_condF rfl (by simp; omega) ?_
        refine wc_seq ?_
        refine wc_region [0,1,2,3,4,5,6,7,8,9,10] rfl ?_
        refine Go.Sx.V rfl wu rfl rfl (mv rfl) ?_
        refine Go.Sx.V rfl wu rfl rfl (fad rfl fa73_2) ?_
        refine Go.Sx.V rfl wu rfl rfl (ldB rfl na3) ?_
        refine Go.Sx.V rfl wu rfl rfl (mulI rfl rfl) ?_
        refine Go.Sx.V rfl wu rfl rfl (fad rfl fa73_2) ?_
        refine Go.Sx.V rfl wu rfl rfl (ldB rfl na3) ?_
        refine Go.Sx.V rfl wu rfl rfl (addI rfl rfl) ?_
        refine Go.Sx.V rfl wu rfl rfl (mulI rfl rfl) ?_
        refine Go.Sx.V rfl wu rfl rfl (quoI rfl rfl) ?_
        refine Go.Sx.V rfl wu rfl rfl (gtrI rfl rfl) ?_
        refine Go.Sx.V rfl wu rfl rfl (asg rfl) ?_
        refine wr_nil (post_thenN ?_)
        refine wc_condF rfl (by simp; omega) ?_
        refine wc_skip (post_blockN (post_thenN (wc_seq (wc_seq ?_))))
        have hql := hq.ll
        obtain ⟨qrs, hqs, hqsl, _⟩ := hql.row
        have hqn : (bcl Q).length ≠ 0 := fun e => hip.ne (bcl_nil.1 (List.eq_nil_of_length_eq_zero e))
        have hqy : (bcl Q).length ≤ l.toNat + 1 := bcl_len hip.yb
        have hnr : xs.length * rs m.toNat m.toNat ≤ 4096 := by
          have h1 := num_conds xs.length m.toNat
          rw [show ((m.toNat : Nat) : Int) = m by omega] at h1
          omega
        have hrb : RB 4097 (bcl Q) := XB.rb (hip.xb.mono (by omega))
        refine wc_region [0,1,2,3,4,5,6,7,8,9,10,11,12,13,14,15,16,17,18,19,20] rfl ?_
        refine Go.Sx.V rfl wu rfl rfl (mv rfl) ?_
        refine Go.Sx.V rfl wu rfl rfl (neqI rfl rfl) ?_
        refine Go.Sx.V rfl wu rfl rfl (mv rfl) ?_
        refine KB 185 false rfl (by rfl) ?_
        refine Go.Sx.V rfl (wg rfl rfl) rfl rfl (mv rfl) ?_
        refine Go.Sx.V rfl (wg rfl rfl) rfl rfl (lenS rfl ty26 hqs) ?_
        refine Go.Sx.V rfl (wg rfl rfl) rfl rfl (eqlI rfl rfl) ?_
        refine Go.Sx.V rfl wu rfl rfl (pk rfl rfl) ?_
        refine Go.Sx.V rfl wu rfl rfl (mv rfl) ?_
        refine KB 190 false rfl (by rw [hqsl]; simp; exact fun e => hqn (by rw [e]; rfl)) ?_
        refine Go.Sx.V rfl (wg rfl rfl) rfl rfl (mv rfl) ?_
        refine Go.Sx.V rfl (wg rfl rfl) rfl rfl (lenS rfl ty26 hqs) ?_
        refine Go.Sx.V rfl (wg rfl rfl) rfl rfl (fad rfl fa73_4) ?_
        refine Go.Sx.V rfl (wg rfl rfl) rfl rfl (ldB rfl na3) ?_
        refine Go.Sx.V rfl (wg rfl rfl) rfl rfl (addI rfl rfl) ?_
        refine Go.Sx.V rfl (wg rfl rfl) rfl rfl (gtrI rfl rfl) ?_
        refine Go.Sx.V rfl wu rfl rfl (pk rfl rfl) ?_
        refine Go.Sx.V rfl wu rfl rfl (mv rfl) ?_
        refine KB 198 false rfl (by rw [hqsl]; simp; omega) ?_
        refine Go.Sx.V rfl (wg rfl rfl) rfl rfl (ldA rfl ag24 hB) ?_
        refine Go.Sx.V rfl (wg rfl rfl) rfl rfl (mv rfl) ?_
        refine C rfl (wg rfl rfl) rfl rfl Try.call51 (lCanonical P mo md q _ _ (hF.ext hX) hql (hrb.mono (by omega)) (by omega)) ?_
        rintro _ w9 hE9 rfl
        replace hX := hX.trans hE9
        replace hB := hB.ext hE9
        replace hB3 := hB3.ext hE9
        replace hql := hql.ext hE9
        refine Go.Sx.V rfl (wg rfl rfl) rfl rfl (notB rfl) ?_
        refine Go.Sx.V rfl wu rfl rfl (pk rfl rfl) ?_
        refine wr_nil (post_thenN ?_)
        refine wc_condF rfl (by rw [bz_bcl]; simp) ?_
        refine wc_skip (post_thenN (wc_seq (wc_seq ?_)))
        refine wc_region [0,1,2,3] rfl ?_
        refine Go.Sx.V rfl wu rfl rfl (fad rfl fa73_0) ?_
        refine Go.Sx.V rfl wu rfl rfl (ldB rfl na22 hB3) ?_
        refine Go.Sx.V rfl wu rfl rfl (lenI rfl ty22 (hu.ext hX)) ?_
        refine Go.Sx.V rfl wu rfl rfl (mv rfl) ?_
        refine wr_nil (post_thenN (wc_block ?_))
        have hX9 := Ext.refl w9
        refine wc_loop (fun i : Nat => [(2, .pointer (some ⟨fb, 0, none⟩)), (3, .pointer (some ⟨cb, 0, none⟩)), (7, q), (206, .int .i64 xs.length), (207, .int .i64 i)])
          (fun i w' => i ≤ xs.length ∧ Ext w5 w' ∧ Ext w9 w') (fun i => xs.length - i) 0 ⟨rfl, rfl, rfl, rfl, rfl, trivial⟩ ⟨by omega, hX, hX9⟩ ?_
        clear hX hX9
        rintro i w10 ⟨i1, hX, hX9⟩
        try dsimp only
        refine wc_seq ?_
        refine wc_region [0] rfl ?_
        refine Go.Sx.V rfl wu rfl rfl (lssI rfl rfl) ?_
        refine wr_nil (post_thenN (wc_seq ?_))
        refine wc_cond rfl ?_ ?_
        · intro hc
          simp at hc
          have hB10 := hB.ext hX9
          have hB310 := hB3.ext hX9
          have hui := hu.ext hX
          have hvi := hv.ext hX
          refine wc_skip (post_thenN (wc_seq (wc_block (wc_seq ?_))))
          refine wc_region [0,1] rfl ?_
          refine Go.Sx.V rfl wu rfl rfl (mv rfl) ?_
          refine Go.Sx.V rfl wu rfl rfl (asg rfl) ?_
          refine wr_nil (post_thenN (wc_seq ?_))
          refine wc_draw mixed [0,1,2,3,4,5,6,7,8,9,10,11,12,13,14,15] (by kernel_rfl) ?_
          intro w11 hd _
          replace hX := hX.trans hd
          replace hX9 := hX9.trans hd
          replace hui := hui.ext hd
          replace hvi := hvi.ext hd
          replace hB10 := hB10.ext hd
          replace hB310 := hB310.ext hd
          refine Go.Sx.V rfl wu rfl rfl (ldA rfl ag24 hB10) ?_
          refine Go.Sx.V rfl wu rfl rfl (mv rfl) ?_
          refine Go.Sx.V rfl wu rfl rfl (fad rfl fa73_0) ?_
          refine Go.Sx.V rfl wu rfl rfl (ldB rfl na22 hB310) ?_
          refine Go.Sx.V rfl wu rfl rfl (mv rfl) ?_
          refine Go.Sx.V rfl wu rfl rfl (iadI rfl rfl ty22 hui (by omega) (by omega)) ?_
          refine Go.Sx.V rfl wu rfl rfl (ldI rfl na3 hui) ?_
          refine Go.Sx.V rfl wu rfl rfl (fad rfl fa73_1) ?_
          refine Go.Sx.V rfl wu rfl rfl (ldB rfl na22 hB310) ?_
          refine Go.Sx.V rfl wu rfl rfl (mv rfl) ?_
          refine Go.Sx.V rfl wu rfl rfl (iadI rfl rfl ty22 hvi (by omega) (by omega)) ?_
          refine Go.Sx.V rfl wu rfl rfl (ldI rfl na3 hvi) ?_
          refine Go.Sx.V rfl wu rfl rfl (fad rfl fa73_2) ?_
          refine Go.Sx.V rfl wu rfl rfl (ldB rfl na3) ?_
          have em : Value.int .i64 m = Value.int .i64 ((m.toNat : Nat) : Int) := by rw [show ((m.toNat : Nat) : Int) = m by omega]
          refine C rfl wu rfl rfl Try.call52 (by have h0 := rAtLeast P mo md q (bcl Q) (gi xs i) (gi ys i) m.toNat 4097 _ (hF.ext hX) (hql.ext hX9) hrb (by omega) (by omega) (by omega); rw [← em] at h0; exact h0) ?_
          rintro _ w12 hE12 ⟨t, rfl, ht⟩
          replace hX := hX.trans hE12
          replace hX9 := hX9.trans hE12
          refine Go.Sx.V rfl wu rfl rfl (notB rfl) ?_
          refine wr_nil (post_thenN ?_)
          rw [bz_bcl] at ht
          obtain rfl : t = true := ht.2 (fun a b hab => hip.van i hc a b hab)
          refine wc_condF rfl (by rfl) ?_
          refine wc_skip (post_blockN (post_thenN ?_))
          refine wc_region [0,1] rfl ?_
          refine Go.Sx.V rfl wu rfl rfl (addI rfl rfl) ?_
          refine Go.Sx.V rfl wu rfl rfl (mv rfl) ?_
          refine wr_nil ?_
          exact post_loopN (i + 1) ⟨rfl, rfl, rfl, rfl, rfl, trivial⟩ ⟨by omega, hX, hX9⟩ (by omega)
        · intro hc
          simp at hc
          refine wc_exit (post_thenE (post_loopE (post_blockX (post_thenN (wc_seq ?_)))))
          refine wc_region [0] rfl ?_
          refine Go.Sx.V rfl wu rfl rfl (asg rfl) ?_
          refine wr_nil (post_thenN (wc_ret ?_))
          refine post_ret1 rfl rfl ?_
          exact ⟨hE.trans hX, rfl⟩
      · have hmm : 1 ≤ m → m ≤ 16 → 0 ≤ (xs.length : Int) * m ∧ (xs.length : Int) * m ≤ 300 * 16 ∧ 0 ≤ (xs.length : Int) * m * (m + 1) ∧ (xs.length : Int) * m * (m + 1) ≤ 300 * 16 * 17 := fun q1 q2 => by
          have mm0 : 0 ≤ (xs.length : Int) * m := Int.mul_nonneg (by omega) (by omega)
          have mm1 : (xs.length : Int) * m ≤ 300 * 16 := Int.mul_le_mul (by omega) (by omega) (by omega) (by omega)
          exact ⟨mm0, mm1, Int.mul_nonneg mm0 (by omega), Int.mul_le_mul mm1 (by omega) (by omega) (by omega)⟩
        refine wc_region [0,1,2,3,4,5,6,7,8,9,10,11,12,13,14,15,16,17,18,19,20,21,22,23,24,25,26,27,28,29,30,31,32,33,34,35,36,37,38,39,40,41,42,43,44,45,46,47,48,49,50,51,52,53,54,55,56,57,58] rfl ?_
        refine Go.Sx.V rfl wu rfl rfl (ldA rfl ag73 hB3) ?_
        refine Go.Sx.V rfl wu rfl rfl (ldA rfl ag24 hB) ?_
        refine C rfl wu rfl rfl Try.call48 (lMay P mo md ⟨u, v, xs, ys, m, wt, l⟩ _ hF hu hv) ?_
        rintro _ w6 hE6 ⟨t, rfl, ht⟩
        obtain rfl : t = false := by cases t; rfl; exact absurd (ht.1 rfl) hmay
        replace hX := hX.trans hE6
        replace hB := hB.ext hE6
        replace hB3 := hB3.ext hE6
        refine Go.Sx.V rfl wu rfl rfl (notB rfl) ?_
        refine Go.Sx.V rfl wu rfl rfl (mv rfl) ?_
        refine KB 33 true rfl (by rfl) ?_
        refine Go.Sx.V rfl (wg rfl rfl) rfl rfl (mv rfl) ?_
        refine Go.Sx.V rfl (wg rfl rfl) rfl rfl (fad rfl fa73_1) ?_
        refine Go.Sx.V rfl (wg rfl rfl) rfl rfl (ldB rfl na22 hB3) ?_
        refine Go.Sx.V rfl (wg rfl rfl) rfl rfl (lenI rfl ty22 (hv.ext hX)) ?_
        refine Go.Sx.V rfl (wg rfl rfl) rfl rfl (eqlI rfl rfl) ?_
        refine Go.Sx.V rfl wu rfl rfl (pk rfl rfl) ?_
        refine Go.Sx.V rfl wu rfl rfl (mv rfl) ?_
        refine ANDX (π1 := [12,13,14,15,16]) (π2 := [17,18,19,20,21,22,23,24,25,26,27,28,29,30,31,32,33,34,35,36,37,38,39,40,41,42,43,44,45,46,47,48,49,50,51,52,53,54,55,56,57,58]) (tc := 40) (tp := 45) rfl rfl rfl (by
            intro hg
            simp at hg
            refine Go.Sx.V rfl (wg rfl rfl) rfl rfl (ldA rfl ag24 hB) ?_
            refine Go.Sx.V rfl (wg rfl rfl) rfl rfl (fad rfl fa73_0) ?_
            refine Go.Sx.V rfl (wg rfl rfl) rfl rfl (ldB rfl na22 hB3) ?_
            refine C rfl (wg rfl rfl) rfl rfl Try.call49 (rDifferent P mo md u xs _ (hF.ext hX) (hu.ext hX)) ?_
            rintro _ w8 hE8 rfl
            refine Go.Sx.V rfl wu rfl rfl (pk rfl rfl) ?_
            exact joinX rfl) (by
            intro _
            refine SK rfl rfl rfl rfl rfl ?_
            refine SK rfl rfl rfl rfl rfl ?_
            refine SK rfl rfl rfl rfl rfl ?_
            refine SK rfl rfl rfl rfl rfl ?_
            refine Go.Sx.V rfl wu rfl rfl (pk rfl rfl) ?_
            exact joinX rfl) ?_
        intro w8 hE8
        replace hX := hX.trans hE8
        replace hB := hB.ext hE8
        replace hB3 := hB3.ext hE8
        refine Go.Sx.V rfl wu rfl rfl (mv rfl) ?_
        refine AND (π1 := [18,19,20,21]) (π2 := [22,23,24,25,26,27,28,29,30,31,32,33,34,35,36,37,38,39,40,41,42,43,44,45,46,47,48,49,50,51,52,53,54,55,56,57,58]) (tc := 46) (tp := 50) rfl rfl rfl (by
            intro hg
            simp at hg
            refine Go.Sx.V rfl (wg rfl rfl) rfl rfl (fad rfl fa73_2) ?_
            refine Go.Sx.V rfl (wg rfl rfl) rfl rfl (ldB rfl na3) ?_
            refine Go.Sx.V rfl (wg rfl rfl) rfl rfl (geqI rfl rfl) ?_
            refine Go.Sx.V rfl wu rfl rfl (pk rfl rfl) ?_
            exact join rfl) (by
            intro _
            refine SK rfl rfl rfl rfl rfl ?_
            refine SK rfl rfl rfl rfl rfl ?_
            refine SK rfl rfl rfl rfl rfl ?_
            refine Go.Sx.V rfl wu rfl rfl (pk rfl rfl) ?_
            exact join rfl) ?_
        refine Go.Sx.V rfl wu rfl rfl (mv rfl) ?_
        refine AND (π1 := [23,24,25,26]) (π2 := [27,28,29,30,31,32,33,34,35,36,37,38,39,40,41,42,43,44,45,46,47,48,49,50,51,52,53,54,55,56,57,58]) (tc := 51) (tp := 55) rfl rfl rfl (by
            intro hg
            simp at hg
            refine Go.Sx.V rfl (wg rfl rfl) rfl rfl (fad rfl fa73_2) ?_
            refine Go.Sx.V rfl (wg rfl rfl) rfl rfl (ldB rfl na3) ?_
            refine Go.Sx.V rfl (wg rfl rfl) rfl rfl (leqI rfl rfl) ?_
            refine Go.Sx.V rfl wu rfl rfl (pk rfl rfl) ?_
            exact join rfl) (by
            intro _
            refine SK rfl rfl rfl rfl rfl ?_
            refine SK rfl rfl rfl rfl rfl ?_
            refine SK rfl rfl rfl rfl rfl ?_
            refine Go.Sx.V rfl wu rfl rfl (pk rfl rfl) ?_
            exact join rfl) ?_
        refine Go.Sx.V rfl wu rfl rfl (mv rfl) ?_
        refine AND (π1 := [28,29,30,31]) (π2 := [32,33,34,35,36,37,38,39,40,41,42,43,44,45,46,47,48,49,50,51,52,53,54,55,56,57,58]) (tc := 56) (tp := 60) rfl rfl rfl (by
            intro hg
            simp at hg
            refine Go.Sx.V rfl (wg rfl rfl) rfl rfl (fad rfl fa73_3) ?_
            refine Go.Sx.V rfl (wg rfl rfl) rfl rfl (ldB rfl na3) ?_
            refine Go.Sx.V rfl (wg rfl rfl) rfl rfl (geqI rfl rfl) ?_
            refine Go.Sx.V rfl wu rfl rfl (pk rfl rfl) ?_
            exact join rfl) (by
            intro _
            refine SK rfl rfl rfl rfl rfl ?_
            refine SK rfl rfl rfl rfl rfl ?_
            refine SK rfl rfl rfl rfl rfl ?_
            refine Go.Sx.V rfl wu rfl rfl (pk rfl rfl) ?_
            exact join rfl) ?_
        refine Go.Sx.V rfl wu rfl rfl (mv rfl) ?_
        refine AND (π1 := [33,34,35,36]) (π2 := [37,38,39,40,41,42,43,44,45,46,47,48,49,50,51,52,53,54,55,56,57,58]) (tc := 61) (tp := 65) rfl rfl rfl (by
            intro hg
            simp at hg
            refine Go.Sx.V rfl (wg rfl rfl) rfl rfl (fad rfl fa73_3) ?_
            refine Go.Sx.V rfl (wg rfl rfl) rfl rfl (ldB rfl na3) ?_
            refine Go.Sx.V rfl (wg rfl rfl) rfl rfl (leqI rfl rfl) ?_
            refine Go.Sx.V rfl wu rfl rfl (pk rfl rfl) ?_
            exact join rfl) (by
            intro _
            refine SK rfl rfl rfl rfl rfl ?_
            refine SK rfl rfl rfl rfl rfl ?_
            refine SK rfl rfl rfl rfl rfl ?_
            refine Go.Sx.V rfl wu rfl rfl (pk rfl rfl) ?_
            exact join rfl) ?_
        refine Go.Sx.V rfl wu rfl rfl (mv rfl) ?_
        refine AND (π1 := [38,39,40,41]) (π2 := [42,43,44,45,46,47,48,49,50,51,52,53,54,55,56,57,58]) (tc := 66) (tp := 70) rfl rfl rfl (by
            intro hg
            simp at hg
            refine Go.Sx.V rfl (wg rfl rfl) rfl rfl (fad rfl fa73_4) ?_
            refine Go.Sx.V rfl (wg rfl rfl) rfl rfl (ldB rfl na3) ?_
            refine Go.Sx.V rfl (wg rfl rfl) rfl rfl (geqI rfl rfl) ?_
            refine Go.Sx.V rfl wu rfl rfl (pk rfl rfl) ?_
            exact join rfl) (by
            intro _
            refine SK rfl rfl rfl rfl rfl ?_
            refine SK rfl rfl rfl rfl rfl ?_
            refine SK rfl rfl rfl rfl rfl ?_
            refine Go.Sx.V rfl wu rfl rfl (pk rfl rfl) ?_
            exact join rfl) ?_
        refine Go.Sx.V rfl wu rfl rfl (mv rfl) ?_
        refine AND (π1 := [43,44,45,46]) (π2 := [47,48,49,50,51,52,53,54,55,56,57,58]) (tc := 71) (tp := 75) rfl rfl rfl (by
            intro hg
            simp at hg
            refine Go.Sx.V rfl (wg rfl rfl) rfl rfl (fad rfl fa73_4) ?_
            refine Go.Sx.V rfl (wg rfl rfl) rfl rfl (ldB rfl na3) ?_
            refine Go.Sx.V rfl (wg rfl rfl) rfl rfl (leqI rfl rfl) ?_
            refine Go.Sx.V rfl wu rfl rfl (pk rfl rfl) ?_
            exact join rfl) (by
            intro _
            refine SK rfl rfl rfl rfl rfl ?_
            refine SK rfl rfl rfl rfl rfl ?_
            refine SK rfl rfl rfl rfl rfl ?_
            refine Go.Sx.V rfl wu rfl rfl (pk rfl rfl) ?_
            exact join rfl) ?_
        refine Go.Sx.V rfl wu rfl rfl (mv rfl) ?_
        refine AND (π1 := [48,49,50,51,52,53,54,55,56,57,58]) (π2 := []) (tc := 76) (tp := 87) rfl rfl rfl (by
            intro hg
            simp at hg
            refine Go.Sx.V rfl (wg rfl rfl) rfl rfl (mv rfl) ?_
            refine Go.Sx.V rfl (wg rfl rfl) rfl rfl (fad rfl fa73_2) ?_
            refine Go.Sx.V rfl (wg rfl rfl) rfl rfl (ldB rfl na3) ?_
            refine Go.Sx.V rfl (wg rfl rfl) rfl rfl (mulI rfl rfl) ?_
            refine Go.Sx.V rfl (wg rfl rfl) rfl rfl (fad rfl fa73_2) ?_
            refine Go.Sx.V rfl (wg rfl rfl) rfl rfl (ldB rfl na3) ?_
            refine Go.Sx.V rfl (wg rfl rfl) rfl rfl (addI rfl rfl) ?_
            refine Go.Sx.V rfl (wg rfl rfl) rfl rfl (mulI rfl rfl) ?_
            refine Go.Sx.V rfl (wg rfl rfl) rfl rfl (quoI rfl rfl) ?_
            refine Go.Sx.V rfl (wg rfl rfl) rfl rfl (leqI rfl rfl) ?_
            refine Go.Sx.V rfl wu rfl rfl (pk rfl rfl) ?_
            exact join rfl) (by
            intro _
            refine SK rfl rfl rfl rfl rfl ?_
            refine SK rfl rfl rfl rfl rfl ?_
            refine SK rfl rfl rfl rfl rfl ?_
            refine SK rfl rfl rfl rfl rfl ?_
            refine SK rfl rfl rfl rfl rfl ?_
            refine SK rfl rfl rfl rfl rfl ?_
            refine SK rfl rfl rfl rfl rfl ?_
            refine SK rfl rfl rfl rfl rfl ?_
            refine SK rfl rfl rfl rfl rfl ?_
            refine SK rfl rfl rfl rfl rfl ?_
            refine Go.Sx.V rfl wu rfl rfl (pk rfl rfl) ?_
            exact join rfl) ?_
        refine wr_nil (post_thenN ?_)
        refine wc_cond rfl ?_ ?_
        · intro hc
          refine wc_seq ?_
          refine wc_region [0] rfl ?_
          refine Go.Sx.V rfl wu rfl rfl (asg rfl) ?_
          refine wr_nil (post_thenN (wc_ret (post_thenR ?_)))
          refine post_ret1 rfl rfl ?_
          exact ⟨hE.trans hX, rfl⟩
        · intro hc
          have hne : argsA P xs ys.length m wt l ≠ 0 := fun h0 => by
            obtain ⟨z1, z2, z3, z4, z5, z6, z7, z8, z9⟩ := args_zero.1 h0
            simp at hc
            exact absurd (hc (by omega) z2 z3 z4 z5 z6 z7 z8) (by omega)
          refine wc_skip (post_thenN (wc_seq ?_))
          refine wc_region [0,1,2,3,4,5,6,7,8,9,10,11,12,13,14,15,16] rfl ?_
          refine Go.Sx.V rfl wu rfl rfl (mv rfl) ?_
          refine Go.Sx.V rfl wu rfl rfl (fad rfl fa73_0) ?_
          refine Go.Sx.V rfl wu rfl rfl (ldB rfl na22 hB3) ?_
          refine Go.Sx.V rfl wu rfl rfl (fad rfl fa73_1) ?_
          refine Go.Sx.V rfl wu rfl rfl (ldB rfl na22 hB3) ?_
          refine Go.Sx.V rfl wu rfl rfl (fad rfl fa73_2) ?_
          refine Go.Sx.V rfl wu rfl rfl (ldB rfl na3) ?_
          refine Go.Sx.V rfl wu rfl rfl (fad rfl fa73_3) ?_
          refine Go.Sx.V rfl wu rfl rfl (ldB rfl na3) ?_
          refine Go.Sx.V rfl wu rfl rfl (fad rfl fa73_4) ?_
          refine Go.Sx.V rfl wu rfl rfl (ldB rfl na3) ?_
          refine C rfl wu rfl rfl Try.call50 (bInterp P g u v xs ys m wt l _ (hG.ext hX) (hu.ext hX) (hv.ext hX)) ?_
          rintro dv w7 hE7 hint
          replace hX := hX.trans hE7
          replace hB := hB.ext hE7
          replace hB3 := hB3.ext hE7
          obtain rfl : dv = .tuple #[.slice none 0 0, .int .i64 (argsA P xs ys.length m wt l)] := hint.elim (·.2) (fun h => absurd h.1 hne)
          refine Go.Sx.V rfl wu rfl rfl (mv rfl) ?_
          refine Go.Sx.V rfl wu rfl rfl (ext rfl rfl) ?_
          refine Go.Sx.V rfl wu rfl rfl (ext rfl rfl) ?_
          refine Go.Sx.V rfl wu rfl rfl (asg rfl) ?_
          refine Go.Sx.V rfl wu rfl rfl (asg rfl) ?_
          refine wr_nil (post_thenN (wc_seq (wc_block (wc_seq ?_))))
          obtain ⟨e, he⟩ : ∃ e, e = argsA P xs ys.length m wt l := ⟨_, rfl⟩
          rw [← he]
          refine wc_region [0,1,2,3,4,5] rfl ?_
          refine Go.Sx.V rfl wu rfl rfl (mv rfl) ?_
          refine Go.Sx.V rfl wu rfl rfl (fad rfl fa73_1) ?_
          refine Go.Sx.V rfl wu rfl rfl (ldB rfl na22 hB3) ?_
          refine Go.Sx.V rfl wu rfl rfl (lenI rfl ty22 (hv.ext hX)) ?_
          refine Go.Sx.V rfl wu rfl rfl (neqI rfl rfl) ?_
          refine Go.Sx.V rfl wu rfl rfl (asg rfl) ?_
          refine wr_nil (post_thenN ?_)
          refine wc_cond rfl ?_ ?_
          · intro h3
            simp at h3
            have he3 : e = 3 := by rw [he, argsA, if_pos (by omega)]
            refine wc_seq ?_
            refine wc_region [0,1,2,3,4,5,6,7] rfl ?_
            refine Go.Sx.V rfl wu rfl rfl (mv rfl) ?_
            refine Go.Sx.V rfl wu rfl rfl (eqlI rfl rfl) ?_
            refine Go.Sx.V rfl wu rfl rfl (mv rfl) ?_
            refine KB 111 true rfl (by rw [he3]; rfl) ?_
            refine Go.Sx.V rfl (wg rfl rfl) rfl rfl (mv rfl) ?_
            refine Go.Sx.V rfl (wg rfl rfl) rfl rfl (lenS rfl ty26 (Sl.nil w7)) ?_
            refine Go.Sx.V rfl (wg rfl rfl) rfl rfl (eqlI rfl rfl) ?_
            refine Go.Sx.V rfl wu rfl rfl (pk rfl rfl) ?_
            refine Go.Sx.V rfl wu rfl rfl (asg rfl) ?_
            refine wr_nil (post_thenN (wc_ret (post_blockR (post_thenR ?_))))
            refine post_ret1 rfl rfl ?_
            exact ⟨hE.trans hX, by simp⟩
          · intro h3
            simp at h3
            refine wc_seq ?_
            refine wc_region [0,1,2,3,4,5] rfl ?_
            refine Go.Sx.V rfl wu rfl rfl (ldA rfl ag24 hB) ?_
            refine Go.Sx.V rfl wu rfl rfl (fad rfl fa73_0) ?_
            refine Go.Sx.V rfl wu rfl rfl (ldB rfl na22 hB3) ?_
            refine C rfl wu rfl rfl Try.call49 (rDifferent P mo md u xs _ (hF.ext hX) (hu.ext hX)) ?_
            rintro _ w9 hE9 rfl
            replace hX := hX.trans hE9
            replace hB := hB.ext hE9
            replace hB3 := hB3.ext hE9
            refine Go.Sx.V rfl wu rfl rfl (notB rfl) ?_
            refine Go.Sx.V rfl wu rfl rfl (asg rfl) ?_
            refine wr_nil (post_thenN ?_)
            refine wc_cond rfl ?_ ?_
            · intro h4
              simp at h4
              have he4 : e = 18 := by rw [he, argsA, if_neg (by omega), if_pos h4]
              refine wc_seq ?_
              refine wc_region [0,1,2,3,4,5,6,7] rfl ?_
              refine Go.Sx.V rfl wu rfl rfl (mv rfl) ?_
              refine Go.Sx.V rfl wu rfl rfl (eqlI rfl rfl) ?_
              refine Go.Sx.V rfl wu rfl rfl (mv rfl) ?_
              refine KB 124 true rfl (by rw [he4]; rfl) ?_
              refine Go.Sx.V rfl (wg rfl rfl) rfl rfl (mv rfl) ?_
              refine Go.Sx.V rfl (wg rfl rfl) rfl rfl (lenS rfl ty26 (Sl.nil w7)) ?_
              refine Go.Sx.V rfl (wg rfl rfl) rfl rfl (eqlI rfl rfl) ?_
              refine Go.Sx.V rfl wu rfl rfl (pk rfl rfl) ?_
              refine Go.Sx.V rfl wu rfl rfl (asg rfl) ?_
              refine wr_nil (post_thenN (wc_ret (post_blockR (post_thenR ?_))))
              refine post_ret1 rfl rfl ?_
              exact ⟨hE.trans hX, by simp⟩
            · intro h4
              simp at h4
              refine wc_seq ?_
              refine wc_region [0,1,2,3,4,5,6,7,8,9,10,11,12,13,14,15,16,17,18,19,20,21,22,23,24,25,26,27,28] rfl ?_
              refine Go.Sx.V rfl wu rfl rfl (fad rfl fa73_2) ?_
              refine Go.Sx.V rfl wu rfl rfl (ldB rfl na3) ?_
              refine Go.Sx.V rfl wu rfl rfl (lssI rfl rfl) ?_
              refine Go.Sx.V rfl wu rfl rfl (mv rfl) ?_
              refine OR (π1 := [4,5,6,7]) (π2 := [8,9,10,11,12,13,14,15,16,17,18,19,20,21,22,23,24,25,26,27,28]) (tc := 133) (tp := 137) rfl rfl rfl (by
                  intro _
                  refine SK rfl rfl rfl rfl rfl ?_
                  refine SK rfl rfl rfl rfl rfl ?_
                  refine SK rfl rfl rfl rfl rfl ?_
                  refine Go.Sx.V rfl wu rfl rfl (pk rfl rfl) ?_
                  exact join rfl) (by
                  intro hg
                  simp at hg
                  refine Go.Sx.V rfl (wg rfl rfl) rfl rfl (fad rfl fa73_2) ?_
                  refine Go.Sx.V rfl (wg rfl rfl) rfl rfl (ldB rfl na3) ?_
                  refine Go.Sx.V rfl (wg rfl rfl) rfl rfl (gtrI rfl rfl) ?_
                  refine Go.Sx.V rfl wu rfl rfl (pk rfl rfl) ?_
                  exact join rfl) ?_
              refine Go.Sx.V rfl wu rfl rfl (mv rfl) ?_
              refine OR (π1 := [9,10,11,12]) (π2 := [13,14,15,16,17,18,19,20,21,22,23,24,25,26,27,28]) (tc := 138) (tp := 142) rfl rfl rfl (by
                  intro _
                  refine SK rfl rfl rfl rfl rfl ?_
                  refine SK rfl rfl rfl rfl rfl ?_
                  refine SK rfl rfl rfl rfl rfl ?_
                  refine Go.Sx.V rfl wu rfl rfl (pk rfl rfl) ?_
                  exact join rfl) (by
                  intro hg
                  simp at hg
                  refine Go.Sx.V rfl (wg rfl rfl) rfl rfl (fad rfl fa73_3) ?_
                  refine Go.Sx.V rfl (wg rfl rfl) rfl rfl (ldB rfl na3) ?_
                  refine Go.Sx.V rfl (wg rfl rfl) rfl rfl (lssI rfl rfl) ?_
                  refine Go.Sx.V rfl wu rfl rfl (pk rfl rfl) ?_
                  exact join rfl) ?_
              refine Go.Sx.V rfl wu rfl rfl (mv rfl) ?_
              refine OR (π1 := [14,15,16,17]) (π2 := [18,19,20,21,22,23,24,25,26,27,28]) (tc := 143) (tp := 147) rfl rfl rfl (by
                  intro _
                  refine SK rfl rfl rfl rfl rfl ?_
                  refine SK rfl rfl rfl rfl rfl ?_
                  refine SK rfl rfl rfl rfl rfl ?_
                  refine Go.Sx.V rfl wu rfl rfl (pk rfl rfl) ?_
                  exact join rfl) (by
                  intro hg
                  simp at hg
                  refine Go.Sx.V rfl (wg rfl rfl) rfl rfl (fad rfl fa73_3) ?_
                  refine Go.Sx.V rfl (wg rfl rfl) rfl rfl (ldB rfl na3) ?_
                  refine Go.Sx.V rfl (wg rfl rfl) rfl rfl (gtrI rfl rfl) ?_
                  refine Go.Sx.V rfl wu rfl rfl (pk rfl rfl) ?_
                  exact join rfl) ?_
              refine Go.Sx.V rfl wu rfl rfl (mv rfl) ?_
              refine OR (π1 := [19,20,21,22]) (π2 := [23,24,25,26,27,28]) (tc := 148) (tp := 152) rfl rfl rfl (by
                  intro _
                  refine SK rfl rfl rfl rfl rfl ?_
                  refine SK rfl rfl rfl rfl rfl ?_
                  refine SK rfl rfl rfl rfl rfl ?_
                  refine Go.Sx.V rfl wu rfl rfl (pk rfl rfl) ?_
                  exact join rfl) (by
                  intro hg
                  simp at hg
                  refine Go.Sx.V rfl (wg rfl rfl) rfl rfl (fad rfl fa73_4) ?_
                  refine Go.Sx.V rfl (wg rfl rfl) rfl rfl (ldB rfl na3) ?_
                  refine Go.Sx.V rfl (wg rfl rfl) rfl rfl (lssI rfl rfl) ?_
                  refine Go.Sx.V rfl wu rfl rfl (pk rfl rfl) ?_
                  exact join rfl) ?_
              refine Go.Sx.V rfl wu rfl rfl (mv rfl) ?_
              refine OR (π1 := [24,25,26,27]) (π2 := [28]) (tc := 153) (tp := 157) rfl rfl rfl (by
                  intro _
                  refine SK rfl rfl rfl rfl rfl ?_
                  refine SK rfl rfl rfl rfl rfl ?_
                  refine SK rfl rfl rfl rfl rfl ?_
                  refine Go.Sx.V rfl wu rfl rfl (pk rfl rfl) ?_
                  exact join rfl) (by
                  intro hg
                  simp at hg
                  refine Go.Sx.V rfl (wg rfl rfl) rfl rfl (fad rfl fa73_4) ?_
                  refine Go.Sx.V rfl (wg rfl rfl) rfl rfl (ldB rfl na3) ?_
                  refine Go.Sx.V rfl (wg rfl rfl) rfl rfl (gtrI rfl rfl) ?_
                  refine Go.Sx.V rfl wu rfl rfl (pk rfl rfl) ?_
                  exact join rfl) ?_
              refine Go.Sx.V rfl wu rfl rfl (asg rfl) ?_
              refine wr_nil (post_thenN ?_)
              refine wc_cond rfl ?_ ?_
              · intro h5
                simp at h5
                have he5 : e = 6 := by rw [he, argsA, if_neg (by omega), if_neg (by rw [h4]; simp), if_pos (by omega)]
                refine wc_seq ?_
                refine wc_region [0,1,2,3,4,5,6,7] rfl ?_
                refine Go.Sx.V rfl wu rfl rfl (mv rfl) ?_
                refine Go.Sx.V rfl wu rfl rfl (eqlI rfl rfl) ?_
                refine Go.Sx.V rfl wu rfl rfl (mv rfl) ?_
                refine KB 160 true rfl (by rw [he5]; rfl) ?_
                refine Go.Sx.V rfl (wg rfl rfl) rfl rfl (mv rfl) ?_
                refine Go.Sx.V rfl (wg rfl rfl) rfl rfl (lenS rfl ty26 (Sl.nil w7)) ?_
                refine Go.Sx.V rfl (wg rfl rfl) rfl rfl (eqlI rfl rfl) ?_
                refine Go.Sx.V rfl wu rfl rfl (pk rfl rfl) ?_
                refine Go.Sx.V rfl wu rfl rfl (asg rfl) ?_
                refine wr_nil (post_thenN (wc_ret (post_blockR (post_thenR ?_))))
                refine post_ret1 rfl rfl ?_
                exact ⟨hE.trans hX, by simp⟩
              · intro h5
                simp at h5
                obtain ⟨q1, q2, q3, q4⟩ := hmm (by omega) (by omega)
                refine wc_seq ?_
                refine wc_region [0,1,2,3,4,5,6,7,8,9,10] rfl ?_
                refine Go.Sx.V rfl wu rfl rfl (mv rfl) ?_
                refine Go.Sx.V rfl wu rfl rfl (fad rfl fa73_2) ?_
                refine Go.Sx.V rfl wu rfl rfl (ldB rfl na3) ?_
                refine Go.Sx.V rfl wu rfl rfl (mulI rfl rfl) ?_
                refine Go.Sx.V rfl wu rfl rfl (fad rfl fa73_2) ?_
                refine Go.Sx.V rfl wu rfl rfl (ldB rfl na3) ?_
                refine Go.Sx.V rfl wu rfl rfl (addI rfl rfl) ?_
                refine Go.Sx.V rfl wu rfl rfl (mulI rfl rfl) ?_
                refine Go.Sx.V rfl wu rfl rfl (quoI rfl rfl) ?_
                refine Go.Sx.V rfl wu rfl rfl (gtrI rfl rfl) ?_
                refine Go.Sx.V rfl wu rfl rfl (asg rfl) ?_
                refine wr_nil (post_thenN ?_)
                refine wc_cond rfl ?_ ?_
                · intro h6
                  simp at h6
                  have he6 : e = 8 := by rw [he, argsA, if_neg (by omega), if_neg (by rw [h4]; simp), if_neg (by omega), if_pos (by omega)]
                  refine wc_seq ?_
                  refine wc_region [0,1,2,3,4,5,6,7] rfl ?_
                  refine Go.Sx.V rfl wu rfl rfl (mv rfl) ?_
                  refine Go.Sx.V rfl wu rfl rfl (eqlI rfl rfl) ?_
                  refine Go.Sx.V rfl wu rfl rfl (mv rfl) ?_
                  refine KB 178 true rfl (by rw [he6]; rfl) ?_
                  refine Go.Sx.V rfl (wg rfl rfl) rfl rfl (mv rfl) ?_
                  refine Go.Sx.V rfl (wg rfl rfl) rfl rfl (lenS rfl ty26 (Sl.nil w7)) ?_
                  refine Go.Sx.V rfl (wg rfl rfl) rfl rfl (eqlI rfl rfl) ?_
                  refine Go.Sx.V rfl wu rfl rfl (pk rfl rfl) ?_
                  refine Go.Sx.V rfl wu rfl rfl (asg rfl) ?_
                  refine wr_nil (post_thenN (wc_ret (post_blockR (post_thenR ?_))))
                  refine post_ret1 rfl rfl ?_
                  exact ⟨hE.trans hX, by simp⟩
                · intro h6
                  simp at h6
                  exact absurd (args_zero.2 ⟨by omega, h4, by omega, by omega, by omega, by omega, by omega, by omega, by omega⟩) hne
namespace FBivariateInterpolates
open Go.ChangeShapes Go.WideShapes Go.ChangeAt Go.RowKit Go.Fr
theorem own : ownKnob Try.prog.godebug = none := by kernel_rfl
theorem laidOut : laidOutB Try.prog = true := by kernel_rfl
set_option maxRecDepth 100000 in
theorem lifted (os : Os) (started : os.Started) (H : Type) (enc : TypeId × Value → H) :
    ReturnsInHanded {} Try.checked os 13 .any (Rows.bivariateInterpolatesSpec.pre6 enc Try.prog Try.f13 Rows.bivariateInterpolatesRow.domain false) (Rows.bivariateInterpolatesSpec.post enc Try.prog Try.f13 false true false false) := by
  refine returnsInHanded_of_change_sized (C := Try.checked) own started (by kernel_rfl) Try.func13
    (ChangeSpec.witness6 (enc := enc) (C := Try.checked) false ⟨#[], #[.agg #[.int .i64 0, .int .i64 0, .slice none 0 0], .agg #[.slice none 0 0, .slice none 0 0, .int .i64 0, .int .i64 0, .int .i64 0]], []⟩ 8 (by kernel_rfl) (by kernel_rfl) (by kernel_rfl) (by kernel_rfl)) ?_
  intro W base args ds gs before hval0 hW _ hsz0 _
  have hval : ∀ (j : Nat) t v, Try.f13.params[j]? = some t → args[j]? = some v → Value.okWide Try.prog W .any base t v := hval0
  have hW' := hW
  obtain ⟨p, q, hA0, hV, rfl, hfz, hnd⟩ := hW
  have hA : DataW.TrodAll enc Try.prog W 0 (fun _ => true) true Try.f13.params.toList args.toList ds p := hA0
  have hsz : (DataW.weightsEach Try.prog (Try.f13.params.toList ++ Rows.bivariateInterpolatesSpec.plain.varTypes Try.prog) (ds ++ gs)).all (· ≤ reachBytes) = true := hsz0
  rw [Try.params13] at hA hval hsz
  obtain ⟨v0, vs0, d0, ds0, p0, q0, hargs, rfl, rfl, h0, r0⟩ := trodAll_cons hA
  obtain ⟨v1, vs1, d1, ds1, p1, q1, rfl, rfl, rfl, h1, r1⟩ := trodAll_cons r0
  obtain ⟨rfl, rfl, rfl⟩ := trodAll_nil r1
  obtain rfl : args = #[v0, v1] := by cases args; simp_all
  obtain ⟨rfl, rfl⟩ := trodVars_none hV
  have k0 := h0
  have lt0 : ∀ x ∈ p0, x.block < W.heap.size := by obtain ⟨m, hm⟩ := k0; exact DataW.trod_lt m _ _ _ hm
  have w0 : WOK Try.prog 24 d0 := wok_arg hsz (j := 0) rfl rfl
  obtain ⟨x0, s0⟩ := op_field (hval 0 24 v0 rfl rfl) h0 w0
  have k1 := h1
  have lt1 : ∀ x ∈ p1, x.block < W.heap.size := by obtain ⟨m, hm⟩ := k1; exact DataW.trod_lt m _ _ _ hm
  have w1 : WOK Try.prog 73 d1 := wok_arg hsz (j := 1) rfl rfl
  obtain ⟨x1, s1⟩ := op_task (hval 1 73 v1 rfl rfl) h1 w1
  refine (law_BivariateInterpolates (w := W) v0 x0 s0 v1 x1 s1).mono fun e W' he => ?_
  cases e with
  | panicked c => exact he.elim
  | outgrown => exact he.elim
  | returned v =>
    obtain ⟨bel, rfl⟩ := he
    exact ⟨_, rfl, _, _, _, [], _, [], hW', trodAll_mk1 (shut_bool Try.underlying4 _), (trodAll_cons_mk (Below.trod laidOut (by kernel_rfl) (of_decide_eq_true (by kernel_rfl)) k0 bel lt0) (trodAll_cons_mk (Below.trod laidOut (by kernel_rfl) (of_decide_eq_true (by kernel_rfl)) k1 bel lt1) trodAll_mk0)), rfl, bel.frame _, fun h => by cases h⟩
theorem over : Rows.bivariateInterpolatesRow.holds Try.pinned (OpenSpec.ofChange Rows.bivariateInterpolatesSpec) :=
  OpenClaim.holds_of_wide 13 Try.f13 rfl rfl rfl rfl rfl rfl rfl ⟨rfl, rfl, rfl, rfl, rfl⟩ rfl rfl rfl rfl rfl (by kernel_rfl) Try.func13 (by kernel_rfl)
    (of_decide_eq_true (by kernel_rfl)) (by unfold Func.isWrapper; first | (rw [if_pos (by decide +kernel)]; kernel_rfl) | (rw [if_neg (by decide +kernel)]; exact ⟨rfl, rfl⟩))
    (fun os started H enc _ => lifted os started H enc)
end FBivariateInterpolates
/-- The statement. -/
theorem bivariateInterpolates_holds : Rows.BivariateInterpolatesSaid := FBivariateInterpolates.over
end Go.Proofs.Ytjpcgjllmpdmhaa
