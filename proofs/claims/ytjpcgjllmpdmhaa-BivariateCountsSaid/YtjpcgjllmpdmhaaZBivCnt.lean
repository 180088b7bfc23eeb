/-
  Statement BivariateCounts: for every description of a field and all arguments the law returns true. No condition.
-/
import Derived.Test.YtjpcgjllmpdmhaaZRKoe
import Derived.Test.YtjpcgjllmpdmhaaZRHas
import Derived.Test.YtjpcgjllmpdmhaaZKoe3
import Derived.Test.YtjpcgjllmpdmhaaRows
namespace Go.Proofs.Ytjpcgjllmpdmhaa
open Go Go.Sx Go.Pl Go.RowKit Go.Fd Go.Alg Go.Fr
set_option maxRecDepth 10000 in
theorem law_BivariateCounts {w : World} (v0 : Value) (r : FRec) (s0 : v0 = r.v ∧ FOf w r) (v1 : Value) (x : TkRec) (s1 : v1 = x.val ∧ Ints w x.u x.xs ∧ Ints w x.v x.ys ∧ Go.Fr.Fits x.M ∧ Go.Fr.Fits x.W ∧ Go.Fr.Fits x.L) (dd0 : Int) (bd : Go.Fr.Fits dd0) :
    Calls Try.prog 15 #[v0, v1, .int .i64 dd0] w (RetX w fun v _ => v = .bool true) := by
  obtain ⟨p, M, mo, md⟩ := r
  obtain ⟨rfl, hr⟩ := s0
  obtain ⟨rfl, hu, hv, hfM, hfW, hfL⟩ := s1
  have hmayE : ∀ P : FP, May P x → argsA P x.xs x.ys.length x.M x.W x.L = 0 := fun P => may_args
  obtain ⟨u, v, xs, ys, m, wt, l⟩ := x
  dsimp only at hu hv hfM hfW hfL hmayE
  refine calls3 Try.func15 rfl rfl ?_
  refine wc_seq ?_
  refine wc_region [0,1,2] rfl ?_
  refine BXA rfl wu rfl rfl ?_
  intro fb w1 hE hB hg
  refine BXA rfl wu rfl rfl ?_
  intro cb w3 hE3 hB3 hg3
  replace hB := hB.ext hE3
  replace hE := hE.trans hE3
  refine Go.Sx.V rfl wu rfl rfl (asg rfl) ?_
  refine wr_nil (post_thenN (wc_seq (wc_seq ?_)))
  refine wc_region [0,1] rfl ?_
  refine C rfl wu rfl rfl Try.call16 (lAlive _) ?_
  rintro _ w4 hE4 rfl
  replace hB := hB.ext hE4
  replace hB3 := hB3.ext hE4
  replace hE := hE.trans hE4
  refine Go.Sx.V rfl wu rfl rfl (notB rfl) ?_
  refine wr_nil (post_thenN ?_)
  refine wc_condF rfl (by simp) ?_
  refine wc_skip (post_thenN (wc_seq ?_))
  have hmi := hr.ints.ext hE
  dsimp only at hmi hB hB3
  refine wc_region [0,1,2] rfl ?_
  refine Go.Sx.V rfl wu rfl rfl (ldA rfl ag24) ?_
  refine C rfl wu rfl rfl Try.call17 (lMade p M mo md _ hmi) ?_
  rintro g w5 hE5 hm
  replace hB := hB.ext hE5
  replace hB3 := hB3.ext hE5
  replace hE := hE.trans hE5
  refine Go.Sx.V rfl wu rfl rfl (asg rfl) ?_
  refine wr_nil (post_thenN (wc_seq (wc_seq ?_)))
  replace hmi := hmi.ext hE5
  replace hu := hu.ext hE
  replace hv := hv.ext hE
  have hX := Ext.refl w5
  have hxle := hu.le
  rcases made_split hm hmi with rfl | ⟨P, hp, hM, hF, hG⟩
  · skip
    refine wc_draw mixed [0,1,2,3,4,5,6,7,8,9,10,11,12,13,14,15,16,17,18,19,20,21,23,24,25,26,27,28,29,30,31,32,33,22,34,35] (by kernel_rfl) ?_
    intro w6 hd _
    replace hX := hX.trans hd
    refine Go.Sx.V rfl wu rfl rfl (mv rfl) ?_
    refine Go.Sx.V rfl wu rfl rfl (eqlPn rfl rfl Try.underlying28) ?_
    refine Go.Sx.V rfl wu rfl rfl (mv rfl) ?_
    refine KB 16 true rfl (by rfl) ?_
    refine SK rfl rfl rfl rfl rfl ?_
    refine SK rfl rfl rfl rfl rfl ?_
    refine SK rfl rfl rfl rfl rfl ?_
    refine SK rfl rfl rfl rfl rfl ?_
    refine Go.Sx.V rfl wu rfl rfl (pk rfl rfl) ?_
    refine Go.Sx.V rfl wu rfl rfl (mv rfl) ?_
    refine KB 22 true rfl (by rfl) ?_
    refine SK rfl rfl rfl rfl rfl ?_
    refine SK rfl rfl rfl rfl rfl ?_
    refine Go.Sx.V rfl wu rfl rfl (pk rfl rfl) ?_
    refine Go.Sx.V rfl wu rfl rfl (mv rfl) ?_
    refine KB 26 true rfl (by rfl) ?_
    refine SK rfl rfl rfl rfl rfl ?_
    refine SK rfl rfl rfl rfl rfl ?_
    refine Go.Sx.V rfl wu rfl rfl (pk rfl rfl) ?_
    refine Go.Sx.V rfl wu rfl rfl (mv rfl) ?_
    refine KB 30 true rfl (by rfl) ?_
    refine SK rfl rfl rfl rfl rfl ?_
    refine SK rfl rfl rfl rfl rfl ?_
    refine SK rfl rfl rfl rfl rfl ?_
    refine SK rfl rfl rfl rfl rfl ?_
    refine SK rfl rfl rfl rfl rfl ?_
    refine SK rfl rfl rfl rfl rfl ?_
    refine SK rfl rfl rfl rfl rfl ?_
    refine SK rfl rfl rfl rfl rfl ?_
    refine SK rfl rfl rfl rfl rfl ?_
    refine SK rfl rfl rfl rfl rfl ?_
    refine SK rfl rfl rfl rfl rfl ?_
    refine SK rfl rfl rfl rfl rfl ?_
    refine SK rfl rfl rfl rfl rfl ?_
    refine SK rfl rfl rfl rfl rfl ?_
    refine SK rfl rfl rfl rfl rfl ?_
    refine SK rfl rfl rfl rfl rfl ?_
    refine SK rfl rfl rfl rfl rfl ?_
    refine SK rfl rfl rfl rfl rfl ?_
    refine Go.Sx.V rfl wu rfl rfl (pk rfl rfl) ?_
    refine wr_nil (post_thenN ?_)
    refine wc_condT rfl (by simp) ?_
    refine wc_seq ?_
    refine wc_region [0] rfl ?_
    refine Go.Sx.V rfl wu rfl rfl (asg rfl) ?_
    refine wr_nil (post_thenN (wc_ret (post_thenR ?_)))
    refine post_ret1 rfl rfl ?_
    exact ⟨hE.trans hX, rfl⟩
  · subst hp hM
    obtain ⟨ga, hga⟩ := hG.ptr
    by_cases hmay : May P ⟨u, v, xs, ys, m, wt, l⟩
    · have hz := hmayE P hmay
      have hmay' := hmay
      obtain ⟨a1, a2, a3, a4, a5, a6, a7, a8, a9⟩ := hmay'
      dsimp only at a1 a2 a3 a4 a5 a6 a7 a8 a9
      by_cases hlo : dd0 < 0
      · skip
        refine wc_draw mixed [0,1,2,3,4,5,6,7,8,9,10,11,12,13,14,15,16,17,18,19,20,21,23,24,25,26,27,28,29,30,31,32,33,22,34,35] (by kernel_rfl) ?_
        intro w6 hd _
        replace hX := hX.trans hd
        replace hB := hB.ext hd
        replace hB3 := hB3.ext hd
        refine Go.Sx.V rfl wu rfl rfl (mv rfl) ?_
        rw [hga]
        refine Go.Sx.V rfl wu rfl rfl (eqlPn rfl rfl Try.underlying28) ?_
        rw [← hga]
        refine Go.Sx.V rfl wu rfl rfl (mv rfl) ?_
        refine KB 16 false rfl (by rfl) ?_
        refine Go.Sx.V rfl (wg rfl rfl) rfl rfl (ldA rfl ag73 hB3) ?_
        refine Go.Sx.V rfl (wg rfl rfl) rfl rfl (ldA rfl ag24 hB) ?_
        refine C rfl (wg rfl rfl) rfl rfl Try.call48 (lMay P mo md ⟨u, v, xs, ys, m, wt, l⟩ _ (hF.ext hX) (hu.ext hX) (hv.ext hX)) ?_
        rintro _ w7 hE7 ⟨t, rfl, ht⟩
        obtain rfl := ht.2 hmay
        replace hX := hX.trans hE7
        replace hB := hB.ext hE7
        replace hB3 := hB3.ext hE7
        refine Go.Sx.V rfl (wg rfl rfl) rfl rfl (notB rfl) ?_
        refine Go.Sx.V rfl wu rfl rfl (pk rfl rfl) ?_
        refine Go.Sx.V rfl wu rfl rfl (mv rfl) ?_
        refine KB 22 false rfl (by rfl) ?_
        refine Go.Sx.V rfl (wg rfl rfl) rfl rfl (mv rfl) ?_
        refine Go.Sx.V rfl (wg rfl rfl) rfl rfl (lssI rfl rfl) ?_
        refine Go.Sx.V rfl wu rfl rfl (pk rfl rfl) ?_
        refine Go.Sx.V rfl wu rfl rfl (mv rfl) ?_
        refine KB 26 true rfl (by simp [hlo]) ?_
        refine SK rfl rfl rfl rfl rfl ?_
        refine SK rfl rfl rfl rfl rfl ?_
        refine Go.Sx.V rfl wu rfl rfl (pk rfl rfl) ?_
        refine Go.Sx.V rfl wu rfl rfl (mv rfl) ?_
        refine KB 30 true rfl (by simp [hlo]) ?_
        refine SK rfl rfl rfl rfl rfl ?_
        refine SK rfl rfl rfl rfl rfl ?_
        refine SK rfl rfl rfl rfl rfl ?_
        refine SK rfl rfl rfl rfl rfl ?_
        refine SK rfl rfl rfl rfl rfl ?_
        refine SK rfl rfl rfl rfl rfl ?_
        refine SK rfl rfl rfl rfl rfl ?_
        refine SK rfl rfl rfl rfl rfl ?_
        refine SK rfl rfl rfl rfl rfl ?_
        refine SK rfl rfl rfl rfl rfl ?_
        refine SK rfl rfl rfl rfl rfl ?_
        refine SK rfl rfl rfl rfl rfl ?_
        refine SK rfl rfl rfl rfl rfl ?_
        refine SK rfl rfl rfl rfl rfl ?_
        refine SK rfl rfl rfl rfl rfl ?_
        refine SK rfl rfl rfl rfl rfl ?_
        refine SK rfl rfl rfl rfl rfl ?_
        refine SK rfl rfl rfl rfl rfl ?_
        refine Go.Sx.V rfl wu rfl rfl (pk rfl rfl) ?_
        refine wr_nil (post_thenN ?_)
        refine wc_condT rfl (by simp [hlo]) ?_
        refine wc_seq ?_
        refine wc_region [0] rfl ?_
        refine Go.Sx.V rfl wu rfl rfl (asg rfl) ?_
        refine wr_nil (post_thenN (wc_ret (post_thenR ?_)))
        refine post_ret1 rfl rfl ?_
        exact ⟨hE.trans hX, rfl⟩
      · by_cases hhi : 1000 < dd0
        · skip
          refine wc_draw mixed [0,1,2,3,4,5,6,7,8,9,10,11,12,13,14,15,16,17,18,19,20,21,23,24,25,26,27,28,29,30,31,32,33,22,34,35] (by kernel_rfl) ?_
          intro w6 hd _
          replace hX := hX.trans hd
          replace hB := hB.ext hd
          replace hB3 := hB3.ext hd
          refine Go.Sx.V rfl wu rfl rfl (mv rfl) ?_
          rw [hga]
          refine Go.Sx.V rfl wu rfl rfl (eqlPn rfl rfl Try.underlying28) ?_
          rw [← hga]
          refine Go.Sx.V rfl wu rfl rfl (mv rfl) ?_
          refine KB 16 false rfl (by rfl) ?_
          refine Go.Sx.V rfl (wg rfl rfl) rfl rfl (ldA rfl ag73 hB3) ?_
          refine Go.Sx.V rfl (wg rfl rfl) rfl rfl (ldA rfl ag24 hB) ?_
          refine C rfl (wg rfl rfl) rfl rfl Try.call48 (lMay P mo md ⟨u, v, xs, ys, m, wt, l⟩ _ (hF.ext hX) (hu.ext hX) (hv.ext hX)) ?_
          rintro _ w7 hE7 ⟨t, rfl, ht⟩
          obtain rfl := ht.2 hmay
          replace hX := hX.trans hE7
          replace hB := hB.ext hE7
          replace hB3 := hB3.ext hE7
          refine Go.Sx.V rfl (wg rfl rfl) rfl rfl (notB rfl) ?_
          refine Go.Sx.V rfl wu rfl rfl (pk rfl rfl) ?_
          refine Go.Sx.V rfl wu rfl rfl (mv rfl) ?_
          refine KB 22 false rfl (by rfl) ?_
          refine Go.Sx.V rfl (wg rfl rfl) rfl rfl (mv rfl) ?_
          refine Go.Sx.V rfl (wg rfl rfl) rfl rfl (lssI rfl rfl) ?_
          refine Go.Sx.V rfl wu rfl rfl (pk rfl rfl) ?_
          refine Go.Sx.V rfl wu rfl rfl (mv rfl) ?_
          refine KB 26 false rfl (by simp [hlo]) ?_
          refine Go.Sx.V rfl (wg rfl rfl) rfl rfl (mv rfl) ?_
          refine Go.Sx.V rfl (wg rfl rfl) rfl rfl (gtrI rfl rfl) ?_
          refine Go.Sx.V rfl wu rfl rfl (pk rfl rfl) ?_
          refine Go.Sx.V rfl wu rfl rfl (mv rfl) ?_
          refine KB 30 true rfl (by simp [hhi]) ?_
          refine SK rfl rfl rfl rfl rfl ?_
          refine SK rfl rfl rfl rfl rfl ?_
          refine SK rfl rfl rfl rfl rfl ?_
          refine SK rfl rfl rfl rfl rfl ?_
          refine SK rfl rfl rfl rfl rfl ?_
          refine SK rfl rfl rfl rfl rfl ?_
          refine SK rfl rfl rfl rfl rfl ?_
          refine SK rfl rfl rfl rfl rfl ?_
          refine SK rfl rfl rfl rfl rfl ?_
          refine SK rfl rfl rfl rfl rfl ?_
          refine SK rfl rfl rfl rfl rfl ?_
          refine SK rfl rfl rfl rfl rfl ?_
          refine SK rfl rfl rfl rfl rfl ?_
          refine SK rfl rfl rfl rfl rfl ?_
          refine SK rfl rfl rfl rfl rfl ?_
          refine SK rfl rfl rfl rfl rfl ?_
          refine SK rfl rfl rfl rfl rfl ?_
          refine SK rfl rfl rfl rfl rfl ?_
          refine Go.Sx.V rfl wu rfl rfl (pk rfl rfl) ?_
          refine wr_nil (post_thenN ?_)
          refine wc_condT rfl (by simp [hhi]) ?_
          refine wc_seq ?_
          refine wc_region [0] rfl ?_
          refine Go.Sx.V rfl wu rfl rfl (asg rfl) ?_
          refine wr_nil (post_thenN (wc_ret (post_thenR ?_)))
          refine post_ret1 rfl rfl ?_
          exact ⟨hE.trans hX, rfl⟩
        · have mm0 : 0 ≤ (xs.length : Int) * m := Int.mul_nonneg (by omega) (by omega)
          have mm1 : (xs.length : Int) * m ≤ 8 * 3 := Int.mul_le_mul (by omega) (by omega) (by omega) (by omega)
          have mm2 : (xs.length : Int) * m * (m + 1) ≤ 8 * 3 * 4 := Int.mul_le_mul mm1 (by omega) (by omega) (by omega)
          have mm3 : 0 ≤ (xs.length : Int) * m * (m + 1) := Int.mul_nonneg mm0 (by omega)
          have ew : Value.int .i64 wt = Value.int .i64 ((wt.toNat : Nat) : Int) := by rw [show ((wt.toNat : Nat) : Int) = wt by omega]
          have el : Value.int .i64 l = Value.int .i64 ((l.toNat : Nat) : Int) := by rw [show ((l.toNat : Nat) : Int) = l by omega]
          have ed : Value.int .i64 dd0 = Value.int .i64 ((dd0.toNat : Nat) : Int) := by rw [show ((dd0.toNat : Nat) : Int) = dd0 by omega]
          refine wc_draw mixed [0,1,2,3,4,5,6,7,8,9,10,11,12,13,14,15,16,17,18,19,20,21,23,24,25,26,27,28,29,30,31,32,33,22,34,35] (by kernel_rfl) ?_
          intro w6 hd _
          replace hX := hX.trans hd
          replace hB := hB.ext hd
          replace hB3 := hB3.ext hd
          refine Go.Sx.V rfl wu rfl rfl (mv rfl) ?_
          rw [hga]
          refine Go.Sx.V rfl wu rfl rfl (eqlPn rfl rfl Try.underlying28) ?_
          rw [← hga]
          refine Go.Sx.V rfl wu rfl rfl (mv rfl) ?_
          refine KB 16 false rfl (by rfl) ?_
          refine Go.Sx.V rfl (wg rfl rfl) rfl rfl (ldA rfl ag73 hB3) ?_
          refine Go.Sx.V rfl (wg rfl rfl) rfl rfl (ldA rfl ag24 hB) ?_
          refine C rfl (wg rfl rfl) rfl rfl Try.call48 (lMay P mo md ⟨u, v, xs, ys, m, wt, l⟩ _ (hF.ext hX) (hu.ext hX) (hv.ext hX)) ?_
          rintro _ w7 hE7 ⟨t, rfl, ht⟩
          obtain rfl := ht.2 hmay
          replace hX := hX.trans hE7
          replace hB := hB.ext hE7
          replace hB3 := hB3.ext hE7
          refine Go.Sx.V rfl (wg rfl rfl) rfl rfl (notB rfl) ?_
          refine Go.Sx.V rfl wu rfl rfl (pk rfl rfl) ?_
          refine Go.Sx.V rfl wu rfl rfl (mv rfl) ?_
          refine KB 22 false rfl (by rfl) ?_
          refine Go.Sx.V rfl (wg rfl rfl) rfl rfl (mv rfl) ?_
          refine Go.Sx.V rfl (wg rfl rfl) rfl rfl (lssI rfl rfl) ?_
          refine Go.Sx.V rfl wu rfl rfl (pk rfl rfl) ?_
          refine Go.Sx.V rfl wu rfl rfl (mv rfl) ?_
          refine KB 26 false rfl (by simp [hlo]) ?_
          refine Go.Sx.V rfl (wg rfl rfl) rfl rfl (mv rfl) ?_
          refine Go.Sx.V rfl (wg rfl rfl) rfl rfl (gtrI rfl rfl) ?_
          refine Go.Sx.V rfl wu rfl rfl (pk rfl rfl) ?_
          refine Go.Sx.V rfl wu rfl rfl (mv rfl) ?_
          refine KB 30 false rfl (by simp [hhi]) ?_
          refine Go.Sx.V rfl (wg rfl rfl) rfl rfl (fad rfl fa73_3) ?_
          refine Go.Sx.V rfl (wg rfl rfl) rfl rfl (ldB rfl na3) ?_
          refine Go.Sx.V rfl (wg rfl rfl) rfl rfl (fad rfl fa73_4) ?_
          refine Go.Sx.V rfl (wg rfl rfl) rfl rfl (ldB rfl na3) ?_
          refine Go.Sx.V rfl (wg rfl rfl) rfl rfl (mv rfl) ?_
          refine Go.Sx.V rfl (wg rfl rfl) rfl rfl (fad rfl fa73_0) ?_
          refine Go.Sx.V rfl (wg rfl rfl) rfl rfl (ldB rfl na22 hB3) ?_
          refine Go.Sx.V rfl (wg rfl rfl) rfl rfl (lenI rfl ty22 (hu.ext hX)) ?_
          refine Go.Sx.V rfl (wg rfl rfl) rfl rfl (fad rfl fa73_2) ?_
          refine Go.Sx.V rfl (wg rfl rfl) rfl rfl (ldB rfl na3) ?_
          refine Go.Sx.V rfl (wg rfl rfl) rfl rfl (mulI rfl rfl) ?_
          refine Go.Sx.V rfl (wg rfl rfl) rfl rfl (fad rfl fa73_2) ?_
          refine Go.Sx.V rfl (wg rfl rfl) rfl rfl (ldB rfl na3) ?_
          refine Go.Sx.V rfl (wg rfl rfl) rfl rfl (addI rfl rfl) ?_
          refine Go.Sx.V rfl (wg rfl rfl) rfl rfl (mulI rfl rfl) ?_
          refine Go.Sx.V rfl (wg rfl rfl) rfl rfl (quoI rfl rfl) ?_
          refine C rfl (wg rfl rfl) rfl rfl Try.call53 (by have h0 := rTerms wt.toNat l.toNat dd0.toNat w7 (by omega) (by omega) (by omega); rw [← ew, ← el, ← ed] at h0; exact h0) ?_
          rintro _ w8 hE8 rfl
          replace hX := hX.trans hE8
          replace hB := hB.ext hE8
          replace hB3 := hB3.ext hE8
          refine Go.Sx.V rfl (wg rfl rfl) rfl rfl (leqI rfl rfl) ?_
          refine Go.Sx.V rfl wu rfl rfl (pk rfl rfl) ?_
          refine wr_nil (post_thenN ?_)
          refine wc_cond rfl ?_ ?_
          · intro hc
            refine wc_seq ?_
            refine wc_region [0] rfl ?_
            refine Go.Sx.V rfl wu rfl rfl (asg rfl) ?_
            refine wr_nil (post_thenN (wc_ret (post_thenR ?_)))
            refine post_ret1 rfl rfl ?_
            exact ⟨hE.trans hX, rfl⟩
          · intro hc
            simp at hc
            have hnum := num_conds xs.length m.toNat
            rw [show ((m.toNat : Nat) : Int) = m by omega] at hnum
            have hnr : xs.length * rs m.toNat m.toNat ≤ 4096 := by
              have h2 := (args_zero.1 hz).2.2.2.2.2.2.2.2
              omega
            refine wc_skip (post_thenN (wc_seq ?_))
            refine wc_region [0,1,2,3,4,5,6,7,8,9,10,11,12,13,14,15,16] rfl ?_
            refine Go.Sx.V rfl wu rfl rfl (mv rfl) ?_
            refine Go.Sx.V rfl wu rfl rfl (fad rfl fa73_0) ?_
            refine Go.Sx.V rfl wu rfl rfl (ldB rfl na22 hB3) ?_
            refine Go.Sx.V rfl wu rfl rfl (fad rfl fa73_1) ?_
            refine Go.Sx.V rfl wu rfl rfl (ldB rfl na22 hB3) ?_
            refine Go.Sx.V rfl wu rfl rfl (fad rfl fa73_2) ?_
            refine Go.Sx.V rfl wu rfl rfl (ldB rfl na3) ?_
            refine Go.Sx.V rfl wu rfl rfl (fad rfl fa73_3) ?_
            refine Go.Sx.V rfl wu rfl rfl (ldB rfl na3) ?_
            refine Go.Sx.V rfl wu rfl rfl (fad rfl fa73_4) ?_
            refine Go.Sx.V rfl wu rfl rfl (ldB rfl na3) ?_
            refine C rfl wu rfl rfl Try.call50 (bInterp P g u v xs ys m wt l _ (hG.ext hX) (hu.ext hX) (hv.ext hX)) ?_
            rintro dv w15 hE15 hint
            replace hX := hX.trans hE15
            replace hB := hB.ext hE15
            replace hB3 := hB3.ext hE15
            obtain ⟨q, Q, rfl, hq2, hip⟩ : ∃ q Q, dv = .tuple #[q, .int .i64 0] ∧ LO w8.heap.size w15 q 22 (bcl Q) ∧ IntP (fun i : Nat => inK P (gi xs i)) (fun i : Nat => inK P (gi ys i)) xs.length m.toNat wt.toNat (l.toNat + 1) Q := hint.elim (fun h => absurd hz h.1) (·.2)
            refine Go.Sx.V rfl wu rfl rfl (mv rfl) ?_
            refine Go.Sx.V rfl wu rfl rfl (ext rfl rfl) ?_
            refine Go.Sx.V rfl wu rfl rfl (ext rfl rfl) ?_
            refine Go.Sx.V rfl wu rfl rfl (asg rfl) ?_
            refine Go.Sx.V rfl wu rfl rfl (asg rfl) ?_
            refine wr_nil (post_thenN (wc_seq ?_))
            have hqn : (bcl Q).length ≠ 0 := fun e => hip.ne (bcl_nil.1 (List.eq_nil_of_length_eq_zero e))
            have hqy : (bcl Q).length ≤ l.toNat + 1 := bcl_len hip.yb
            have hrb : RB 4097 (bcl Q) := XB.rb (hip.xb.mono (by omega))
            have hql := hq2.ll
            have hle := hip.small dd0.toNat (by omega)
            rw [show ((wt.toNat : Nat) : Int) = wt by omega, show ((dd0.toNat : Nat) : Int) = dd0 by omega] at hle
            have hql0 := hql
            obtain ⟨qrs, hqs, hqsl, _⟩ := hql0.row
            refine wc_region [0,1,2,3,4,5,6,7,8,9,10,11,12,13,14,15,16] rfl ?_
            refine Go.Sx.V rfl wu rfl rfl (mv rfl) ?_
            refine Go.Sx.V rfl wu rfl rfl (eqlI rfl rfl) ?_
            refine Go.Sx.V rfl wu rfl rfl (mv rfl) ?_
            refine KB 67 true rfl (by rfl) ?_
            refine Go.Sx.V rfl (wg rfl rfl) rfl rfl (mv rfl) ?_
            refine Go.Sx.V rfl (wg rfl rfl) rfl rfl (lenS rfl ty26 hqs) ?_
            refine Go.Sx.V rfl (wg rfl rfl) rfl rfl (gtrI rfl rfl) ?_
            refine Go.Sx.V rfl wu rfl rfl (pk rfl rfl) ?_
            refine Go.Sx.V rfl wu rfl rfl (mv rfl) ?_
            refine KB 72 true rfl (by rw [hqsl]; simp; omega) ?_
            refine Go.Sx.V rfl (wg rfl rfl) rfl rfl (ldA rfl ag24 hB) ?_
            refine Go.Sx.V rfl (wg rfl rfl) rfl rfl (mv rfl) ?_
            refine Go.Sx.V rfl (wg rfl rfl) rfl rfl (fad rfl fa73_3) ?_
            refine Go.Sx.V rfl (wg rfl rfl) rfl rfl (ldB rfl na3) ?_
            refine C rfl (wg rfl rfl) rfl rfl Try.call27 (rBDegree P mo md q _ wt 4097 _ (hF.ext hX) hql ⟨by omega, by omega⟩ hrb (by omega) (by omega)) ?_
            rintro _ w17 hE17 rfl
            replace hX := hX.trans hE17
            refine Go.Sx.V rfl (wg rfl rfl) rfl rfl (mv rfl) ?_
            refine Go.Sx.V rfl (wg rfl rfl) rfl rfl (leqI rfl rfl) ?_
            refine Go.Sx.V rfl wu rfl rfl (pk rfl rfl) ?_
            refine Go.Sx.V rfl wu rfl rfl (asg rfl) ?_
            refine wr_nil (post_thenN (wc_ret ?_))
            refine post_ret1 rfl rfl ?_
            refine ⟨hE.trans hX, ?_⟩
            rw [bz_bcl, decide_eq_true hle]
    · skip
      refine wc_draw mixed [0,1,2,3,4,5,6,7,8,9,10,11,12,13,14,15,16,17,18,19,20,21,23,24,25,26,27,28,29,30,31,32,33,22,34,35] (by kernel_rfl) ?_
      intro w6 hd _
      replace hX := hX.trans hd
      replace hB := hB.ext hd
      replace hB3 := hB3.ext hd
      refine Go.Sx.V rfl wu rfl rfl (mv rfl) ?_
      rw [hga]
      refine Go.Sx.V rfl wu rfl rfl (eqlPn rfl rfl Try.underlying28) ?_
      rw [← hga]
      refine Go.Sx.V rfl wu rfl rfl (mv rfl) ?_
      refine KB 16 false rfl (by rfl) ?_
      refine Go.Sx.V rfl (wg rfl rfl) rfl rfl (ldA rfl ag73 hB3) ?_
      refine Go.Sx.V rfl (wg rfl rfl) rfl rfl (ldA rfl ag24 hB) ?_
      refine C rfl (wg rfl rfl) rfl rfl Try.call48 (lMay P mo md ⟨u, v, xs, ys, m, wt, l⟩ _ (hF.ext hX) (hu.ext hX) (hv.ext hX)) ?_
      rintro _ w7 hE7 ⟨t, rfl, ht⟩
      obtain rfl : t = false := by cases t; rfl; exact absurd (ht.1 rfl) hmay
      replace hX := hX.trans hE7
      refine Go.Sx.V rfl (wg rfl rfl) rfl rfl (notB rfl) ?_
      refine Go.Sx.V rfl wu rfl rfl (pk rfl rfl) ?_
      refine Go.Sx.V rfl wu rfl rfl (mv rfl) ?_
      refine KB 22 true rfl (by rfl) ?_
      refine SK rfl rfl rfl rfl rfl ?_
      refine SK rfl rfl rfl rfl rfl ?_
      refine Go.Sx.V rfl wu rfl rfl (pk rfl rfl) ?_
      refine Go.Sx.V rfl wu rfl rfl (mv rfl) ?_
      refine KB 26 true rfl (by rfl) ?_
      refine SK rfl rfl rfl rfl rfl ?_
      refine SK rfl rfl rfl rfl rfl ?_
      refine Go.Sx.V rfl wu rfl rfl (pk rfl rfl) ?_
      refine Go.Sx.V rfl wu rfl rfl (mv rfl) ?_
      refine KB 30 true rfl (by rfl) ?_
      refine SK rfl rfl rfl rfl rfl ?_
      refine SK rfl rfl rfl rfl rfl ?_
      refine SK rfl rfl rfl rfl rfl ?_
      refine SK rfl rfl rfl rfl rfl ?_
      refine SK rfl rfl rfl rfl rfl ?_
      refine SK rfl rfl rfl rfl rfl ?_
      refine SK rfl rfl rfl rfl rfl ?_
      refine SK rfl rfl rfl rfl rfl ?_
      refine SK rfl rfl rfl rfl rfl ?_
      refine SK rfl rfl rfl rfl rfl ?_
      refine SK rfl rfl rfl rfl rfl ?_
      refine SK rfl rfl rfl rfl rfl ?_
      refine SK rfl rfl rfl rfl rfl ?_
      refine SK rfl rfl rfl rfl rfl ?_
      refine SK rfl rfl rfl rfl rfl ?_
      refine SK rfl rfl rfl rfl rfl ?_
      refine SK rfl rfl rfl rfl rfl ?_
      refine SK rfl rfl rfl rfl rfl ?_
      refine Go.Sx.V rfl wu rfl rfl (pk rfl rfl) ?_
      refine wr_nil (post_thenN ?_)
      refine wc_condT rfl (by rfl) ?_
      refine wc_seq ?_
      refine wc_region [0] rfl ?_
      refine Go.Sx.V rfl wu rfl rfl (asg rfl) ?_
      refine wr_nil (post_thenN (wc_ret (post_thenR ?_)))
      refine post_ret1 rfl rfl ?_
      exact ⟨hE.trans hX, rfl⟩
namespace FBivariateCounts
open Go.ChangeShapes Go.WideShapes Go.ChangeAt Go.RowKit Go.Fr
theorem own : ownKnob Try.prog.godebug = none := by kernel_rfl
theorem laidOut : laidOutB Try.prog = true := by kernel_rfl
set_option maxRecDepth 100000 in
theorem lifted (os : Os) (started : os.Started) (H : Type) (enc : TypeId × Value → H) :
    ReturnsInHanded {} Try.checked os 15 .any (Rows.bivariateCountsSpec.pre6 enc Try.prog Try.f15 Rows.bivariateCountsRow.domain false) (Rows.bivariateCountsSpec.post enc Try.prog Try.f15 false true false false) := by
  refine returnsInHanded_of_change_sized (C := Try.checked) own started (by kernel_rfl) Try.func15
    (ChangeSpec.witness6 (enc := enc) (C := Try.checked) false ⟨#[], #[.agg #[.int .i64 0, .int .i64 0, .slice none 0 0], .agg #[.slice none 0 0, .slice none 0 0, .int .i64 0, .int .i64 0, .int .i64 0], .int .i64 0], []⟩ 8 (by kernel_rfl) (by kernel_rfl) (by kernel_rfl) (by kernel_rfl)) ?_
  intro W base args ds gs before hval0 hW _ hsz0 _
  have hval : ∀ (j : Nat) t v, Try.f15.params[j]? = some t → args[j]? = some v → Value.okWide Try.prog W .any base t v := hval0
  have hW' := hW
  obtain ⟨p, q, hA0, hV, rfl, hfz, hnd⟩ := hW
  have hA : DataW.TrodAll enc Try.prog W 0 (fun _ => true) true Try.f15.params.toList args.toList ds p := hA0
  have hsz : (DataW.weightsEach Try.prog (Try.f15.params.toList ++ Rows.bivariateCountsSpec.plain.varTypes Try.prog) (ds ++ gs)).all (· ≤ reachBytes) = true := hsz0
  rw [Try.params15] at hA hval hsz
  obtain ⟨v0, vs0, d0, ds0, p0, q0, hargs, rfl, rfl, h0, r0⟩ := trodAll_cons hA
  obtain ⟨v1, vs1, d1, ds1, p1, q1, rfl, rfl, rfl, h1, r1⟩ := trodAll_cons r0
  obtain ⟨v2, vs2, d2, ds2, p2, q2, rfl, rfl, rfl, h2, r2⟩ := trodAll_cons r1
  obtain ⟨rfl, rfl, rfl⟩ := trodAll_nil r2
  obtain rfl : args = #[v0, v1, v2] := by cases args; simp_all
  obtain ⟨rfl, rfl⟩ := trodVars_none hV
  have k0 := h0
  have lt0 : ∀ x ∈ p0, x.block < W.heap.size := by obtain ⟨m, hm⟩ := k0; exact DataW.trod_lt m _ _ _ hm
  have w0 : WOK Try.prog 24 d0 := wok_arg hsz (j := 0) rfl rfl
  obtain ⟨x0, s0⟩ := op_field (hval 0 24 v0 rfl rfl) h0 w0
  have k1 := h1
  have lt1 : ∀ x ∈ p1, x.block < W.heap.size := by obtain ⟨m, hm⟩ := k1; exact DataW.trod_lt m _ _ _ hm
  have w1 : WOK Try.prog 73 d1 := wok_arg hsz (j := 1) rfl rfl
  obtain ⟨x1, s1⟩ := op_task (hval 1 73 v1 rfl rfl) h1 w1
  have k2 := h2
  have lt2 : ∀ x ∈ p2, x.block < W.heap.size := by obtain ⟨m, hm⟩ := k2; exact DataW.trod_lt m _ _ _ hm
  have w2 : WOK Try.prog 3 d2 := wok_arg hsz (j := 2) rfl rfl
  obtain ⟨n2, rfl, b2⟩ := op_int Try.underlying3 (hval 2 3 v2 rfl rfl) h2
  refine (law_BivariateCounts (w := W) v0 x0 s0 v1 x1 s1 n2 b2).mono fun e W' he => ?_
  cases e with
  | panicked c => exact he.elim
  | outgrown => exact he.elim
  | returned v =>
    obtain ⟨bel, rfl⟩ := he
    exact ⟨_, rfl, _, _, _, [], _, [], hW', trodAll_mk1 (shut_bool Try.underlying4 _), (trodAll_cons_mk (Below.trod laidOut (by kernel_rfl) (of_decide_eq_true (by kernel_rfl)) k0 bel lt0) (trodAll_cons_mk (Below.trod laidOut (by kernel_rfl) (of_decide_eq_true (by kernel_rfl)) k1 bel lt1) (trodAll_cons_mk (Below.trod laidOut (by kernel_rfl) (of_decide_eq_true (by kernel_rfl)) k2 bel lt2) trodAll_mk0))), rfl, bel.frame _, fun h => by cases h⟩
theorem over : Rows.bivariateCountsRow.holds Try.pinned (OpenSpec.ofChange Rows.bivariateCountsSpec) :=
  OpenClaim.holds_of_wide 15 Try.f15 rfl rfl rfl rfl rfl rfl rfl ⟨rfl, rfl, rfl, rfl, rfl⟩ rfl rfl rfl rfl rfl (by kernel_rfl) Try.func15 (by kernel_rfl)
    (of_decide_eq_true (by kernel_rfl)) (by unfold Func.isWrapper; first | (rw [if_pos (by decide +kernel)]; kernel_rfl) | (rw [if_neg (by decide +kernel)]; exact ⟨rfl, rfl⟩))
    (fun os started H enc _ => lifted os started H enc)
end FBivariateCounts
/-- The statement. -/
theorem bivariateCounts_holds : Rows.BivariateCountsSaid := FBivariateCounts.over
end Go.Proofs.Ytjpcgjllmpdmhaa
