/-
  The reference's check of a field, by contract.
-/
import Derived.Test.YtmnojknfjbimdaaGreatYRef3
namespace Go.Proofs.YtmnojknfjbimdaaGreat
open Go Go.Sx Go.Pl Go.RowKit Go.Fd Go.Alg
set_option maxRecDepth 10000 in
theorem rCheck (p M : Int) (mo : Value) (md : List Int) (w : World) (hmd : Ints w mo md) :
    Calls Tryz.prog 66 #[fv0 p M mo] w (RetX w fun v _ => (v = .int .i64 0 ∧ OkF p M md) ∨ (v = .int .i64 1 ∧ ¬ OkF p M md)) := by
  have hml := hmd.le
  refine calls1 Tryz.func66 rfl rfl ?_
  refine wc_seq ?_
  refine wc_region [0,1] rfl ?_
  refine BXA rfl wu rfl rfl ?_
  intro g w1 hE hB hg
  refine Go.Sx.V rfl wu rfl rfl (asg rfl) ?_
  refine wr_nil (post_thenN (wc_seq (wc_seq ?_)))
  have hmi := hmd.ext hE
  refine wc_region [0,1,2,3,4,5,6,7,8] rfl ?_
  refine Go.Sx.V rfl wu rfl rfl (ldA rfl ag24) ?_
  refine C rfl wu rfl rfl Tryz.call67 (rOrder p M mo _) ?_
  rintro _ w2 hE2 rfl
  replace hB := hB.ext hE2
  replace hE := hE.trans hE2
  replace hmi := hmi.ext hE2
  refine Go.Sx.V rfl wu rfl rfl (eqlI rfl rfl) ?_
  refine Go.Sx.V rfl wu rfl rfl (mv rfl) ?_
  refine ORX (π1 := [4,5,6,7,8]) (π2 := []) (tc := 7) (tp := 12) rfl rfl rfl (by
      intro _
      refine SK rfl rfl rfl rfl rfl ?_
      refine SK rfl rfl rfl rfl rfl ?_
      refine SK rfl rfl rfl rfl rfl ?_
      refine SK rfl rfl rfl rfl rfl ?_
      refine Go.Sx.V rfl wu rfl rfl (pk rfl rfl) ?_
      exact joinX rfl) (by
      intro hg
      simp at hg
      have ho := ordZ_ne hg
      refine Go.Sx.V rfl (wg rfl rfl) rfl rfl (fad rfl fa24_0) ?_
      refine Go.Sx.V rfl (wg rfl rfl) rfl rfl (ldB rfl na3) ?_
      refine C rfl (wg rfl rfl) rfl rfl Tryz.call99 (rPrime p _ ⟨ho.1, ho.2.1⟩) ?_
      rintro _ w3 hE3 rfl
      refine Go.Sx.V rfl (wg rfl rfl) rfl rfl (notB rfl) ?_
      refine Go.Sx.V rfl wu rfl rfl (pk rfl rfl) ?_
      exact joinX rfl) ?_
  intro w4 hE4
  refine wr_nil (post_thenN ?_)
  replace hB := hB.ext hE4
  replace hmi := hmi.ext hE4
  replace hE := hE.trans hE4
  refine wc_cond rfl ?_ ?_
  · intro h
    simp only [Bool.or_eq_true, decide_eq_true_eq, Bool.not_eq_true'] at h
    refine wc_seq ?_
    refine wc_region [0] rfl ?_
    refine Go.Sx.V rfl wu rfl rfl (asg rfl) ?_
    refine wr_nil (post_thenN (wc_ret (post_thenR ?_)))
    refine post_ret1 rfl rfl ?_
    refine ⟨hE, .inr ⟨rfl, fun ⟨hs, _⟩ => ?_⟩⟩
    obtain ⟨e1, e2, _⟩ := ordZ_eq hs.1 hs.2.1 hs.2.2.1 hs.2.2.2.1
    rcases h with h | h
    · exact absurd h e2
    · rw [hs.2.2.2.2.1] at h; cases h
  · intro h
    simp only [Bool.or_eq_false_iff, decide_eq_false_iff_not, Bool.not_eq_false'] at h
    obtain ⟨hz, hpr⟩ := h
    have ho := ordZ_ne hz
    refine wc_skip (post_thenN (wc_seq (wc_seq ?_)))
    refine wc_region [0,1,2] rfl ?_
    refine Go.Sx.V rfl wu rfl rfl (fad rfl fa24_1) ?_
    refine Go.Sx.V rfl wu rfl rfl (ldB rfl na3) ?_
    refine Go.Sx.V rfl wu rfl rfl (eqlI rfl rfl) ?_
    refine wr_nil (post_thenN ?_)
    refine wc_cond rfl ?_ ?_
    · intro hM
      simp at hM
      refine wc_seq (wc_seq ?_)
      refine wc_region [0,1,2,3] rfl ?_
      refine Go.Sx.V rfl wu rfl rfl (fad rfl fa24_2) ?_
      refine Go.Sx.V rfl wu rfl rfl (ldB rfl na22) ?_
      refine Go.Sx.V rfl wu rfl rfl (lenI rfl ty22) ?_
      refine Go.Sx.V rfl wu rfl rfl (neqI rfl rfl) ?_
      refine wr_nil (post_thenN ?_)
      refine wc_cond rfl ?_ ?_
      · intro hl
        simp at hl
        refine wc_seq ?_
        refine wc_region [0] rfl ?_
        refine Go.Sx.V rfl wu rfl rfl (asg rfl) ?_
        refine wr_nil (post_thenN (wc_ret (post_thenR (post_thenR ?_))))
        refine post_ret1 rfl rfl ?_
        exact ⟨hE, .inr ⟨rfl, fun ⟨hs, _⟩ => hl (hs.2.2.2.2.2.1 hM)⟩⟩
      · intro hl
        simp at hl
        refine wc_skip (post_thenN (wc_seq ?_))
        refine wc_region [0] rfl ?_
        refine Go.Sx.V rfl wu rfl rfl (asg rfl) ?_
        refine wr_nil (post_thenN (wc_ret (post_thenR ?_)))
        refine post_ret1 rfl rfl ?_
        exact ⟨hE, .inl ⟨rfl, ⟨ho.1, ho.2.2.1, ho.2.2.2.1, ho.2.2.2.2.1, hpr, fun _ => hl, fun h => absurd hM h⟩, .inl hM⟩⟩
    · intro hM
      simp at hM
      refine wc_skip (post_thenN (wc_seq (wc_seq ?_)))
      refine wc_region [0,1,2,3,4,5] rfl ?_
      refine Go.Sx.V rfl wu rfl rfl (fad rfl fa24_2) ?_
      refine Go.Sx.V rfl wu rfl rfl (ldB rfl na22) ?_
      refine Go.Sx.V rfl wu rfl rfl (lenI rfl ty22) ?_
      refine Go.Sx.V rfl wu rfl rfl (fad rfl fa24_1) ?_
      refine Go.Sx.V rfl wu rfl rfl (ldB rfl na3) ?_
      refine Go.Sx.V rfl wu rfl rfl (neqI rfl rfl) ?_
      refine wr_nil (post_thenN ?_)
      refine wc_cond rfl ?_ ?_
      · intro hl
        simp at hl
        refine wc_seq ?_
        refine wc_region [0] rfl ?_
        refine Go.Sx.V rfl wu rfl rfl (asg rfl) ?_
        refine wr_nil (post_thenN (wc_ret (post_thenR ?_)))
        refine post_ret1 rfl rfl ?_
        exact ⟨hE, .inr ⟨rfl, fun ⟨hs, _⟩ => absurd (hs.2.2.2.2.2.2 hM).1 hl⟩⟩
      · intro hl
        simp at hl
        refine wc_skip (post_thenN (wc_seq (wc_seq ?_)))
        refine wc_region [0] rfl ?_
        refine Go.Sx.V rfl wu rfl rfl (asg rfl) ?_
        refine wr_nil (post_thenN (wc_block ?_))
        refine wc_loop (fun i : Int => [(1, .pointer (some ⟨g, 0, none⟩)), (3, .int .i64 i)])
          (fun i w' => 0 ≤ i ∧ i ≤ M ∧ Ext w4 w' ∧ ∀ j : Int, 0 ≤ j → j < i → 0 ≤ gi md j ∧ gi md j < p) (fun i => (M - i).toNat) 0 ⟨rfl, rfl, trivial⟩ ⟨by omega, by omega, Ext.refl _, fun j _ _ => by omega⟩ ?_
        rintro i w5 ⟨h0, h1, hE5, hlo⟩
        try dsimp only
        refine wc_seq (wc_seq ?_)
        refine wc_region [0,1,2,3] rfl ?_
        refine Go.Sx.V rfl wu rfl rfl (mv rfl) ?_
        refine Go.Sx.V rfl wu rfl rfl (fad rfl fa24_1) ?_
        refine Go.Sx.V rfl wu rfl rfl (ldB rfl na3) ?_
        refine Go.Sx.V rfl wu rfl rfl (lssI rfl rfl) ?_
        refine wr_nil (post_thenN ?_)
        refine wc_cond rfl ?_ ?_
        · intro hi
          simp at hi
          refine wc_skip (post_thenN (wc_seq (wc_block (wc_seq ?_))))
          refine wc_draw mixed [0,1,2,3,4,5,6,7,8,9,10,11,12,13,14,15] (by kernel_rfl) ?_
          intro w6 hd _
          replace hE5 := hE5.trans hd
          refine Go.Sx.V rfl wu rfl rfl (fad rfl fa24_2) ?_
          refine Go.Sx.V rfl wu rfl rfl (ldB rfl na22) ?_
          refine Go.Sx.V rfl wu rfl rfl (mv rfl) ?_
          refine Go.Sx.V rfl wu rfl rfl (iadI rfl rfl ty22) ?_
          refine Go.Sx.V rfl wu rfl rfl (ldI rfl na3) ?_
          refine Go.Sx.V rfl wu rfl rfl (lssI rfl rfl) ?_
          refine Go.Sx.V rfl wu rfl rfl (mv rfl) ?_
          refine OR (π1 := [7,8,9,10,11,12,13,14,15]) (π2 := []) (tc := 38) (tp := 47) rfl rfl rfl (by
              intro _
              refine SK rfl rfl rfl rfl rfl ?_
              refine SK rfl rfl rfl rfl rfl ?_
              refine SK rfl rfl rfl rfl rfl ?_
              refine SK rfl rfl rfl rfl rfl ?_
              refine SK rfl rfl rfl rfl rfl ?_
              refine SK rfl rfl rfl rfl rfl ?_
              refine SK rfl rfl rfl rfl rfl ?_
              refine SK rfl rfl rfl rfl rfl ?_
              refine Go.Sx.V rfl wu rfl rfl (pk rfl rfl) ?_
              exact join rfl) (by
              intro hg
              simp at hg
              refine Go.Sx.V rfl (wg rfl rfl) rfl rfl (fad rfl fa24_2) ?_
              refine Go.Sx.V rfl (wg rfl rfl) rfl rfl (ldB rfl na22) ?_
              refine Go.Sx.V rfl (wg rfl rfl) rfl rfl (mv rfl) ?_
              refine Go.Sx.V rfl (wg rfl rfl) rfl rfl (iadI rfl rfl ty22) ?_
              refine Go.Sx.V rfl (wg rfl rfl) rfl rfl (ldI rfl na3) ?_
              refine Go.Sx.V rfl (wg rfl rfl) rfl rfl (fad rfl fa24_0) ?_
              refine Go.Sx.V rfl (wg rfl rfl) rfl rfl (ldB rfl na3) ?_
              refine Go.Sx.V rfl (wg rfl rfl) rfl rfl (geqI rfl rfl) ?_
              refine Go.Sx.V rfl wu rfl rfl (pk rfl rfl) ?_
              exact join rfl) ?_
          refine wr_nil (post_thenN ?_)
          refine wc_cond rfl ?_ ?_
          · intro hc
            simp at hc
            refine wc_seq ?_
            refine wc_region [0] rfl ?_
            refine Go.Sx.V rfl wu rfl rfl (asg rfl) ?_
            refine wr_nil (post_thenN (wc_ret (post_blockR (post_thenR (post_loopR (post_blockR (post_thenR ?_)))))))
            refine post_ret1 rfl rfl ?_
            refine ⟨hE.trans hE5, .inr ⟨rfl, fun ⟨hs, _⟩ => ?_⟩⟩
            have := gi_lo (hs.2.2.2.2.2.2 hM).2 h0 (by omega)
            omega
          · intro hc
            simp at hc
            refine wc_skip (post_blockN (post_thenN ?_))
            refine wc_region [0,1,2] rfl ?_
            refine Go.Sx.V rfl wu rfl rfl (mv rfl) ?_
            refine Go.Sx.V rfl wu rfl rfl (addI rfl rfl) ?_
            refine Go.Sx.V rfl wu rfl rfl (asg rfl) ?_
            refine wr_nil ?_
            exact post_loopN (i + 1) ⟨rfl, rfl, trivial⟩ ⟨by omega, by omega, hE5, fun j hj0 hj1 => (by
              by_cases e : j = i
              · rw [e]; omega
              · exact hlo j hj0 (by omega))⟩ (by omega)
        · intro hi
          simp at hi
          refine wc_exit (post_thenE (post_loopE (post_blockX (post_thenN (wc_seq (wc_seq ?_))))))
          have hLo : Lo p md := fun z hz => by
            obtain ⟨j, hj, rfl⟩ := List.mem_iff_getElem.1 hz
            have := hlo j (by omega) (by omega)
            simpa [gi, hj] using this
          have hS : Shp p M md := ⟨ho.1, ho.2.2.1, ho.2.2.2.1, ho.2.2.2.2.1, hpr, fun h => absurd h hM, fun _ => ⟨hl, hLo⟩⟩
          have hMn : M.toNat = md.length := by omega
          refine wc_region [0,1,2,3,4,5] rfl ?_
          refine Go.Sx.V rfl wu rfl rfl (fad rfl fa24_2) ?_
          refine Go.Sx.V rfl wu rfl rfl (ldB rfl na22) ?_
          refine Go.Sx.V rfl wu rfl rfl (fad rfl fa24_0) ?_
          refine Go.Sx.V rfl wu rfl rfl (ldB rfl na3) ?_
          refine C rfl wu rfl rfl Tryz.call100 (rIrr mo md p _ (hmi.ext hE5) ⟨ho.1, ho.2.1⟩ hLo (by omega) (by rw [← hMn]; exact ho.2.2.2.2.1)) ?_
          rintro _ w7 hE7 rfl
          refine Go.Sx.V rfl wu rfl rfl (notB rfl) ?_
          refine wr_nil (post_thenN ?_)
          replace hE := (hE.trans hE5).trans hE7
          refine wc_cond rfl ?_ ?_
          · intro hc
            simp at hc
            refine wc_seq ?_
            refine wc_region [0] rfl ?_
            refine Go.Sx.V rfl wu rfl rfl (asg rfl) ?_
            refine wr_nil (post_thenN (wc_ret (post_thenR ?_)))
            refine post_ret1 rfl rfl ?_
            refine ⟨hE, .inr ⟨rfl, fun ⟨_, hs⟩ => ?_⟩⟩
            rcases hs with h | h
            · exact hM h
            · rw [hc] at h; cases h
          · intro hc
            simp at hc
            refine wc_skip (post_thenN (wc_seq ?_))
            refine wc_region [0] rfl ?_
            refine Go.Sx.V rfl wu rfl rfl (asg rfl) ?_
            refine wr_nil (post_thenN (wc_ret ?_))
            refine post_ret1 rfl rfl ?_
            exact ⟨hE, .inl ⟨rfl, hS, .inr hc⟩⟩
end Go.Proofs.YtmnojknfjbimdaaGreat

