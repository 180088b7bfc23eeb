/-
  shape of the field package, by contract.
-/
import Derived.Test.YtmnojknfjbimdaaGreatWField3
import Derived.Test.YtmnojknfjbimdaaGreatWMGa
namespace Go.Proofs.YtmnojknfjbimdaaGreat
open Go Go.Sx Go.Pl Go.RowKit Go.Fd Go.Alg
def fv0 (p M : Int) (mo : Value) : Value := .agg #[.int .i64 p, .int .i64 M, mo]
theorem ordZ_ne {p M : Int} (h : ordZ p M ≠ 0) : 2 ≤ p ∧ p ≤ 256 ∧ 1 ≤ M ∧ M ≤ 8 ∧ p ^ M.toNat ≤ 256 ∧ ordZ p M = p ^ M.toNat := by
  unfold ordZ at h ⊢
  split at h
  · exact absurd rfl h
  · rename_i hc
    rw [if_neg hc]
    omega
theorem ordZ_eq {p M : Int} (h1 : 2 ≤ p) (h2 : 1 ≤ M) (h3 : M ≤ 8) (h4 : p ^ M.toNat ≤ 256) : ordZ p M = p ^ M.toNat ∧ ordZ p M ≠ 0 ∧ p ≤ 256 := by
  have hp : p ≤ p ^ M.toNat := by
    have := pow_mono h1 (m := 1) (n := M.toNat) (by omega)
    rw [Int.pow_succ, Int.pow_zero, Int.one_mul] at this
    exact this
  unfold ordZ
  rw [if_neg (by omega)]
  exact ⟨rfl, by omega, by omega⟩
set_option maxRecDepth 10000 in
theorem fShape (p M : Int) (mo : Value) (md : List Int) (w : World) (hmd : Ints w mo md) :
    Calls Tryz.prog 81 #[fv0 p M mo] w (RetX w fun v _ => ∃ b, v = .bool b ∧ (b = true ↔ Shp p M md)) := by
  have hml := hmd.le
  refine calls1 Tryz.func81 rfl rfl ?_
  refine wc_seq ?_
  refine wc_region [0,1] rfl ?_
  refine BXA rfl wu rfl rfl ?_
  intro g w1 hE hB hg
  refine Go.Sx.V rfl wu rfl rfl (asg rfl) ?_
  refine wr_nil (post_thenN (wc_seq (wc_seq ?_)))
  have hmi := hmd.ext hE
  refine wc_region [0,1,2,3,4,5,6,7,8,9,10,11] rfl ?_
  refine Go.Sx.V rfl wu rfl rfl (fad rfl fa24_0) ?_
  refine Go.Sx.V rfl wu rfl rfl (ldB rfl na3) ?_
  refine Go.Sx.V rfl wu rfl rfl (fad rfl fa24_1) ?_
  refine Go.Sx.V rfl wu rfl rfl (ldB rfl na3) ?_
  refine C rfl wu rfl rfl Tryz.call82 (fOrder p M _) ?_
  rintro _ w2 hE2 rfl
  replace hB := hB.ext hE2
  replace hE := hE.trans hE2
  replace hmi := hmi.ext hE2
  refine Go.Sx.V rfl wu rfl rfl (eqlI rfl rfl) ?_
  refine Go.Sx.V rfl wu rfl rfl (mv rfl) ?_
  refine ORX (π1 := [7,8,9,10,11]) (π2 := []) (tc := 11) (tp := 16) rfl rfl rfl (by
      intro _
      refine SK rfl rfl rfl rfl rfl ?_
      refine SK rfl rfl rfl rfl rfl ?_
      refine SK rfl rfl rfl rfl rfl ?_
      refine SK rfl rfl rfl rfl rfl ?_
      refine Go.Sx.V rfl wu rfl rfl (pk rfl rfl) ?_
      exact joinX rfl) (by
      intro hg
      simp at hg
      have ho := ordZ_ne hg
      refine Go.Sx.V rfl (wg rfl rfl) rfl rfl (fad rfl fa24_0) ?_
      refine Go.Sx.V rfl (wg rfl rfl) rfl rfl (ldB rfl na3) ?_
      refine C rfl (wg rfl rfl) rfl rfl Tryz.call116 (fIsPrime p _ ⟨ho.1, ho.2.1⟩) ?_
      rintro _ w3 hE3 rfl
      refine Go.Sx.V rfl (wg rfl rfl) rfl rfl (notB rfl) ?_
      refine Go.Sx.V rfl wu rfl rfl (pk rfl rfl) ?_
      exact joinX rfl) ?_
  intro w4 hE4
  refine wr_nil (post_thenN ?_)
  replace hB := hB.ext hE4
  replace hmi := hmi.ext hE4
  replace hE := hE.trans hE4
  refine wc_cond rfl ?_ ?_
  · intro h
    simp only [Bool.or_eq_true, decide_eq_true_eq, Bool.not_eq_true'] at h
    refine wc_seq ?_
    refine wc_region [0] rfl ?_
    refine Go.Sx.V rfl wu rfl rfl (asg rfl) ?_
    refine wr_nil (post_thenN (wc_ret (post_thenR ?_)))
    refine post_ret1 rfl rfl ?_
    refine ⟨hE, false, rfl, ⟨(fun h => by cases h), fun hs => ?_⟩⟩
    obtain ⟨e1, e2, _⟩ := ordZ_eq hs.1 hs.2.1 hs.2.2.1 hs.2.2.2.1
    rcases h with h | h
    · exact absurd h e2
    · rw [hs.2.2.2.2.1] at h; cases h
  · intro h
    simp only [Bool.or_eq_false_iff, decide_eq_false_iff_not, Bool.not_eq_false'] at h
    obtain ⟨hz, hpr⟩ := h
    have ho := ordZ_ne hz
    refine wc_skip (post_thenN (wc_seq (wc_seq ?_)))
    refine wc_region [0,1,2] rfl ?_
    refine Go.Sx.V rfl wu rfl rfl (fad rfl fa24_1) ?_
    refine Go.Sx.V rfl wu rfl rfl (ldB rfl na3) ?_
    refine Go.Sx.V rfl wu rfl rfl (eqlI rfl rfl) ?_
    refine wr_nil (post_thenN ?_)
    refine wc_cond rfl ?_ ?_
    · intro hM
      simp at hM
      refine wc_seq ?_
      refine wc_region [0,1,2,3,4] rfl ?_
      refine Go.Sx.V rfl wu rfl rfl (fad rfl fa24_2) ?_
      refine Go.Sx.V rfl wu rfl rfl (ldB rfl na22) ?_
      refine Go.Sx.V rfl wu rfl rfl (lenI rfl ty22) ?_
      refine Go.Sx.V rfl wu rfl rfl (eqlI rfl rfl) ?_
      refine Go.Sx.V rfl wu rfl rfl (asg rfl) ?_
      refine wr_nil (post_thenN (wc_ret (post_thenR ?_)))
      refine post_ret1 rfl rfl ?_
      refine ⟨hE, _, rfl, ?_⟩
      constructor
      · intro hb
        have hb : (md.length : Int) = 0 := by simpa using hb
        exact ⟨ho.1, ho.2.2.1, ho.2.2.2.1, ho.2.2.2.2.1, hpr, fun _ => List.eq_nil_of_length_eq_zero (by omega), fun h => absurd hM h⟩
      · intro hs
        rw [hs.2.2.2.2.2.1 hM]
        rfl
    · intro hM
      simp at hM
      refine wc_skip (post_thenN (wc_seq (wc_seq ?_)))
      refine wc_region [0,1,2,3,4,5] rfl ?_
      refine Go.Sx.V rfl wu rfl rfl (fad rfl fa24_2) ?_
      refine Go.Sx.V rfl wu rfl rfl (ldB rfl na22) ?_
      refine Go.Sx.V rfl wu rfl rfl (lenI rfl ty22) ?_
      refine Go.Sx.V rfl wu rfl rfl (fad rfl fa24_1) ?_
      refine Go.Sx.V rfl wu rfl rfl (ldB rfl na3) ?_
      refine Go.Sx.V rfl wu rfl rfl (neqI rfl rfl) ?_
      refine wr_nil (post_thenN ?_)
      refine wc_cond rfl ?_ ?_
      · intro hl
        simp at hl
        refine wc_seq ?_
        refine wc_region [0] rfl ?_
        refine Go.Sx.V rfl wu rfl rfl (asg rfl) ?_
        refine wr_nil (post_thenN (wc_ret (post_thenR ?_)))
        refine post_ret1 rfl rfl ?_
        exact ⟨hE, false, rfl, ⟨(fun h => by cases h), fun hs => absurd (hs.2.2.2.2.2.2 hM).1 hl⟩⟩
      · intro hl
        simp at hl
        refine wc_skip (post_thenN (wc_seq (wc_seq ?_)))
        refine wc_region [0,1,2,3] rfl ?_
        refine Go.Sx.V rfl wu rfl rfl (fad rfl fa24_2) ?_
        refine Go.Sx.V rfl wu rfl rfl (ldB rfl na22) ?_
        refine Go.Sx.V rfl wu rfl rfl (lenI rfl ty22) ?_
        refine Go.Sx.V rfl wu rfl rfl (mv rfl) ?_
        refine wr_nil (post_thenN (wc_block ?_))
        refine wc_loop (fun i : Int => [(1, .pointer (some ⟨g, 0, none⟩)), (31, mo), (32, .int .i64 md.length), (33, .int .i64 i)])
          (fun i w' => 0 ≤ i ∧ i ≤ md.length ∧ w' = w4 ∧ ∀ j : Int, 0 ≤ j → j < i → 0 ≤ gi md j ∧ gi md j < p) (fun i => (md.length - i).toNat) 0 ⟨rfl, rfl, rfl, rfl, trivial⟩ ⟨by omega, by omega, rfl, fun j _ _ => by omega⟩ ?_
        rintro i _ ⟨h0, h1, rfl, hlo⟩
        try dsimp only
        refine wc_seq ?_
        refine wc_region [0] rfl ?_
        refine Go.Sx.V rfl wu rfl rfl (lssI rfl rfl) ?_
        refine wr_nil (post_thenN (wc_seq ?_))
        refine wc_cond rfl ?_ ?_
        · intro hi
          simp at hi
          refine wc_skip (post_thenN (wc_seq (wc_block (wc_seq ?_))))
          refine wc_region [0,1,2] rfl ?_
          refine Go.Sx.V rfl wu rfl rfl (iadI rfl rfl ty22) ?_
          refine Go.Sx.V rfl wu rfl rfl (ldI rfl na3) ?_
          refine Go.Sx.V rfl wu rfl rfl (asg rfl) ?_
          refine wr_nil (post_thenN (wc_seq ?_))
          refine wc_region [0,1,2,3,4,5,6,7] rfl ?_
          refine Go.Sx.V rfl wu rfl rfl (mv rfl) ?_
          refine Go.Sx.V rfl wu rfl rfl (lssI rfl rfl) ?_
          refine Go.Sx.V rfl wu rfl rfl (mv rfl) ?_
          refine OR (π1 := [3,4,5,6,7]) (π2 := []) (tc := 39) (tp := 44) rfl rfl rfl (by
              intro _
              refine SK rfl rfl rfl rfl rfl ?_
              refine SK rfl rfl rfl rfl rfl ?_
              refine SK rfl rfl rfl rfl rfl ?_
              refine SK rfl rfl rfl rfl rfl ?_
              refine Go.Sx.V rfl wu rfl rfl (pk rfl rfl) ?_
              exact join rfl) (by
              intro hg
              simp at hg
              refine Go.Sx.V rfl (wg rfl rfl) rfl rfl (mv rfl) ?_
              refine Go.Sx.V rfl (wg rfl rfl) rfl rfl (fad rfl fa24_0) ?_
              refine Go.Sx.V rfl (wg rfl rfl) rfl rfl (ldB rfl na3) ?_
              refine Go.Sx.V rfl (wg rfl rfl) rfl rfl (geqI rfl rfl) ?_
              refine Go.Sx.V rfl wu rfl rfl (pk rfl rfl) ?_
              exact join rfl) ?_
          refine wr_nil (post_thenN ?_)
          refine wc_cond rfl ?_ ?_
          · intro hc
            simp at hc
            refine wc_seq ?_
            refine wc_region [0] rfl ?_
            refine Go.Sx.V rfl wu rfl rfl (asg rfl) ?_
            refine wr_nil (post_thenN (wc_ret (post_blockR (post_thenR (post_loopR (post_blockR (post_thenR ?_)))))))
            refine post_ret1 rfl rfl ?_
            refine ⟨hE, false, rfl, ⟨(fun h => by cases h), fun hs => ?_⟩⟩
            have := gi_lo (hs.2.2.2.2.2.2 hM).2 h0 hi
            omega
          · intro hc
            simp at hc
            refine wc_skip (post_blockN (post_thenN ?_))
            refine wc_region [0,1] rfl ?_
            refine Go.Sx.V rfl wu rfl rfl (addI rfl rfl) ?_
            refine Go.Sx.V rfl wu rfl rfl (mv rfl) ?_
            refine wr_nil ?_
            exact post_loopN (i + 1) ⟨rfl, rfl, rfl, rfl, trivial⟩ ⟨by omega, by omega, rfl, fun j hj0 hj1 => (by
              by_cases e : j = i
              · rw [e]; omega
              · exact hlo j hj0 (by omega))⟩ (by omega)
        · intro hi
          simp at hi
          refine wc_exit (post_thenE (post_loopE (post_blockX (post_thenN (wc_seq ?_)))))
          refine wc_region [0] rfl ?_
          refine Go.Sx.V rfl wu rfl rfl (asg rfl) ?_
          refine wr_nil (post_thenN (wc_ret ?_))
          refine post_ret1 rfl rfl ?_
          refine ⟨hE, true, rfl, ⟨fun _ => ⟨ho.1, ho.2.2.1, ho.2.2.2.1, ho.2.2.2.2.1, hpr, fun h => absurd h hM, fun _ => ⟨hl, fun z hz => ?_⟩⟩, fun _ => rfl⟩⟩
          obtain ⟨j, hj, rfl⟩ := List.mem_iff_getElem.1 hz
          have := hlo j (by omega) (by omega)
          simpa [gi, hj] using this
end Go.Proofs.YtmnojknfjbimdaaGreat

