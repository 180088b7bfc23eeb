/-
  Statement WordBinomials: for all ints n and k the law returns true: Binomial equals the reference, and obeys Pascal's rule. No condition.
-/
import Derived.Test.YtlcokneidokfnaaBinom
import Derived.Test.YtlcokneidokfnaaFrame
import Derived.Test.YtlcokneidokfnaaRows
namespace Go.Proofs.Ytlcokneidokfnaa
open Go Go.Sx Go.Pl Go.RowKit Go.Fr

theorem pascal (n k : Int) (hn : 1 ≤ n) (hk : 1 ≤ k) : binZ (n - 1) (k - 1) + binZ (n - 1) k = binZ n k := by
  obtain ⟨a, ha⟩ : ∃ a, n.toNat = a + 1 := ⟨n.toNat - 1, by omega⟩
  obtain ⟨b, hb⟩ : ∃ b, k.toNat = b + 1 := ⟨k.toNat - 1, by omega⟩
  have e1 : (n - 1).toNat = a := by omega
  have e2 : (k - 1).toNat = b := by omega
  have e3 : bin (a + 1) (b + 1) = bin a b + bin a (b + 1) := rfl
  rw [binZ, binZ, binZ, if_neg (by omega), if_neg (by omega), if_neg (by omega), e1, e2, ha, hb, e3]
  omega

set_option maxRecDepth 10000 in
theorem law_WordBinomials (n : Int) (bn : Fits n) (k : Int) (bk : Fits k) (w : World) :
    Calls Try.prog 3 #[.int .i64 n, .int .i64 k] w (RetX w fun v _ => v = .bool true) := by
  unfold Fits at bn bk
  refine calls2 Try.func3 rfl rfl ?_
  refine wc_seq ?_
  refine wc_region [0] rfl ?_
  refine V rfl rfl rfl (asg rfl) ?_
  refine wr_nil (post_thenN (wc_seq ?_))
  refine wc_region [0,1,2,3,4,5,6,7] rfl ?_
  refine V rfl rfl rfl (mv rfl) ?_
  refine V rfl rfl rfl (mv rfl) ?_
  refine C rfl rfl rfl Try.call17 (wBinomial n k _) ?_
  rintro _ w1 hE1 rfl
  refine V rfl rfl rfl (mv rfl) ?_
  refine V rfl rfl rfl (ext rfl rfl) ?_
  refine V rfl rfl rfl (ext rfl rfl) ?_
  refine V rfl rfl rfl (asg rfl) ?_
  refine V rfl rfl rfl (asg rfl) ?_
  refine wr_nil (post_thenN (wc_seq ?_))
  refine wc_region [0,1,2,3,4,5,6,7] rfl ?_
  refine V rfl rfl rfl (mv rfl) ?_
  refine V rfl rfl rfl (mv rfl) ?_
  refine C rfl rfl rfl Try.call18 (rBinomial n k _) ?_
  rintro _ w2 hE2 rfl
  refine V rfl rfl rfl (mv rfl) ?_
  refine V rfl rfl rfl (ext rfl rfl) ?_
  refine V rfl rfl rfl (ext rfl rfl) ?_
  refine V rfl rfl rfl (asg rfl) ?_
  refine V rfl rfl rfl (asg rfl) ?_
  refine wr_nil (post_thenN (wc_seq (wc_seq ?_)))
  replace hE2 := hE1.trans hE2
  have e10 : binAns 5 2 = (10, 0) := by decide
  refine wc_region [0,1,2,3,4,5,6,7] rfl ?_
  refine V rfl rfl rfl (mv rfl) ?_
  refine V rfl rfl rfl (mv rfl) ?_
  refine V rfl rfl rfl (neqI rfl rfl) ?_
  refine V rfl rfl rfl (mv rfl) ?_
  refine OR (π1 := [4,5,6,7]) (π2 := []) (tc := 30) (tp := 34) rfl rfl rfl (by
      intro _
      refine SK rfl rfl rfl rfl rfl ?_
      refine SK rfl rfl rfl rfl rfl ?_
      refine SK rfl rfl rfl rfl rfl ?_
      refine V rfl rfl rfl (pk rfl rfl) ?_
      exact join rfl) (by
      intro hg
      simp at hg
      refine VG rfl rfl rfl rfl rfl (mv rfl) ?_
      refine VG rfl rfl rfl rfl rfl (mv rfl) ?_
      refine VG rfl rfl rfl rfl rfl (neqI rfl rfl) ?_
      refine V rfl rfl rfl (pk rfl rfl) ?_
      exact join rfl) ?_
  refine wr_nil (post_thenN ?_)
  refine wc_condF rfl (by simp) ?_
  refine wc_skip (post_thenN (wc_seq (wc_seq ?_)))
  refine wc_region [0,1,2,3,4,5,6,7,8,9,10,11,12,13,14] rfl ?_
  refine V rfl rfl rfl (mv rfl) ?_
  refine V rfl rfl rfl (eqlI rfl rfl) ?_
  refine V rfl rfl rfl (mv rfl) ?_
  refine AND (π1 := [3,4,5]) (π2 := [6,7,8,9,10,11,12,13,14]) (tc := 37) (tp := 40) rfl rfl rfl (by
      intro hg
      simp at hg
      refine VG rfl rfl rfl rfl rfl (mv rfl) ?_
      refine VG rfl rfl rfl rfl rfl (geqI rfl rfl) ?_
      refine V rfl rfl rfl (pk rfl rfl) ?_
      exact join rfl) (by
      intro _
      refine SK rfl rfl rfl rfl rfl ?_
      refine SK rfl rfl rfl rfl rfl ?_
      refine V rfl rfl rfl (pk rfl rfl) ?_
      exact join rfl) ?_
  refine V rfl rfl rfl (mv rfl) ?_
  refine AND (π1 := [7,8,9]) (π2 := [10,11,12,13,14]) (tc := 41) (tp := 44) rfl rfl rfl (by
      intro hg
      simp at hg
      refine VG rfl rfl rfl rfl rfl (mv rfl) ?_
      refine VG rfl rfl rfl rfl rfl (geqI rfl rfl) ?_
      refine V rfl rfl rfl (pk rfl rfl) ?_
      exact join rfl) (by
      intro _
      refine SK rfl rfl rfl rfl rfl ?_
      refine SK rfl rfl rfl rfl rfl ?_
      refine V rfl rfl rfl (pk rfl rfl) ?_
      exact join rfl) ?_
  refine V rfl rfl rfl (mv rfl) ?_
  refine AND (π1 := [11,12,13,14]) (π2 := []) (tc := 45) (tp := 49) rfl rfl rfl (by
      intro hg
      simp at hg
      refine VG rfl rfl rfl rfl rfl (mv rfl) ?_
      refine VG rfl rfl rfl rfl rfl (mv rfl) ?_
      refine VG rfl rfl rfl rfl rfl (leqI rfl rfl) ?_
      refine V rfl rfl rfl (pk rfl rfl) ?_
      exact join rfl) (by
      intro _
      refine SK rfl rfl rfl rfl rfl ?_
      refine SK rfl rfl rfl rfl rfl ?_
      refine SK rfl rfl rfl rfl rfl ?_
      refine V rfl rfl rfl (pk rfl rfl) ?_
      exact join rfl) ?_
  refine wr_nil (post_thenN ?_)
  refine wc_cond rfl ?_ ?_
  · intro h
    simp at h
    obtain ⟨⟨⟨h1, h2⟩, h3⟩, h4⟩ := h
    have hn : 0 ≤ n ∧ n ≤ 64 := by
      by_cases hb : n < 0 ∨ 64 < n
      · rw [binAns_bad k hb] at h1; cases h1
      · omega
    refine wc_seq ?_
    refine wc_region [0,1,2,3,4,5,6,7,8,9] rfl ?_
    refine V rfl rfl rfl (mv rfl) ?_
    refine V rfl rfl rfl (subI rfl rfl) ?_
    refine V rfl rfl rfl (mv rfl) ?_
    refine V rfl rfl rfl (subI rfl rfl) ?_
    refine C rfl rfl rfl Try.call17 (wBinomial (n - 1) (k - 1) _) ?_
    rintro _ w3 hE3 rfl
    refine V rfl rfl rfl (mv rfl) ?_
    refine V rfl rfl rfl (ext rfl rfl) ?_
    refine V rfl rfl rfl (ext rfl rfl) ?_
    refine V rfl rfl rfl (asg rfl) ?_
    refine V rfl rfl rfl (asg rfl) ?_
    refine wr_nil (post_thenN (wc_seq ?_))
    replace hE3 := hE2.trans hE3
    refine wc_region [0,1,2,3,4,5,6,7,8] rfl ?_
    refine V rfl rfl rfl (mv rfl) ?_
    refine V rfl rfl rfl (subI rfl rfl) ?_
    refine V rfl rfl rfl (mv rfl) ?_
    refine C rfl rfl rfl Try.call17 (wBinomial (n - 1) k _) ?_
    rintro _ w4 hE4 rfl
    refine V rfl rfl rfl (mv rfl) ?_
    refine V rfl rfl rfl (ext rfl rfl) ?_
    refine V rfl rfl rfl (ext rfl rfl) ?_
    refine V rfl rfl rfl (asg rfl) ?_
    refine V rfl rfl rfl (asg rfl) ?_
    refine wr_nil (post_thenN (wc_seq ?_))
    replace hE4 := hE3.trans hE4
    rw [binAns_ok (n := n - 1) (k - 1) (by omega), binAns_ok (n := n - 1) k (by omega), binAns_ok (n := n) k (by omega)]
    have b1 := binZ_bounds (n - 1) (k - 1) (by omega)
    have b2 := binZ_bounds n k (by omega)
    have hp := pascal n k h2 h3
    refine wc_region [0,1,2,3,4,5,6,7,8,9,10,11,12] rfl ?_
    refine V rfl rfl rfl (mv rfl) ?_
    refine V rfl rfl rfl (neqI rfl rfl) ?_
    refine V rfl rfl rfl (mv rfl) ?_
    refine OR (π1 := [3,4,5]) (π2 := [6,7,8,9,10,11,12]) (tc := 67) (tp := 70) rfl rfl rfl (by
        intro _
        refine SK rfl rfl rfl rfl rfl ?_
        refine SK rfl rfl rfl rfl rfl ?_
        refine V rfl rfl rfl (pk rfl rfl) ?_
        exact join rfl) (by
        intro hg
        simp at hg
        refine VG rfl rfl rfl rfl rfl (mv rfl) ?_
        refine VG rfl rfl rfl rfl rfl (neqI rfl rfl) ?_
        refine V rfl rfl rfl (pk rfl rfl) ?_
        exact join rfl) ?_
    refine V rfl rfl rfl (mv rfl) ?_
    refine OR (π1 := [7,8,9,10,11,12]) (π2 := []) (tc := 71) (tp := 77) rfl rfl rfl (by
        intro _
        refine SK rfl rfl rfl rfl rfl ?_
        refine SK rfl rfl rfl rfl rfl ?_
        refine SK rfl rfl rfl rfl rfl ?_
        refine SK rfl rfl rfl rfl rfl ?_
        refine SK rfl rfl rfl rfl rfl ?_
        refine V rfl rfl rfl (pk rfl rfl) ?_
        exact join rfl) (by
        intro hg
        simp at hg
        refine VG rfl rfl rfl rfl rfl (mv rfl) ?_
        refine VG rfl rfl rfl rfl rfl (mv rfl) ?_
        refine VG rfl rfl rfl rfl rfl (addI rfl rfl) ?_
        refine VG rfl rfl rfl rfl rfl (mv rfl) ?_
        refine VG rfl rfl rfl rfl rfl (neqI rfl rfl) ?_
        refine V rfl rfl rfl (pk rfl rfl) ?_
        exact join rfl) ?_
    refine wr_nil (post_thenN ?_)
    refine wc_condF rfl (by simp [hp]) ?_
    refine wc_skip (post_thenN (wc_seq ?_))
    refine wc_region [0,1,2,3,4,5] rfl ?_
    refine C rfl rfl rfl Try.call17 (wBinomial 5 2 _) ?_
    rintro _ w5 hE5 rfl
    refine V rfl rfl rfl (mv rfl) ?_
    refine V rfl rfl rfl (ext rfl rfl) ?_
    refine V rfl rfl rfl (ext rfl rfl) ?_
    refine V rfl rfl rfl (asg rfl) ?_
    refine V rfl rfl rfl (asg rfl) ?_
    refine wr_nil (post_thenN (wc_seq ?_))
    replace hE5 := hE4.trans hE5
    rw [e10]
    refine wc_region [0,1,2,3,4,5,6] rfl ?_
    refine V rfl rfl rfl (mv rfl) ?_
    refine V rfl rfl rfl (eqlI rfl rfl) ?_
    refine V rfl rfl rfl (mv rfl) ?_
    refine AND (π1 := [3,4,5]) (π2 := [6]) (tc := 84) (tp := 87) rfl rfl rfl (by
        intro hg
        simp at hg
        refine VG rfl rfl rfl rfl rfl (mv rfl) ?_
        refine VG rfl rfl rfl rfl rfl (eqlI rfl rfl) ?_
        refine V rfl rfl rfl (pk rfl rfl) ?_
        exact join rfl) (by
        intro _
        refine SK rfl rfl rfl rfl rfl ?_
        refine SK rfl rfl rfl rfl rfl ?_
        refine V rfl rfl rfl (pk rfl rfl) ?_
        exact join rfl) ?_
    refine V rfl rfl rfl (asg rfl) ?_
    refine wr_nil (post_thenN (wc_ret ?_))
    refine post_ret1 rfl rfl ?_
    exact ⟨hE5, rfl⟩
  · intro h
    refine wc_skip (post_thenN (wc_seq ?_))
    refine wc_region [0,1,2,3,4,5] rfl ?_
    refine C rfl rfl rfl Try.call17 (wBinomial 5 2 _) ?_
    rintro _ w5 hE5 rfl
    refine V rfl rfl rfl (mv rfl) ?_
    refine V rfl rfl rfl (ext rfl rfl) ?_
    refine V rfl rfl rfl (ext rfl rfl) ?_
    refine V rfl rfl rfl (asg rfl) ?_
    refine V rfl rfl rfl (asg rfl) ?_
    refine wr_nil (post_thenN (wc_seq ?_))
    replace hE5 := hE2.trans hE5
    rw [e10]
    refine wc_region [0,1,2,3,4,5,6] rfl ?_
    refine V rfl rfl rfl (mv rfl) ?_
    refine V rfl rfl rfl (eqlI rfl rfl) ?_
    refine V rfl rfl rfl (mv rfl) ?_
    refine AND (π1 := [3,4,5]) (π2 := [6]) (tc := 84) (tp := 87) rfl rfl rfl (by
        intro hg
        simp at hg
        refine VG rfl rfl rfl rfl rfl (mv rfl) ?_
        refine VG rfl rfl rfl rfl rfl (eqlI rfl rfl) ?_
        refine V rfl rfl rfl (pk rfl rfl) ?_
        exact join rfl) (by
        intro _
        refine SK rfl rfl rfl rfl rfl ?_
        refine SK rfl rfl rfl rfl rfl ?_
        refine V rfl rfl rfl (pk rfl rfl) ?_
        exact join rfl) ?_
    refine V rfl rfl rfl (asg rfl) ?_
    refine wr_nil (post_thenN (wc_ret ?_))
    refine post_ret1 rfl rfl ?_
    exact ⟨hE5, rfl⟩
namespace FWordBinomials
open Go.ChangeShapes Go.WideShapes Go.ChangeAt Go.RowKit Go.Fr
theorem own : ownKnob Try.prog.godebug = none := by kernel_rfl
theorem laidOut : laidOutB Try.prog = true := by kernel_rfl
set_option maxRecDepth 100000 in
theorem lifted (os : Os) (started : os.Started) (H : Type) (enc : TypeId × Value → H) :
    ReturnsInHanded {} Try.checked os 3 .any (Rows.wordBinomialsSpec.pre6 enc Try.prog Try.f3 Rows.wordBinomialsRow.domain false) (Rows.wordBinomialsSpec.post enc Try.prog Try.f3 false true false false) := by
  refine returnsInHanded_of_change_sized (C := Try.checked) own started (by kernel_rfl) Try.func3
    (ChangeSpec.witness6 (enc := enc) (C := Try.checked) false ⟨#[], #[.int .i64 0, .int .i64 0], []⟩ 8 (by kernel_rfl) (by kernel_rfl) (by kernel_rfl) (by kernel_rfl)) ?_
  intro W base args ds gs before hval0 hW _ hsz0 _
  have hval : ∀ (j : Nat) t v, Try.f3.params[j]? = some t → args[j]? = some v → Value.okWide Try.prog W .any base t v := hval0
  have hW' := hW
  obtain ⟨p, q, hA0, hV, rfl, hfz, hnd⟩ := hW
  have hA : DataW.TrodAll enc Try.prog W 0 (fun _ => true) true Try.f3.params.toList args.toList ds p := hA0
  have hsz : (DataW.weightsEach Try.prog (Try.f3.params.toList ++ Rows.wordBinomialsSpec.plain.varTypes Try.prog) (ds ++ gs)).all (· ≤ reachBytes) = true := hsz0
  rw [Try.params3] at hA hval hsz
  obtain ⟨v0, vs0, d0, ds0, p0, q0, hargs, rfl, rfl, h0, r0⟩ := trodAll_cons hA
  obtain ⟨v1, vs1, d1, ds1, p1, q1, rfl, rfl, rfl, h1, r1⟩ := trodAll_cons r0
  obtain ⟨rfl, rfl, rfl⟩ := trodAll_nil r1
  obtain rfl : args = #[v0, v1] := by cases args; simp_all
  obtain ⟨rfl, rfl⟩ := trodVars_none hV
  have k0 := h0
  have lt0 : ∀ x ∈ p0, x.block < W.heap.size := by obtain ⟨m, hm⟩ := k0; exact DataW.trod_lt m _ _ _ hm
  have w0 : WOK Try.prog 3 d0 := wok_arg hsz (j := 0) rfl rfl
  obtain ⟨n0, rfl, b0⟩ := op_int Try.underlying3 (hval 0 3 v0 rfl rfl) h0
  have k1 := h1
  have lt1 : ∀ x ∈ p1, x.block < W.heap.size := by obtain ⟨m, hm⟩ := k1; exact DataW.trod_lt m _ _ _ hm
  have w1 : WOK Try.prog 3 d1 := wok_arg hsz (j := 1) rfl rfl
  obtain ⟨n1, rfl, b1⟩ := op_int Try.underlying3 (hval 1 3 v1 rfl rfl) h1
  refine (law_WordBinomials n0 b0 n1 b1 W).mono fun e W' he => ?_
  cases e with
  | panicked c => exact he.elim
  | outgrown => exact he.elim
  | returned v =>
    obtain ⟨bel, rfl⟩ := he
    exact ⟨_, rfl, _, _, _, [], _, [], hW', trodAll_mk1 (shut_bool Try.underlying4 _), (trodAll_cons_mk (Below.trod laidOut (by kernel_rfl) (of_decide_eq_true (by kernel_rfl)) k0 bel lt0) (trodAll_cons_mk (Below.trod laidOut (by kernel_rfl) (of_decide_eq_true (by kernel_rfl)) k1 bel lt1) trodAll_mk0)), rfl, bel.frame _, fun h => by cases h⟩
theorem over : Rows.wordBinomialsRow.holds Try.pinned (OpenSpec.ofChange Rows.wordBinomialsSpec) :=
  OpenClaim.holds_of_wide 3 Try.f3 rfl rfl rfl rfl rfl rfl rfl ⟨rfl, rfl, rfl, rfl, rfl⟩ rfl rfl rfl rfl rfl (by kernel_rfl) Try.func3 (by kernel_rfl)
    (of_decide_eq_true (by kernel_rfl)) (by unfold Func.isWrapper; first | (rw [if_pos (by decide +kernel)]; kernel_rfl) | (rw [if_neg (by decide +kernel)]; exact ⟨rfl, rfl⟩))
    (fun os started H enc _ => lifted os started H enc)
end FWordBinomials
/-- The statement. -/
theorem wordBinomials_holds : Rows.WordBinomialsSaid := FWordBinomials.over
end Go.Proofs.Ytlcokneidokfnaa
