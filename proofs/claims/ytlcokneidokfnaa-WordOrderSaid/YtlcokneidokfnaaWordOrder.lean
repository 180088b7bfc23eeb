/-
  Statement WordOrder: for all lists a, b, c the law returns true: Compare is the lexicographic order of raw lists, a total order. No condition.
-/
import Derived.Test.YtlcokneidokfnaaCompare
import Derived.Test.YtlcokneidokfnaaFrame
import Derived.Test.YtlcokneidokfnaaRows
namespace Go.Proofs.Ytlcokneidokfnaa
open Go Go.Sx Go.Pl Go.RowKit Go.Fr

set_option maxRecDepth 10000 in
theorem law_WordOrder {w : World} (a : Value) (xs : List Int) (ha : Ints w a xs) (_ : ∀ z ∈ xs, Fits z) (b : Value) (ys : List Int) (hb : Ints w b ys) (_ : ∀ z ∈ ys, Fits z) (c : Value) (zs : List Int) (hc : Ints w c zs) (_ : ∀ z ∈ zs, Fits z) :
    Calls Try.prog 4 #[a, b, c] w (RetX w fun v _ => v = .bool true) := by
  have r1 := cmpL_range xs ys
  have r2 := cmpL_anti xs ys
  refine calls3 Try.func4 rfl rfl ?_
  refine wc_seq ?_
  refine wc_region [0] rfl ?_
  refine V rfl wu rfl rfl (asg rfl) ?_
  refine wr_nil (post_thenN (wc_seq ?_))
  refine wc_region [0,1,2,3] rfl ?_
  refine V rfl wu rfl rfl (mv rfl) ?_
  refine V rfl wu rfl rfl (mv rfl) ?_
  refine C rfl wu rfl rfl Try.call19 (wCompare a b xs ys _ ha hb) ?_
  rintro _ w1 hE1 rfl
  refine V rfl wu rfl rfl (asg rfl) ?_
  refine wr_nil (post_thenN (wc_seq (wc_seq ?_)))
  refine wc_region [0,1,2,3,4,5,6,7,8,9,10,11,12,13,14,15,16,17,18] rfl ?_
  refine V rfl wu rfl rfl (mv rfl) ?_
  refine V rfl wu rfl rfl (mv rfl) ?_
  refine V rfl wu rfl rfl (mv rfl) ?_
  refine C rfl wu rfl rfl Try.call20 (rCompare a b xs ys _ (ha.ext hE1) (hb.ext hE1)) ?_
  rintro _ w2 hE2 rfl
  refine V rfl wu rfl rfl (neqI rfl rfl) ?_
  refine V rfl wu rfl rfl (mv rfl) ?_
  refine KB 17 false rfl (by simp) ?_
  refine V rfl (wg rfl rfl) rfl rfl (mv rfl) ?_
  refine V rfl (wg rfl rfl) rfl rfl (mv rfl) ?_
  refine C rfl (wg rfl rfl) rfl rfl Try.call19 (wCompare b a ys xs _ (hb.ext (hE1.trans hE2)) (ha.ext (hE1.trans hE2))) ?_
  rintro _ w3 hE3 rfl
  refine V rfl (wg rfl rfl) rfl rfl (mv rfl) ?_
  refine V rfl (wg rfl rfl) rfl rfl (negI rfl) ?_
  refine V rfl (wg rfl rfl) rfl rfl (neqI rfl rfl) ?_
  refine V rfl wu rfl rfl (pk rfl rfl) ?_
  refine V rfl wu rfl rfl (mv rfl) ?_
  refine KB 25 false rfl (by simp [r2]) ?_
  refine V rfl (wg rfl rfl) rfl rfl (mv rfl) ?_
  refine V rfl (wg rfl rfl) rfl rfl (mv rfl) ?_
  refine C rfl (wg rfl rfl) rfl rfl Try.call19 (wCompare a a xs xs _ (ha.ext ((hE1.trans hE2).trans hE3)) (ha.ext ((hE1.trans hE2).trans hE3))) ?_
  rintro _ w4 hE4 rfl
  rw [cmpL_self]
  refine V rfl (wg rfl rfl) rfl rfl (neqI rfl rfl) ?_
  refine V rfl wu rfl rfl (pk rfl rfl) ?_
  refine wr_nil (post_thenN ?_)
  have hE := ((hE1.trans hE2).trans hE3).trans hE4
  clear hE1 hE2 hE3 hE4
  refine wc_condF rfl (by simp) ?_
  refine wc_skip (post_thenN (wc_seq ?_))
  refine wc_region [0,1,2,3] rfl ?_
  refine V rfl wu rfl rfl (mv rfl) ?_
  refine V rfl wu rfl rfl (mv rfl) ?_
  refine C rfl wu rfl rfl Try.call19 (wCompare b c ys zs _ (hb.ext hE) (hc.ext hE)) ?_
  rintro _ w5 hE5 rfl
  replace hE := hE.trans hE5
  refine V rfl wu rfl rfl (asg rfl) ?_
  refine wr_nil (post_thenN (wc_seq (wc_seq ?_)))
  refine wc_region [0,1,2,3,4,5,6,7,8,9,10,11] rfl ?_
  refine V rfl wu rfl rfl (mv rfl) ?_
  refine V rfl wu rfl rfl (leqI rfl rfl) ?_
  refine V rfl wu rfl rfl (mv rfl) ?_
  refine AND (π1 := [3,4,5]) (π2 := [6,7,8,9,10,11]) (tc := 36) (tp := 39) rfl rfl rfl (by
      intro hg
      simp at hg
      refine V rfl (wg rfl rfl) rfl rfl (mv rfl) ?_
      refine V rfl (wg rfl rfl) rfl rfl (leqI rfl rfl) ?_
      refine V rfl wu rfl rfl (pk rfl rfl) ?_
      exact join rfl) (by
      intro _
      refine SK rfl rfl rfl rfl rfl ?_
      refine SK rfl rfl rfl rfl rfl ?_
      refine V rfl wu rfl rfl (pk rfl rfl) ?_
      exact join rfl) ?_
  refine V rfl wu rfl rfl (mv rfl) ?_
  refine ANDX (π1 := [7,8,9,10,11]) (π2 := []) (tc := 40) (tp := 45) rfl rfl rfl (by
      intro hg
      simp at hg
      refine V rfl (wg rfl rfl) rfl rfl (mv rfl) ?_
      refine V rfl (wg rfl rfl) rfl rfl (mv rfl) ?_
      refine C rfl (wg rfl rfl) rfl rfl Try.call19 (wCompare a c xs zs _ (ha.ext hE) (hc.ext hE)) ?_
      rintro _ w6 hE6 rfl
      refine V rfl (wg rfl rfl) rfl rfl (gtrI rfl rfl) ?_
      refine V rfl wu rfl rfl (pk rfl rfl) ?_
      exact joinX rfl) (by
      intro _
      refine SK rfl rfl rfl rfl rfl ?_
      refine SK rfl rfl rfl rfl rfl ?_
      refine SK rfl rfl rfl rfl rfl ?_
      refine SK rfl rfl rfl rfl rfl ?_
      refine V rfl wu rfl rfl (pk rfl rfl) ?_
      exact joinX rfl) ?_
  intro w7 hE7
  replace hE := hE.trans hE7
  refine wr_nil (post_thenN ?_)
  refine wc_condF rfl (by have := cmpL_trans xs ys zs; simp only [Bool.and_eq_false_iff, decide_eq_false_iff_not]; omega) ?_
  refine wc_skip (post_thenN (wc_seq ?_))
  refine wc_region [0,1,2,3,4] rfl ?_
  refine BSI (zs := [1, 2]) rfl wu rfl rfl rfl rfl ty26 ?_
  intro s1 w8 hE8 _ h1 _
  replace hE := hE.trans hE8
  refine BSI (zs := [1, 2, 0]) rfl wu rfl rfl rfl rfl ty26 ?_
  intro s2 w9 hE9 _ h2 _
  replace hE := hE.trans hE9
  refine C rfl wu rfl rfl Try.call19 (wCompare s1 s2 [1, 2] [1, 2, 0] _ (h1.ext hE9) h2) ?_
  rintro _ w10 hE10 rfl
  replace hE := hE.trans hE10
  refine V rfl wu rfl rfl (eqlI rfl rfl) ?_
  refine V rfl wu rfl rfl (asg rfl) ?_
  refine wr_nil (post_thenN (wc_ret ?_))
  refine post_ret1 rfl rfl ?_
  exact ⟨hE, rfl⟩
namespace FWordOrder
open Go.ChangeShapes Go.WideShapes Go.ChangeAt Go.RowKit Go.Fr
theorem own : ownKnob Try.prog.godebug = none := by kernel_rfl
theorem laidOut : laidOutB Try.prog = true := by kernel_rfl
set_option maxRecDepth 100000 in
theorem lifted (os : Os) (started : os.Started) (H : Type) (enc : TypeId × Value → H) :
    ReturnsInHanded {} Try.checked os 4 .any (Rows.wordOrderSpec.pre6 enc Try.prog Try.f4 Rows.wordOrderRow.domain false) (Rows.wordOrderSpec.post enc Try.prog Try.f4 false true false false) := by
  refine returnsInHanded_of_change_sized (C := Try.checked) own started (by kernel_rfl) Try.func4
    (ChangeSpec.witness6 (enc := enc) (C := Try.checked) false ⟨#[], #[.slice none 0 0, .slice none 0 0, .slice none 0 0], []⟩ 8 (by kernel_rfl) (by kernel_rfl) (by kernel_rfl) (by kernel_rfl)) ?_
  intro W base args ds gs before hval0 hW _ hsz0 _
  have hval : ∀ (j : Nat) t v, Try.f4.params[j]? = some t → args[j]? = some v → Value.okWide Try.prog W .any base t v := hval0
  have hW' := hW
  obtain ⟨p, q, hA0, hV, rfl, hfz, hnd⟩ := hW
  have hA : DataW.TrodAll enc Try.prog W 0 (fun _ => true) true Try.f4.params.toList args.toList ds p := hA0
  have hsz : (DataW.weightsEach Try.prog (Try.f4.params.toList ++ Rows.wordOrderSpec.plain.varTypes Try.prog) (ds ++ gs)).all (· ≤ reachBytes) = true := hsz0
  rw [Try.params4] at hA hval hsz
  obtain ⟨v0, vs0, d0, ds0, p0, q0, hargs, rfl, rfl, h0, r0⟩ := trodAll_cons hA
  obtain ⟨v1, vs1, d1, ds1, p1, q1, rfl, rfl, rfl, h1, r1⟩ := trodAll_cons r0
  obtain ⟨v2, vs2, d2, ds2, p2, q2, rfl, rfl, rfl, h2, r2⟩ := trodAll_cons r1
  obtain ⟨rfl, rfl, rfl⟩ := trodAll_nil r2
  obtain rfl : args = #[v0, v1, v2] := by cases args; simp_all
  obtain ⟨rfl, rfl⟩ := trodVars_none hV
  have k0 := h0
  have lt0 : ∀ x ∈ p0, x.block < W.heap.size := by obtain ⟨m, hm⟩ := k0; exact DataW.trod_lt m _ _ _ hm
  have w0 : WOK Try.prog 26 d0 := wok_arg hsz (j := 0) rfl rfl
  obtain ⟨z0, s0, b0⟩ := op_ints Try.underlying26 Try.underlying3 (by kernel_rfl) (by kernel_rfl) (hval 0 26 v0 rfl rfl) h0 w0
  have k1 := h1
  have lt1 : ∀ x ∈ p1, x.block < W.heap.size := by obtain ⟨m, hm⟩ := k1; exact DataW.trod_lt m _ _ _ hm
  have w1 : WOK Try.prog 26 d1 := wok_arg hsz (j := 1) rfl rfl
  obtain ⟨z1, s1, b1⟩ := op_ints Try.underlying26 Try.underlying3 (by kernel_rfl) (by kernel_rfl) (hval 1 26 v1 rfl rfl) h1 w1
  have k2 := h2
  have lt2 : ∀ x ∈ p2, x.block < W.heap.size := by obtain ⟨m, hm⟩ := k2; exact DataW.trod_lt m _ _ _ hm
  have w2 : WOK Try.prog 26 d2 := wok_arg hsz (j := 2) rfl rfl
  obtain ⟨z2, s2, b2⟩ := op_ints Try.underlying26 Try.underlying3 (by kernel_rfl) (by kernel_rfl) (hval 2 26 v2 rfl rfl) h2 w2
  refine (law_WordOrder (w := W) v0 z0 s0 b0 v1 z1 s1 b1 v2 z2 s2 b2).mono fun e W' he => ?_
  cases e with
  | panicked c => exact he.elim
  | outgrown => exact he.elim
  | returned v =>
    obtain ⟨bel, rfl⟩ := he
    exact ⟨_, rfl, _, _, _, [], _, [], hW', trodAll_mk1 (shut_bool Try.underlying4 _), (trodAll_cons_mk (Below.trod laidOut (by kernel_rfl) (of_decide_eq_true (by kernel_rfl)) k0 bel lt0) (trodAll_cons_mk (Below.trod laidOut (by kernel_rfl) (of_decide_eq_true (by kernel_rfl)) k1 bel lt1) (trodAll_cons_mk (Below.trod laidOut (by kernel_rfl) (of_decide_eq_true (by kernel_rfl)) k2 bel lt2) trodAll_mk0))), rfl, bel.frame _, fun h => by cases h⟩
theorem over : Rows.wordOrderRow.holds Try.pinned (OpenSpec.ofChange Rows.wordOrderSpec) :=
  OpenClaim.holds_of_wide 4 Try.f4 rfl rfl rfl rfl rfl rfl rfl ⟨rfl, rfl, rfl, rfl, rfl⟩ rfl rfl rfl rfl rfl (by kernel_rfl) Try.func4 (by kernel_rfl)
    (of_decide_eq_true (by kernel_rfl)) (by unfold Func.isWrapper; first | (rw [if_pos (by decide +kernel)]; kernel_rfl) | (rw [if_neg (by decide +kernel)]; exact ⟨rfl, rfl⟩))
    (fun os started H enc _ => lifted os started H enc)
end FWordOrder
/-- The statement. -/
theorem wordOrder_holds : Rows.WordOrderSaid := FWordOrder.over
end Go.Proofs.Ytlcokneidokfnaa
