/-
  Statement BivariateAdds: for every description of a field and every two polynomials in two variables the law returns true. No condition.
-/
import Derived.Test.YtjpcgjllmpdmhaaZOpen40
import Derived.Test.YtjpcgjllmpdmhaaRows
namespace Go.Proofs.Ytjpcgjllmpdmhaa
open Go Go.Sx Go.Pl Go.RowKit Go.Fd Go.Alg Go.Fr

set_option maxRecDepth 10000 in
theorem law_BivariateAdds {w : World} (v0 : Value) (r : FRec) (s0 : v0 = r.v ∧ FOf w r) (u : Value) (A : List (List Int)) (s1 : LL w u A ∧ LLFit A) (v : Value) (B : List (List Int)) (s2 : LL w v B ∧ LLFit B) :
    Calls Try.prog 3 #[v0, u, v] w (RetX w fun v _ => v = .bool true) := by
  obtain ⟨p, M, mo, md⟩ := r
  obtain ⟨rfl, hr⟩ := s0
  obtain ⟨hu, _⟩ := s1
  obtain ⟨hv, _⟩ := s2
  refine calls3 Try.func3 rfl rfl ?_
  refine wc_seq ?_
  refine wc_region [0,1] rfl ?_
  refine BXA rfl wu rfl rfl ?_
  intro fb w1 hE hB hg
  refine Go.Sx.V rfl wu rfl rfl (asg rfl) ?_
  refine wr_nil (post_thenN (wc_seq (wc_seq ?_)))
  refine wc_region [0,1] rfl ?_
  refine C rfl wu rfl rfl Try.call16 (lAlive _) ?_
  rintro _ w2 hE2 rfl
  replace hB := hB.ext hE2
  replace hE := hE.trans hE2
  refine Go.Sx.V rfl wu rfl rfl (notB rfl) ?_
  refine wr_nil (post_thenN ?_)
  refine wc_condF rfl (by simp) ?_
  refine wc_skip (post_thenN (wc_seq ?_))
  have hmi := hr.ints.ext hE
  dsimp only at hmi hB
  refine wc_region [0,1,2] rfl ?_
  refine Go.Sx.V rfl wu rfl rfl (ldA rfl ag24) ?_
  refine C rfl wu rfl rfl Try.call17 (lMade p M mo md _ hmi) ?_
  rintro g w3 hE3 hm
  replace hB := hB.ext hE3
  replace hE := hE.trans hE3
  refine Go.Sx.V rfl wu rfl rfl (asg rfl) ?_
  refine wr_nil (post_thenN (wc_seq (wc_seq ?_)))
  replace hmi := hmi.ext hE3
  replace hu := hu.ext hE
  replace hv := hv.ext hE
  rcases made_split hm hmi with rfl | ⟨P, hp, hM, hF, hG⟩
  · skip
    refine wc_region [0,1,2,3,4,5,6,7,8] rfl ?_
    refine Go.Sx.V rfl wu rfl rfl (mv rfl) ?_
    refine Go.Sx.V rfl wu rfl rfl (eqlPn rfl rfl Try.underlying28) ?_
    refine Go.Sx.V rfl wu rfl rfl (mv rfl) ?_
    refine KB 14 true rfl (by rfl) ?_
    refine SK rfl rfl rfl rfl rfl ?_
    refine SK rfl rfl rfl rfl rfl ?_
    refine SK rfl rfl rfl rfl rfl ?_
    refine SK rfl rfl rfl rfl rfl ?_
    refine SK rfl rfl rfl rfl rfl ?_
    refine Go.Sx.V rfl wu rfl rfl (pk rfl rfl) ?_
    refine wr_nil (post_thenN ?_)
    refine wc_condT rfl (by simp) ?_
    refine wc_seq ?_
    refine wc_region [0] rfl ?_
    refine Go.Sx.V rfl wu rfl rfl (asg rfl) ?_
    refine wr_nil (post_thenN (wc_ret (post_thenR ?_)))
    refine post_ret1 rfl rfl ?_
    exact ⟨hE, rfl⟩
  · subst hp hM
    obtain ⟨ga, hga⟩ := hG.ptr
    have hX := Ext.refl w3
    refine wc_region [0,1,2,3,4,5,6,7,8] rfl ?_
    refine Go.Sx.V rfl wu rfl rfl (mv rfl) ?_
    rw [hga]
    refine Go.Sx.V rfl wu rfl rfl (eqlPn rfl rfl Try.underlying28) ?_
    rw [← hga]
    refine Go.Sx.V rfl wu rfl rfl (mv rfl) ?_
    refine KB 14 false rfl (by rfl) ?_
    refine Go.Sx.V rfl (wg rfl rfl) rfl rfl (mv rfl) ?_
    refine Go.Sx.V rfl (wg rfl rfl) rfl rfl (mv rfl) ?_
    refine BS (us := [u, v]) rfl (wg rfl rfl) rfl rfl rfl rfl ty86 (by intro q hq; simp only [List.mem_cons, List.not_mem_nil, or_false] at hq; rcases hq with rfl | rfl; exact hu.one; exact hv.one) ?_
    intro sv w4 hE4 hsv _
    replace hX := hX.trans hE4
    refine C rfl (wg rfl rfl) rfl rfl Try.call18 (lSmall sv _ [A, B] _ hsv.sl (bis2 (hu.ext hX) (hv.ext hX))) ?_
    rintro _ w5 hE5 rfl
    replace hX := hX.trans hE5
    refine Go.Sx.V rfl (wg rfl rfl) rfl rfl (notB rfl) ?_
    refine Go.Sx.V rfl wu rfl rfl (pk rfl rfl) ?_
    refine wr_nil (post_thenN ?_)
    refine wc_cond rfl ?_ ?_
    · intro h
      refine wc_seq ?_
      refine wc_region [0] rfl ?_
      refine Go.Sx.V rfl wu rfl rfl (asg rfl) ?_
      refine wr_nil (post_thenN (wc_ret (post_thenR ?_)))
      refine post_ret1 rfl rfl ?_
      exact ⟨hE.trans hX, rfl⟩
    · intro h
      simp at h
      obtain ⟨hA1, hA2⟩ := smallB_iff.1 h.1
      obtain ⟨hB1, hB2⟩ := smallB_iff.1 h.2
      refine wc_skip (post_thenN (wc_seq ?_))
      have hB' := hB.ext hX
      replace hu := hu.ext hX
      replace hv := hv.ext hX
      replace hG := hG.ext hX
      replace hF := hF.ext hX
      replace hE := hE.trans hX
      clear hX
      have hX := Ext.refl w5
      have rA := hA2.mono (show 12 ≤ 17592186044416 by omega)
      have rB := hB2.mono (show 12 ≤ 17592186044416 by omega)
      refine wc_draw mixed [0,1,3,4,2,5,6,7,8,9,10,12,13,14,11,15,16,17,18,19,20,21,23,24,25,22,26,27,28,29] (by kernel_rfl) ?_
      intro w6 hd _
      replace hX := hX.trans hd
      refine Go.Sx.V rfl wu rfl rfl (mv rfl) ?_
      refine Go.Sx.V rfl wu rfl rfl (mv rfl) ?_
      refine Go.Sx.V rfl wu rfl rfl (ldA rfl ag24 (hB'.ext hX)) ?_
      refine Go.Sx.V rfl wu rfl rfl (mv rfl) ?_
      refine C rfl wu rfl rfl Try.call20 (bCanon P g u A _ (hG.ext hX) (hu.ext hX) rA (by omega)) ?_
      intro c1 w7 hE7 h1
      replace hX := hX.trans hE7
      refine C rfl wu rfl rfl Try.call21 (rBCanon P mo md u A _ (hF.ext hX) (hu.ext hX) rA (by omega)) ?_
      intro c2 w8 hE8 h2
      replace hX := hX.trans hE8
      refine C rfl wu rfl rfl Try.call19 (rBSame c1 c2 _ _ _ (h1.ll.ext hE8) h2.ll) ?_
      rintro _ w9 hE9 rfl
      replace hX := hX.trans hE9
      refine Go.Sx.V rfl wu rfl rfl (mv rfl) ?_
      refine KB 28 true rfl (by rw [decide_eq_true rfl]) ?_
      refine Go.Sx.V rfl (wg rfl rfl) rfl rfl (mv rfl) ?_
      refine Go.Sx.V rfl (wg rfl rfl) rfl rfl (mv rfl) ?_
      refine Go.Sx.V rfl (wg rfl rfl) rfl rfl (mv rfl) ?_
      refine Go.Sx.V rfl (wg rfl rfl) rfl rfl (ldA rfl ag24 (hB'.ext hX)) ?_
      refine Go.Sx.V rfl (wg rfl rfl) rfl rfl (mv rfl) ?_
      refine Go.Sx.V rfl (wg rfl rfl) rfl rfl (mv rfl) ?_
      refine C rfl (wg rfl rfl) rfl rfl Try.call22 (bAdd P g u v A B _ (hG.ext hX) (hu.ext hX) (hv.ext hX) rA rB (by omega) (by omega)) ?_
      intro d1 w10 hE10 k1
      replace hX := hX.trans hE10
      refine C rfl (wg rfl rfl) rfl rfl Try.call23 (rBAdd P mo md u v A B _ (hF.ext hX) (hu.ext hX) (hv.ext hX) rA rB (by omega) (by omega)) ?_
      intro d2 w11 hE11 k2
      replace hX := hX.trans hE11
      refine C rfl (wg rfl rfl) rfl rfl Try.call19 (rBSame d1 d2 _ _ _ (k1.ll.ext hE11) k2.ll) ?_
      rintro _ w12 hE12 rfl
      replace hX := hX.trans hE12
      refine Go.Sx.V rfl wu rfl rfl (pk rfl rfl) ?_
      refine Go.Sx.V rfl wu rfl rfl (mv rfl) ?_
      refine KB 39 true rfl (by simp) ?_
      refine Go.Sx.V rfl (wg rfl rfl) rfl rfl (mv rfl) ?_
      refine Go.Sx.V rfl (wg rfl rfl) rfl rfl (mv rfl) ?_
      refine Go.Sx.V rfl (wg rfl rfl) rfl rfl (mv rfl) ?_
      refine Go.Sx.V rfl (wg rfl rfl) rfl rfl (ldA rfl ag24 (hB'.ext hX)) ?_
      refine Go.Sx.V rfl (wg rfl rfl) rfl rfl (mv rfl) ?_
      refine Go.Sx.V rfl (wg rfl rfl) rfl rfl (mv rfl) ?_
      refine C rfl (wg rfl rfl) rfl rfl Try.call24 (bMul P g u v A B 12 12 _ (hG.ext hX) (hu.ext hX) (hv.ext hX) hA2 hB2 (by omega) (by omega) (by omega) (by omega)) ?_
      intro e1 w13 hE13 m1
      replace hX := hX.trans hE13
      refine C rfl (wg rfl rfl) rfl rfl Try.call25 (rBMul P mo md u v A B 12 12 _ (hF.ext hX) (hu.ext hX) (hv.ext hX) hA2 hB2 (by omega) (by omega) (by omega) (by omega)) ?_
      intro e2 w14 hE14 m2
      replace hX := hX.trans hE14
      refine C rfl (wg rfl rfl) rfl rfl Try.call19 (rBSame e1 e2 _ _ _ (m1.ll.ext hE14) m2.ll) ?_
      rintro _ w15 hE15 rfl
      replace hX := hX.trans hE15
      refine Go.Sx.V rfl wu rfl rfl (pk rfl rfl) ?_
      refine Go.Sx.V rfl wu rfl rfl (asg rfl) ?_
      refine wr_nil (post_thenN (wc_ret ?_))
      refine post_ret1 rfl rfl ?_
      exact ⟨hE.trans hX, by simp⟩
namespace FBivariateAdds
open Go.ChangeShapes Go.WideShapes Go.ChangeAt Go.RowKit Go.Fr
theorem own : ownKnob Try.prog.godebug = none := by kernel_rfl
theorem laidOut : laidOutB Try.prog = true := by kernel_rfl
set_option maxRecDepth 100000 in
theorem lifted (os : Os) (started : os.Started) (H : Type) (enc : TypeId × Value → H) :
    ReturnsInHanded {} Try.checked os 3 .any (Rows.bivariateAddsSpec.pre6 enc Try.prog Try.f3 Rows.bivariateAddsRow.domain false) (Rows.bivariateAddsSpec.post enc Try.prog Try.f3 false true false false) := by
  refine returnsInHanded_of_change_sized (C := Try.checked) own started (by kernel_rfl) Try.func3
    (ChangeSpec.witness6 (enc := enc) (C := Try.checked) false ⟨#[], #[.agg #[.int .i64 0, .int .i64 0, .slice none 0 0], .slice none 0 0, .slice none 0 0], []⟩ 8 (by kernel_rfl) (by kernel_rfl) (by kernel_rfl) (by kernel_rfl)) ?_
  intro W base args ds gs before hval0 hW _ hsz0 _
  have hval : ∀ (j : Nat) t v, Try.f3.params[j]? = some t → args[j]? = some v → Value.okWide Try.prog W .any base t v := hval0
  have hW' := hW
  obtain ⟨p, q, hA0, hV, rfl, hfz, hnd⟩ := hW
  have hA : DataW.TrodAll enc Try.prog W 0 (fun _ => true) true Try.f3.params.toList args.toList ds p := hA0
  have hsz : (DataW.weightsEach Try.prog (Try.f3.params.toList ++ Rows.bivariateAddsSpec.plain.varTypes Try.prog) (ds ++ gs)).all (· ≤ reachBytes) = true := hsz0
  rw [Try.params3] at hA hval hsz
  obtain ⟨v0, vs0, d0, ds0, p0, q0, hargs, rfl, rfl, h0, r0⟩ := trodAll_cons hA
  obtain ⟨v1, vs1, d1, ds1, p1, q1, rfl, rfl, rfl, h1, r1⟩ := trodAll_cons r0
  obtain ⟨v2, vs2, d2, ds2, p2, q2, rfl, rfl, rfl, h2, r2⟩ := trodAll_cons r1
  obtain ⟨rfl, rfl, rfl⟩ := trodAll_nil r2
  obtain rfl : args = #[v0, v1, v2] := by cases args; simp_all
  obtain ⟨rfl, rfl⟩ := trodVars_none hV
  have k0 := h0
  have lt0 : ∀ x ∈ p0, x.block < W.heap.size := by obtain ⟨m, hm⟩ := k0; exact DataW.trod_lt m _ _ _ hm
  have w0 : WOK Try.prog 24 d0 := wok_arg hsz (j := 0) rfl rfl
  obtain ⟨x0, s0⟩ := op_field (hval 0 24 v0 rfl rfl) h0 w0
  have k1 := h1
  have lt1 : ∀ x ∈ p1, x.block < W.heap.size := by obtain ⟨m, hm⟩ := k1; exact DataW.trod_lt m _ _ _ hm
  have w1 : WOK Try.prog 26 d1 := wok_arg hsz (j := 1) rfl rfl
  obtain ⟨x1, s1⟩ := op_bi (hval 1 26 v1 rfl rfl) h1 w1
  have k2 := h2
  have lt2 : ∀ x ∈ p2, x.block < W.heap.size := by obtain ⟨m, hm⟩ := k2; exact DataW.trod_lt m _ _ _ hm
  have w2 : WOK Try.prog 26 d2 := wok_arg hsz (j := 2) rfl rfl
  obtain ⟨x2, s2⟩ := op_bi (hval 2 26 v2 rfl rfl) h2 w2
  refine (law_BivariateAdds (w := W) v0 x0 s0 v1 x1 s1 v2 x2 s2).mono fun e W' he => ?_
  cases e with
  | panicked c => exact he.elim
  | outgrown => exact he.elim
  | returned v =>
    obtain ⟨bel, rfl⟩ := he
    exact ⟨_, rfl, _, _, _, [], _, [], hW', trodAll_mk1 (shut_bool Try.underlying4 _), (trodAll_cons_mk (Below.trod laidOut (by kernel_rfl) (of_decide_eq_true (by kernel_rfl)) k0 bel lt0) (trodAll_cons_mk (Below.trod laidOut (by kernel_rfl) (of_decide_eq_true (by kernel_rfl)) k1 bel lt1) (trodAll_cons_mk (Below.trod laidOut (by kernel_rfl) (of_decide_eq_true (by kernel_rfl)) k2 bel lt2) trodAll_mk0))), rfl, bel.frame _, fun h => by cases h⟩
theorem over : Rows.bivariateAddsRow.holds Try.pinned (OpenSpec.ofChange Rows.bivariateAddsSpec) :=
  OpenClaim.holds_of_wide 3 Try.f3 rfl rfl rfl rfl rfl rfl rfl ⟨rfl, rfl, rfl, rfl, rfl⟩ rfl rfl rfl rfl rfl (by kernel_rfl) Try.func3 (by kernel_rfl)
    (of_decide_eq_true (by kernel_rfl)) (by unfold Func.isWrapper; first | (rw [if_pos (by decide +kernel)]; kernel_rfl) | (rw [if_neg (by decide +kernel)]; exact ⟨rfl, rfl⟩))
    (fun os started H enc _ => lifted os started H enc)
end FBivariateAdds
/-- The statement. -/
theorem bivariateAdds_holds : Rows.BivariateAddsSaid := FBivariateAdds.over
end Go.Proofs.Ytjpcgjllmpdmhaa
