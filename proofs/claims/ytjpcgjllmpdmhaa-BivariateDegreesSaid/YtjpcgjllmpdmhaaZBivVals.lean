/-
  Statements BivariateValues, BivariateSubstitutes and BivariateDegrees: for every description of a field and all arguments the laws return true. No condition.
-/
import Derived.Test.YtjpcgjllmpdmhaaZOpen40
import Derived.Test.YtjpcgjllmpdmhaaZRBiv2
import Derived.Test.YtjpcgjllmpdmhaaZMPa
import Derived.Test.YtjpcgjllmpdmhaaRows
namespace Go.Proofs.Ytjpcgjllmpdmhaa
open Go Go.Sx Go.Pl Go.RowKit Go.Fd Go.Alg Go.Fr

set_option maxRecDepth 10000 in
theorem law_BivariateValues {w : World} (v0 : Value) (r : FRec) (s0 : v0 = r.v ∧ FOf w r) (v1 : Value) (x1 : B2Rec) (s1 : v1 = x1.val ∧ LL w x1.u x1.A ∧ LL w x1.v x1.B) (v2 : Value) (x2 : Int × Int) (s2 : v2 = .agg #[.int .i64 x2.1, .int .i64 x2.2]) :
    Calls Try.prog 9 #[v0, v1, v2] w (RetX w fun v _ => v = .bool true) := by
  obtain ⟨p, M, mo, md⟩ := r
  obtain ⟨rfl, hr⟩ := s0
  obtain ⟨u, v, A, B⟩ := x1
  obtain ⟨rfl, hu, hv⟩ := s1
  obtain ⟨x, y⟩ := x2
  subst s2
  dsimp only at hu hv
  refine calls3 Try.func9 rfl rfl ?_
  refine wc_seq ?_
  refine wc_region [0,1,2,3] rfl ?_
  refine BXA rfl wu rfl rfl ?_
  intro fb w1 hE hB hg
  refine BXA rfl wu rfl rfl ?_
  intro ab w2 hE2 hB2 hg2
  replace hB := hB.ext hE2
  replace hE := hE.trans hE2
  refine BXA rfl wu rfl rfl ?_
  intro cb w3 hE3 hB3 hg3
  replace hB := hB.ext hE3
  replace hB2 := hB2.ext hE3
  replace hE := hE.trans hE3
  refine Go.Sx.V rfl wu rfl rfl (asg rfl) ?_
  refine wr_nil (post_thenN (wc_seq (wc_seq ?_)))
  refine wc_region [0,1] rfl ?_
  refine C rfl wu rfl rfl Try.call16 (lAlive _) ?_
  rintro _ w4 hE4 rfl
  replace hB := hB.ext hE4
  replace hB2 := hB2.ext hE4
  replace hB3 := hB3.ext hE4
  replace hE := hE.trans hE4
  refine Go.Sx.V rfl wu rfl rfl (notB rfl) ?_
  refine wr_nil (post_thenN ?_)
  refine wc_condF rfl (by simp) ?_
  refine wc_skip (post_thenN (wc_seq ?_))
  have hmi := hr.ints.ext hE
  dsimp only at hmi hB
  refine wc_region [0,1,2] rfl ?_
  refine Go.Sx.V rfl wu rfl rfl (ldA rfl ag24) ?_
  refine C rfl wu rfl rfl Try.call17 (lMade p M mo md _ hmi) ?_
  rintro g w5 hE5 hm
  replace hB := hB.ext hE5
  replace hB2 := hB2.ext hE5
  replace hB3 := hB3.ext hE5
  replace hE := hE.trans hE5
  refine Go.Sx.V rfl wu rfl rfl (asg rfl) ?_
  refine wr_nil (post_thenN (wc_seq ?_))
  replace hmi := hmi.ext hE5
  replace hu := hu.ext hE
  replace hv := hv.ext hE
  have hX := Ext.refl w5
  refine wc_draw mixed [0,1,2,3,4,5] (by kernel_rfl) ?_
  intro w6 hd _
  replace hX := hX.trans hd
  refine Go.Sx.V rfl wu rfl rfl (iadA rfl rfl ar37) ?_
  refine Go.Sx.V rfl wu rfl rfl (ldB rfl na26) ?_
  refine Go.Sx.V rfl wu rfl rfl (iadA rfl rfl ar37) ?_
  refine Go.Sx.V rfl wu rfl rfl (ldB rfl na26) ?_
  refine Go.Sx.V rfl wu rfl rfl (asg rfl) ?_
  refine Go.Sx.V rfl wu rfl rfl (asg rfl) ?_
  refine wr_nil (post_thenN (wc_seq (wc_seq ?_)))
  rcases made_split hm hmi with rfl | ⟨P, hp, hM, hF, hG⟩
  · skip
    refine wc_region [0,1,2,3,4,5,6,7,8] rfl ?_
    refine Go.Sx.V rfl wu rfl rfl (mv rfl) ?_
    refine Go.Sx.V rfl wu rfl rfl (eqlPn rfl rfl Try.underlying28) ?_
    refine Go.Sx.V rfl wu rfl rfl (mv rfl) ?_
    refine KB 22 true rfl (by rfl) ?_
    refine SK rfl rfl rfl rfl rfl ?_
    refine SK rfl rfl rfl rfl rfl ?_
    refine SK rfl rfl rfl rfl rfl ?_
    refine SK rfl rfl rfl rfl rfl ?_
    refine SK rfl rfl rfl rfl rfl ?_
    refine Go.Sx.V rfl wu rfl rfl (pk rfl rfl) ?_
    refine wr_nil (post_thenN ?_)
    refine wc_condT rfl (by simp) ?_
    refine wc_seq ?_
    refine wc_region [0] rfl ?_
    refine Go.Sx.V rfl wu rfl rfl (asg rfl) ?_
    refine wr_nil (post_thenN (wc_ret (post_thenR ?_)))
    refine post_ret1 rfl rfl ?_
    exact ⟨hE.trans hX, rfl⟩
  · subst hp hM
    obtain ⟨ga, hga⟩ := hG.ptr
    refine wc_region [0,1,2,3,4,5,6,7,8] rfl ?_
    refine Go.Sx.V rfl wu rfl rfl (mv rfl) ?_
    rw [hga]
    refine Go.Sx.V rfl wu rfl rfl (eqlPn rfl rfl Try.underlying28) ?_
    rw [← hga]
    refine Go.Sx.V rfl wu rfl rfl (mv rfl) ?_
    refine KB 22 false rfl (by rfl) ?_
    refine Go.Sx.V rfl (wg rfl rfl) rfl rfl (mv rfl) ?_
    refine Go.Sx.V rfl (wg rfl rfl) rfl rfl (mv rfl) ?_
    refine BS (us := [u, v]) rfl (wg rfl rfl) rfl rfl rfl rfl ty86 (by intro q hq; simp only [List.mem_cons, List.not_mem_nil, or_false] at hq; rcases hq with rfl | rfl; exact hu.one; exact hv.one) ?_
    intro sv w7 hE7 hsv _
    replace hX := hX.trans hE7
    refine C rfl (wg rfl rfl) rfl rfl Try.call18 (lSmall sv _ [A, B] _ hsv.sl (bis2 (hu.ext hX) (hv.ext hX))) ?_
    rintro _ w8 hE8 rfl
    replace hX := hX.trans hE8
    refine Go.Sx.V rfl (wg rfl rfl) rfl rfl (notB rfl) ?_
    refine Go.Sx.V rfl wu rfl rfl (pk rfl rfl) ?_
    refine wr_nil (post_thenN ?_)
    refine wc_cond rfl ?_ ?_
    · intro h
      refine wc_seq ?_
      refine wc_region [0] rfl ?_
      refine Go.Sx.V rfl wu rfl rfl (asg rfl) ?_
      refine wr_nil (post_thenN (wc_ret (post_thenR ?_)))
      refine post_ret1 rfl rfl ?_
      exact ⟨hE.trans hX, rfl⟩
    · intro h
      simp at h
      obtain ⟨hA1, hA2⟩ := smallB_iff.1 h.1
      obtain ⟨hB1, hB2'⟩ := smallB_iff.1 h.2
      have rA := hA2.mono (show 12 ≤ 17592186044416 by omega)
      have rB := hB2'.mono (show 12 ≤ 17592186044416 by omega)
      refine wc_skip (post_thenN (wc_seq ?_))
      refine wc_draw mixed [0,1,2,3,4,5,7,8,9,10,11,12,6,13,14,15] (by kernel_rfl) ?_
      intro w9 hd9 _
      replace hX := hX.trans hd9
      refine Go.Sx.V rfl wu rfl rfl (mv rfl) ?_
      refine Go.Sx.V rfl wu rfl rfl (mv rfl) ?_
      refine Go.Sx.V rfl wu rfl rfl (iadA rfl rfl ar43) ?_
      refine Go.Sx.V rfl wu rfl rfl (ldB rfl na3) ?_
      refine Go.Sx.V rfl wu rfl rfl (iadA rfl rfl ar43) ?_
      refine Go.Sx.V rfl wu rfl rfl (ldB rfl na3) ?_
      refine Go.Sx.V rfl wu rfl rfl (mv rfl) ?_
      refine Go.Sx.V rfl wu rfl rfl (mv rfl) ?_
      refine Go.Sx.V rfl wu rfl rfl (iadA rfl rfl ar43) ?_
      refine Go.Sx.V rfl wu rfl rfl (ldB rfl na3) ?_
      refine Go.Sx.V rfl wu rfl rfl (iadA rfl rfl ar43) ?_
      refine Go.Sx.V rfl wu rfl rfl (ldB rfl na3) ?_
      refine C rfl wu rfl rfl Try.call38 (bEval P g u A x y _ (hG.ext hX) (hu.ext hX) rA) ?_
      rintro _ w10 hE10 rfl
      replace hX := hX.trans hE10
      refine C rfl wu rfl rfl Try.call38 (bEval P g v B x y _ (hG.ext hX) (hv.ext hX) rB) ?_
      rintro _ w11 hE11 rfl
      replace hX := hX.trans hE11
      refine Go.Sx.V rfl wu rfl rfl (asg rfl) ?_
      refine Go.Sx.V rfl wu rfl rfl (asg rfl) ?_
      refine wr_nil (post_thenN (wc_seq (wc_seq ?_)))
      refine wc_region [0,1,2,3,4,5,6,7,8] rfl ?_
      refine Go.Sx.V rfl wu rfl rfl (mv rfl) ?_
      refine Go.Sx.V rfl wu rfl rfl (ldA rfl ag24) ?_
      refine Go.Sx.V rfl wu rfl rfl (mv rfl) ?_
      refine Go.Sx.V rfl wu rfl rfl (iadA rfl rfl ar43) ?_
      refine Go.Sx.V rfl wu rfl rfl (ldB rfl na3) ?_
      refine Go.Sx.V rfl wu rfl rfl (iadA rfl rfl ar43) ?_
      refine Go.Sx.V rfl wu rfl rfl (ldB rfl na3) ?_
      refine C rfl wu rfl rfl Try.call39 (rBEval P mo md u A x y _ (hF.ext hX) (hu.ext hX)) ?_
      rintro _ w12 hE12 rfl
      replace hX := hX.trans hE12
      refine Go.Sx.V rfl wu rfl rfl (neqI rfl rfl) ?_
      refine wr_nil (post_thenN ?_)
      refine wc_condF rfl (by simp) ?_
      refine wc_skip (post_thenN (wc_seq ?_))
      have xa := (XB.rb ((hA2.xb (P := P)).add (hB2'.xb (P := P)))).mono (show 12 ≤ 17592186044416 by omega)
      have xm := (XB.rb ((hA2.xb (P := P)).mul (hB2'.xb (P := P)))).mono (show 12 + 12 ≤ 17592186044416 by omega)
      refine wc_draw mixed [0,1,2,3,5,6,7,8,10,11,12,4,9,13,14,15,16,17,18,19,21,22,23,24,26,27,28,20,25,29,30,31,32] (by kernel_rfl) ?_
      intro w13 hd13 _
      replace hX := hX.trans hd13
      refine Go.Sx.V rfl wu rfl rfl (mv rfl) ?_
      refine Go.Sx.V rfl wu rfl rfl (mv rfl) ?_
      refine Go.Sx.V rfl wu rfl rfl (mv rfl) ?_
      refine Go.Sx.V rfl wu rfl rfl (mv rfl) ?_
      refine Go.Sx.V rfl wu rfl rfl (iadA rfl rfl ar43) ?_
      refine Go.Sx.V rfl wu rfl rfl (ldB rfl na3) ?_
      refine Go.Sx.V rfl wu rfl rfl (iadA rfl rfl ar43) ?_
      refine Go.Sx.V rfl wu rfl rfl (ldB rfl na3) ?_
      refine Go.Sx.V rfl wu rfl rfl (ldA rfl ag24) ?_
      refine Go.Sx.V rfl wu rfl rfl (mv rfl) ?_
      refine Go.Sx.V rfl wu rfl rfl (mv rfl) ?_
      refine C rfl wu rfl rfl Try.call22 (bAdd P g u v A B _ (hG.ext hX) (hu.ext hX) (hv.ext hX) rA rB (by omega) (by omega)) ?_
      intro d w14 hE14 hd
      replace hX := hX.trans hE14
      refine C rfl wu rfl rfl Try.call38 (bEval P g d _ x y _ (hG.ext hX) hd.ll xa) ?_
      rintro _ w15 hE15 rfl
      replace hX := hX.trans hE15
      refine C rfl wu rfl rfl Try.call40 (rAdd P mo md _ _ _ (hF.ext hX)) ?_
      rintro _ w16 hE16 rfl
      replace hX := hX.trans hE16
      refine Go.Sx.V rfl wu rfl rfl (eqlI rfl rfl) ?_
      refine Go.Sx.V rfl wu rfl rfl (mv rfl) ?_
      refine KB 67 true rfl (by rw [bz_bcl, inK_val, inK_val, (val2_hom _ _).add]; simp) ?_
      refine Go.Sx.V rfl (wg rfl rfl) rfl rfl (mv rfl) ?_
      refine Go.Sx.V rfl (wg rfl rfl) rfl rfl (mv rfl) ?_
      refine Go.Sx.V rfl (wg rfl rfl) rfl rfl (mv rfl) ?_
      refine Go.Sx.V rfl (wg rfl rfl) rfl rfl (mv rfl) ?_
      refine Go.Sx.V rfl (wg rfl rfl) rfl rfl (iadA rfl rfl ar43) ?_
      refine Go.Sx.V rfl (wg rfl rfl) rfl rfl (ldB rfl na3) ?_
      refine Go.Sx.V rfl (wg rfl rfl) rfl rfl (iadA rfl rfl ar43) ?_
      refine Go.Sx.V rfl (wg rfl rfl) rfl rfl (ldB rfl na3) ?_
      refine Go.Sx.V rfl (wg rfl rfl) rfl rfl (ldA rfl ag24) ?_
      refine Go.Sx.V rfl (wg rfl rfl) rfl rfl (mv rfl) ?_
      refine Go.Sx.V rfl (wg rfl rfl) rfl rfl (mv rfl) ?_
      refine C rfl (wg rfl rfl) rfl rfl Try.call24 (bMul P g u v A B 12 12 _ (hG.ext hX) (hu.ext hX) (hv.ext hX) hA2 hB2' (by omega) (by omega) (by omega) (by omega)) ?_
      intro m w17 hE17 hm2
      replace hX := hX.trans hE17
      refine C rfl (wg rfl rfl) rfl rfl Try.call38 (bEval P g m _ x y _ (hG.ext hX) hm2.ll xm) ?_
      rintro _ w18 hE18 rfl
      replace hX := hX.trans hE18
      refine C rfl (wg rfl rfl) rfl rfl Try.call41 (rMul P mo md _ _ _ (hF.ext hX)) ?_
      rintro _ w19 hE19 rfl
      replace hX := hX.trans hE19
      refine Go.Sx.V rfl (wg rfl rfl) rfl rfl (eqlI rfl rfl) ?_
      refine Go.Sx.V rfl wu rfl rfl (pk rfl rfl) ?_
      refine Go.Sx.V rfl wu rfl rfl (asg rfl) ?_
      refine wr_nil (post_thenN (wc_ret ?_))
      refine post_ret1 rfl rfl ?_
      exact ⟨hE.trans hX, by rw [bz_bcl, inK_val, inK_val, (val2_hom _ _).mul]; simp⟩

set_option maxRecDepth 10000 in
theorem law_BivariateSubstitutes {w : World} (v0 : Value) (r : FRec) (s0 : v0 = r.v ∧ FOf w r) (u : Value) (A : List (List Int)) (s1 : LL w u A ∧ LLFit A) (v2 : Value) (x2 : I2Rec) (s2 : v2 = x2.val ∧ Ints w x2.u x2.a ∧ Ints w x2.v x2.b) :
    Calls Try.prog 10 #[v0, u, v2] w (RetX w fun v _ => v = .bool true) := by
  obtain ⟨p, M, mo, md⟩ := r
  obtain ⟨rfl, hr⟩ := s0
  obtain ⟨hv, xv, a, b⟩ := x2
  obtain ⟨rfl, hh, hxs⟩ := s2
  obtain ⟨hu, _⟩ := s1
  dsimp only at hh hxs
  refine calls3 Try.func10 rfl rfl ?_
  refine wc_seq ?_
  refine wc_region [0,1,2] rfl ?_
  refine BXA rfl wu rfl rfl ?_
  intro fb w1 hE hB hg
  refine BXA rfl wu rfl rfl ?_
  intro cb w3 hE3 hB3 hg3
  replace hB := hB.ext hE3
  replace hE := hE.trans hE3
  refine Go.Sx.V rfl wu rfl rfl (asg rfl) ?_
  refine wr_nil (post_thenN (wc_seq (wc_seq ?_)))
  refine wc_region [0,1] rfl ?_
  refine C rfl wu rfl rfl Try.call16 (lAlive _) ?_
  rintro _ w4 hE4 rfl
  replace hB := hB.ext hE4
  replace hB3 := hB3.ext hE4
  replace hE := hE.trans hE4
  refine Go.Sx.V rfl wu rfl rfl (notB rfl) ?_
  refine wr_nil (post_thenN ?_)
  refine wc_condF rfl (by simp) ?_
  refine wc_skip (post_thenN (wc_seq ?_))
  have hmi := hr.ints.ext hE
  dsimp only at hmi hB
  refine wc_region [0,1,2] rfl ?_
  refine Go.Sx.V rfl wu rfl rfl (ldA rfl ag24) ?_
  refine C rfl wu rfl rfl Try.call17 (lMade p M mo md _ hmi) ?_
  rintro g w5 hE5 hm
  replace hB := hB.ext hE5
  replace hB3 := hB3.ext hE5
  replace hE := hE.trans hE5
  refine Go.Sx.V rfl wu rfl rfl (asg rfl) ?_
  refine wr_nil (post_thenN (wc_seq ?_))
  replace hmi := hmi.ext hE5
  replace hu := hu.ext hE
  replace hh := hh.ext hE
  replace hxs := hxs.ext hE
  have hX := Ext.refl w5
  refine wc_draw mixed [0,1,2,3,4,5] (by kernel_rfl) ?_
  intro w6 hd _
  replace hX := hX.trans hd
  refine Go.Sx.V rfl wu rfl rfl (iadA rfl rfl ar61) ?_
  refine Go.Sx.V rfl wu rfl rfl (ldB rfl na22) ?_
  refine Go.Sx.V rfl wu rfl rfl (iadA rfl rfl ar61) ?_
  refine Go.Sx.V rfl wu rfl rfl (ldB rfl na22) ?_
  refine Go.Sx.V rfl wu rfl rfl (asg rfl) ?_
  refine Go.Sx.V rfl wu rfl rfl (asg rfl) ?_
  refine wr_nil (post_thenN (wc_seq (wc_seq ?_)))
  rcases made_split hm hmi with rfl | ⟨P, hp, hM, hF, hG⟩
  · skip
    refine wc_region [0,1,2,3,4,5,6,7,8,9,10,11,12,13,14,15,16,17] rfl ?_
    refine Go.Sx.V rfl wu rfl rfl (mv rfl) ?_
    refine Go.Sx.V rfl wu rfl rfl (eqlPn rfl rfl Try.underlying28) ?_
    refine Go.Sx.V rfl wu rfl rfl (mv rfl) ?_
    refine KB 23 true rfl (by rfl) ?_
    refine SK rfl rfl rfl rfl rfl ?_
    refine SK rfl rfl rfl rfl rfl ?_
    refine SK rfl rfl rfl rfl rfl ?_
    refine SK rfl rfl rfl rfl rfl ?_
    refine Go.Sx.V rfl wu rfl rfl (pk rfl rfl) ?_
    refine Go.Sx.V rfl wu rfl rfl (mv rfl) ?_
    refine KB 29 true rfl (by rfl) ?_
    refine SK rfl rfl rfl rfl rfl ?_
    refine SK rfl rfl rfl rfl rfl ?_
    refine SK rfl rfl rfl rfl rfl ?_
    refine Go.Sx.V rfl wu rfl rfl (pk rfl rfl) ?_
    refine Go.Sx.V rfl wu rfl rfl (mv rfl) ?_
    refine KB 34 true rfl (by rfl) ?_
    refine SK rfl rfl rfl rfl rfl ?_
    refine SK rfl rfl rfl rfl rfl ?_
    refine SK rfl rfl rfl rfl rfl ?_
    refine Go.Sx.V rfl wu rfl rfl (pk rfl rfl) ?_
    refine wr_nil (post_thenN ?_)
    refine wc_condT rfl (by simp) ?_
    refine wc_seq ?_
    refine wc_region [0] rfl ?_
    refine Go.Sx.V rfl wu rfl rfl (asg rfl) ?_
    refine wr_nil (post_thenN (wc_ret (post_thenR ?_)))
    refine post_ret1 rfl rfl ?_
    exact ⟨hE.trans hX, rfl⟩
  · subst hp hM
    obtain ⟨ga, hga⟩ := hG.ptr
    by_cases hsm : smallB A = true
    · obtain ⟨hA1, hA2⟩ := smallB_iff.1 hsm
      refine wc_region [0,1,2,3,4,5,6,7,8,9,10,11,12,13,14,15,16,17] rfl ?_
      refine Go.Sx.V rfl wu rfl rfl (mv rfl) ?_
      rw [hga]
      refine Go.Sx.V rfl wu rfl rfl (eqlPn rfl rfl Try.underlying28) ?_
      rw [← hga]
      refine Go.Sx.V rfl wu rfl rfl (mv rfl) ?_
      refine KB 23 false rfl (by rfl) ?_
      refine Go.Sx.V rfl (wg rfl rfl) rfl rfl (mv rfl) ?_
      refine BS (us := [u]) rfl (wg rfl rfl) rfl rfl rfl rfl ty86 (by intro q hq; obtain rfl : q = u := (by simpa using hq); exact hu.one) ?_
      intro sv w7 hE7 hsv _
      replace hX := hX.trans hE7
      refine C rfl (wg rfl rfl) rfl rfl Try.call18 (lSmall sv _ [A] _ hsv.sl (bis1 (hu.ext hX))) ?_
      rintro _ w8 hE8 rfl
      replace hX := hX.trans hE8
      refine Go.Sx.V rfl (wg rfl rfl) rfl rfl (notB rfl) ?_
      refine Go.Sx.V rfl wu rfl rfl (pk rfl rfl) ?_
      refine Go.Sx.V rfl wu rfl rfl (mv rfl) ?_
      refine KB 29 false rfl (by simp [hsm]) ?_
      refine Go.Sx.V rfl (wg rfl rfl) rfl rfl (mv rfl) ?_
      refine Go.Sx.V rfl (wg rfl rfl) rfl rfl (lenI rfl ty22 hh) ?_
      refine Go.Sx.V rfl (wg rfl rfl) rfl rfl (gtrI rfl rfl) ?_
      refine Go.Sx.V rfl wu rfl rfl (pk rfl rfl) ?_
      refine Go.Sx.V rfl wu rfl rfl (mv rfl) ?_
      refine OR (π1 := [14,15,16,17]) (π2 := []) (tc := 34) (tp := 38) rfl rfl rfl (by
          intro _
          refine SK rfl rfl rfl rfl rfl ?_
          refine SK rfl rfl rfl rfl rfl ?_
          refine SK rfl rfl rfl rfl rfl ?_
          refine Go.Sx.V rfl wu rfl rfl (pk rfl rfl) ?_
          exact join rfl) (by
          intro hg
          simp at hg
          refine Go.Sx.V rfl (wg rfl rfl) rfl rfl (mv rfl) ?_
          refine Go.Sx.V rfl (wg rfl rfl) rfl rfl (lenI rfl ty22 hxs) ?_
          refine Go.Sx.V rfl (wg rfl rfl) rfl rfl (gtrI rfl rfl) ?_
          refine Go.Sx.V rfl wu rfl rfl (pk rfl rfl) ?_
          exact join rfl) ?_
      refine wr_nil (post_thenN ?_)
      refine wc_cond rfl ?_ ?_
      · intro h
        refine wc_seq ?_
        refine wc_region [0] rfl ?_
        refine Go.Sx.V rfl wu rfl rfl (asg rfl) ?_
        refine wr_nil (post_thenN (wc_ret (post_thenR ?_)))
        refine post_ret1 rfl rfl ?_
        exact ⟨hE.trans hX, rfl⟩
      · intro h
        simp at h
        have ha6 : a.length ≤ 6 := by omega
        have rA := hA2.mono (show 12 ≤ 17592186044416 by omega)
        have hab : (A.length + 1) * a.length ≤ 7 * 6 := Nat.mul_le_mul (by omega) ha6
        refine wc_skip (post_thenN (wc_seq ?_))
        refine wc_region [0,1,2,3,4] rfl ?_
        refine Go.Sx.V rfl wu rfl rfl (mv rfl) ?_
        refine Go.Sx.V rfl wu rfl rfl (mv rfl) ?_
        refine Go.Sx.V rfl wu rfl rfl (mv rfl) ?_
        refine C rfl wu rfl rfl Try.call42 (bSubst P g u hv A a 12 _ (hG.ext hX) (hu.ext hX) (hh.ext hX) hA2 (by omega)) ?_
        intro s w9 hE9 hs
        replace hX := hX.trans hE9
        have hsi := OwnI.ints hs
        refine Go.Sx.V rfl wu rfl rfl (asg rfl) ?_
        refine wr_nil (post_thenN (wc_seq (wc_seq ?_)))
        refine wc_region [0,1,2,3,4,5,6] rfl ?_
        refine Go.Sx.V rfl wu rfl rfl (mv rfl) ?_
        refine Go.Sx.V rfl wu rfl rfl (ldA rfl ag24) ?_
        refine Go.Sx.V rfl wu rfl rfl (mv rfl) ?_
        refine Go.Sx.V rfl wu rfl rfl (mv rfl) ?_
        refine C rfl wu rfl rfl Try.call33 (rBSubst P mo md u hv A a 12 _ (hF.ext hX) (hu.ext hX) (hh.ext hX) hA2 (by omega) (by omega) (by omega)) ?_
        intro s2 w10 hE10 hs2
        replace hX := hX.trans hE10
        replace hsi := hsi.ext hE10
        refine C rfl wu rfl rfl Try.call31 (lSame s s2 _ _ _ hsi (OwnI.ints hs2)) ?_
        rintro _ w11 hE11 rfl
        replace hX := hX.trans hE11
        replace hsi := hsi.ext hE11
        refine Go.Sx.V rfl wu rfl rfl (notB rfl) ?_
        refine wr_nil (post_thenN ?_)
        refine wc_condF rfl (by simp) ?_
        refine wc_skip (post_thenN (wc_seq (wc_seq ?_)))
        have hX11 := Ext.refl w11
        refine wc_region [0,1,2] rfl ?_
        refine Go.Sx.V rfl wu rfl rfl (mv rfl) ?_
        refine Go.Sx.V rfl wu rfl rfl (lenI rfl ty22 hxs) ?_
        refine Go.Sx.V rfl wu rfl rfl (mv rfl) ?_
        refine wr_nil (post_thenN (wc_block ?_))
        refine wc_loop (fun i : Nat => [(1, u), (3, .pointer (some ⟨fb, 0, none⟩)), (7, g), (8, hv), (10, s), (50, xv), (51, .int .i64 b.length), (52, .int .i64 i)])
          (fun i w' => i ≤ b.length ∧ Ext w5 w' ∧ Ext w11 w') (fun i => b.length - i) 0 ⟨rfl, rfl, rfl, rfl, rfl, rfl, rfl, rfl, trivial⟩ ⟨by omega, hX, hX11⟩ ?_
        clear hX hX11
        rintro i w12 ⟨i1, hX, hX11⟩
        have hble := hxs.le
        try dsimp only
        refine wc_seq ?_
        refine wc_region [0] rfl ?_
        refine Go.Sx.V rfl wu rfl rfl (lssI rfl rfl) ?_
        refine wr_nil (post_thenN (wc_seq ?_))
        refine wc_cond rfl ?_ ?_
        · intro hc
          simp at hc
          refine wc_skip (post_thenN (wc_seq (wc_block (wc_seq ?_))))
          refine wc_region [0,1,2] rfl ?_
          refine Go.Sx.V rfl wu rfl rfl (iadI rfl rfl ty22 hxs (by omega) (by omega)) ?_
          refine Go.Sx.V rfl wu rfl rfl (ldI rfl na3 hxs hX) ?_
          refine Go.Sx.V rfl wu rfl rfl (asg rfl) ?_
          refine wr_nil (post_thenN (wc_seq ?_))
          refine wc_draw mixed [0,1,2,4,5,6,7,8,9,3,10,11,12] (by kernel_rfl) ?_
          intro w13 hd13 _
          replace hX := hX.trans hd13
          replace hX11 := hX11.trans hd13
          refine Go.Sx.V rfl wu rfl rfl (ldA rfl ag24 (hB.ext hX)) ?_
          refine Go.Sx.V rfl wu rfl rfl (mv rfl) ?_
          refine Go.Sx.V rfl wu rfl rfl (mv rfl) ?_
          refine Go.Sx.V rfl wu rfl rfl (mv rfl) ?_
          refine Go.Sx.V rfl wu rfl rfl (mv rfl) ?_
          refine Go.Sx.V rfl wu rfl rfl (mv rfl) ?_
          refine Go.Sx.V rfl wu rfl rfl (ldA rfl ag24 (hB.ext hX)) ?_
          refine Go.Sx.V rfl wu rfl rfl (mv rfl) ?_
          refine Go.Sx.V rfl wu rfl rfl (mv rfl) ?_
          refine C rfl wu rfl rfl Try.call43 (rPEval P mo md s _ (gi b i) _ (hF.ext hX) (hsi.ext hX11)) ?_
          rintro _ w14 hE14 rfl
          replace hX := hX.trans hE14
          replace hX11 := hX11.trans hE14
          refine C rfl wu rfl rfl Try.call43 (rPEval P mo md hv a (gi b i) _ (hF.ext hX) (hh.ext hX)) ?_
          rintro _ w15 hE15 rfl
          replace hX := hX.trans hE15
          replace hX11 := hX11.trans hE15
          refine C rfl wu rfl rfl Try.call38 (bEval P g u A (gi b i) _ _ (hG.ext hX) (hu.ext hX) rA) ?_
          rintro _ w16 hE16 rfl
          replace hX := hX.trans hE16
          replace hX11 := hX11.trans hE16
          refine Go.Sx.V rfl wu rfl rfl (neqI rfl rfl) ?_
          refine wr_nil (post_thenN ?_)
          refine wc_condF rfl (by rw [pz_cl, inK_val, val_subst]; simp) ?_
          refine wc_skip (post_blockN (post_thenN ?_))
          refine wc_region [0,1] rfl ?_
          refine Go.Sx.V rfl wu rfl rfl (addI rfl rfl) ?_
          refine Go.Sx.V rfl wu rfl rfl (mv rfl) ?_
          refine wr_nil ?_
          exact post_loopN (i + 1) ⟨rfl, rfl, rfl, rfl, rfl, rfl, rfl, rfl, trivial⟩ ⟨by omega, hX, hX11⟩ (by omega)
        · intro hc
          simp at hc
          refine wc_exit (post_thenE (post_loopE (post_blockX (post_thenN (wc_seq ?_)))))
          refine wc_region [0] rfl ?_
          refine Go.Sx.V rfl wu rfl rfl (asg rfl) ?_
          refine wr_nil (post_thenN (wc_ret ?_))
          refine post_ret1 rfl rfl ?_
          exact ⟨hE.trans hX, rfl⟩
    · have hsf : smallB A = false := by simpa using hsm
      refine wc_region [0,1,2,3,4,5,6,7,8,9,10,11,12,13,14,15,16,17] rfl ?_
      refine Go.Sx.V rfl wu rfl rfl (mv rfl) ?_
      rw [hga]
      refine Go.Sx.V rfl wu rfl rfl (eqlPn rfl rfl Try.underlying28) ?_
      rw [← hga]
      refine Go.Sx.V rfl wu rfl rfl (mv rfl) ?_
      refine KB 23 false rfl (by rfl) ?_
      refine Go.Sx.V rfl (wg rfl rfl) rfl rfl (mv rfl) ?_
      refine BS (us := [u]) rfl (wg rfl rfl) rfl rfl rfl rfl ty86 (by intro q hq; obtain rfl : q = u := (by simpa using hq); exact hu.one) ?_
      intro sv w7 hE7 hsv _
      replace hX := hX.trans hE7
      refine C rfl (wg rfl rfl) rfl rfl Try.call18 (lSmall sv _ [A] _ hsv.sl (bis1 (hu.ext hX))) ?_
      rintro _ w8 hE8 rfl
      replace hX := hX.trans hE8
      refine Go.Sx.V rfl (wg rfl rfl) rfl rfl (notB rfl) ?_
      refine Go.Sx.V rfl wu rfl rfl (pk rfl rfl) ?_
      refine Go.Sx.V rfl wu rfl rfl (mv rfl) ?_
      refine KB 29 true rfl (by simp [hsf]) ?_
      refine SK rfl rfl rfl rfl rfl ?_
      refine SK rfl rfl rfl rfl rfl ?_
      refine SK rfl rfl rfl rfl rfl ?_
      refine Go.Sx.V rfl wu rfl rfl (pk rfl rfl) ?_
      refine Go.Sx.V rfl wu rfl rfl (mv rfl) ?_
      refine KB 34 true rfl (by simp [hsf]) ?_
      refine SK rfl rfl rfl rfl rfl ?_
      refine SK rfl rfl rfl rfl rfl ?_
      refine SK rfl rfl rfl rfl rfl ?_
      refine Go.Sx.V rfl wu rfl rfl (pk rfl rfl) ?_
      refine wr_nil (post_thenN ?_)
      refine wc_condT rfl (by simp [hsf]) ?_
      refine wc_seq ?_
      refine wc_region [0] rfl ?_
      refine Go.Sx.V rfl wu rfl rfl (asg rfl) ?_
      refine wr_nil (post_thenN (wc_ret (post_thenR ?_)))
      refine post_ret1 rfl rfl ?_
      exact ⟨hE.trans hX, rfl⟩

set_option maxRecDepth 10000 in
theorem law_BivariateDegrees {w : World} (v0 : Value) (r : FRec) (s0 : v0 = r.v ∧ FOf w r) (v1 : Value) (x1 : B2Rec) (s1 : v1 = x1.val ∧ LL w x1.u x1.A ∧ LL w x1.v x1.B) (wt : Int) (bw : Go.Fr.Fits wt) :
    Calls Try.prog 4 #[v0, v1, .int .i64 wt] w (RetX w fun v _ => v = .bool true) := by
  obtain ⟨p, M, mo, md⟩ := r
  obtain ⟨rfl, hr⟩ := s0
  obtain ⟨u, v, A, B⟩ := x1
  obtain ⟨rfl, hu, hv⟩ := s1
  dsimp only at hu hv
  refine calls3 Try.func4 rfl rfl ?_
  refine wc_seq ?_
  refine wc_region [0,1,2] rfl ?_
  refine BXA rfl wu rfl rfl ?_
  intro fb w1 hE hB hg
  refine BXA rfl wu rfl rfl ?_
  intro ab w2 hE2 hB2 hg2
  replace hB := hB.ext hE2
  replace hE := hE.trans hE2
  refine Go.Sx.V rfl wu rfl rfl (asg rfl) ?_
  refine wr_nil (post_thenN (wc_seq (wc_seq ?_)))
  refine wc_region [0,1] rfl ?_
  refine C rfl wu rfl rfl Try.call16 (lAlive _) ?_
  rintro _ w4 hE4 rfl
  replace hB := hB.ext hE4
  replace hB2 := hB2.ext hE4
  replace hE := hE.trans hE4
  refine Go.Sx.V rfl wu rfl rfl (notB rfl) ?_
  refine wr_nil (post_thenN ?_)
  refine wc_condF rfl (by simp) ?_
  refine wc_skip (post_thenN (wc_seq ?_))
  have hmi := hr.ints.ext hE
  dsimp only at hmi hB
  refine wc_region [0,1,2] rfl ?_
  refine Go.Sx.V rfl wu rfl rfl (ldA rfl ag24) ?_
  refine C rfl wu rfl rfl Try.call17 (lMade p M mo md _ hmi) ?_
  rintro g w5 hE5 hm
  replace hB := hB.ext hE5
  replace hB2 := hB2.ext hE5
  replace hE := hE.trans hE5
  refine Go.Sx.V rfl wu rfl rfl (asg rfl) ?_
  refine wr_nil (post_thenN (wc_seq ?_))
  replace hmi := hmi.ext hE5
  replace hu := hu.ext hE
  replace hv := hv.ext hE
  have hX := Ext.refl w5
  refine wc_draw mixed [0,1,2,3,4,5] (by kernel_rfl) ?_
  intro w6 hd _
  replace hX := hX.trans hd
  refine Go.Sx.V rfl wu rfl rfl (iadA rfl rfl ar37) ?_
  refine Go.Sx.V rfl wu rfl rfl (ldB rfl na26) ?_
  refine Go.Sx.V rfl wu rfl rfl (iadA rfl rfl ar37) ?_
  refine Go.Sx.V rfl wu rfl rfl (ldB rfl na26) ?_
  refine Go.Sx.V rfl wu rfl rfl (asg rfl) ?_
  refine Go.Sx.V rfl wu rfl rfl (asg rfl) ?_
  refine wr_nil (post_thenN (wc_seq (wc_seq ?_)))
  rcases made_split hm hmi with rfl | ⟨P, hp, hM, hF, hG⟩
  · skip
    refine wc_region [0,1,2,3,4,5,6,7,8] rfl ?_
    refine Go.Sx.V rfl wu rfl rfl (mv rfl) ?_
    refine Go.Sx.V rfl wu rfl rfl (eqlPn rfl rfl Try.underlying28) ?_
    refine Go.Sx.V rfl wu rfl rfl (mv rfl) ?_
    refine KB 26 true rfl (by rfl) ?_
    refine SK rfl rfl rfl rfl rfl ?_
    refine SK rfl rfl rfl rfl rfl ?_
    refine SK rfl rfl rfl rfl rfl ?_
    refine SK rfl rfl rfl rfl rfl ?_
    refine SK rfl rfl rfl rfl rfl ?_
    refine Go.Sx.V rfl wu rfl rfl (pk rfl rfl) ?_
    refine wr_nil (post_thenN ?_)
    refine wc_condT rfl (by simp) ?_
    refine wc_seq ?_
    refine wc_region [0] rfl ?_
    refine Go.Sx.V rfl wu rfl rfl (asg rfl) ?_
    refine wr_nil (post_thenN (wc_ret (post_thenR ?_)))
    refine post_ret1 rfl rfl ?_
    exact ⟨hE.trans hX, rfl⟩
  · subst hp hM
    obtain ⟨ga, hga⟩ := hG.ptr
    refine wc_region [0,1,2,3,4,5,6,7,8] rfl ?_
    refine Go.Sx.V rfl wu rfl rfl (mv rfl) ?_
    rw [hga]
    refine Go.Sx.V rfl wu rfl rfl (eqlPn rfl rfl Try.underlying28) ?_
    rw [← hga]
    refine Go.Sx.V rfl wu rfl rfl (mv rfl) ?_
    refine KB 26 false rfl (by rfl) ?_
    refine Go.Sx.V rfl (wg rfl rfl) rfl rfl (mv rfl) ?_
    refine Go.Sx.V rfl (wg rfl rfl) rfl rfl (mv rfl) ?_
    refine BS (us := [u, v]) rfl (wg rfl rfl) rfl rfl rfl rfl ty86 (by intro q hq; simp only [List.mem_cons, List.not_mem_nil, or_false] at hq; rcases hq with rfl | rfl; exact hu.one; exact hv.one) ?_
    intro sv w7 hE7 hsv _
    replace hX := hX.trans hE7
    refine C rfl (wg rfl rfl) rfl rfl Try.call18 (lSmall sv _ [A, B] _ hsv.sl (bis2 (hu.ext hX) (hv.ext hX))) ?_
    rintro _ w8 hE8 rfl
    replace hX := hX.trans hE8
    refine Go.Sx.V rfl (wg rfl rfl) rfl rfl (notB rfl) ?_
    refine Go.Sx.V rfl wu rfl rfl (pk rfl rfl) ?_
    refine wr_nil (post_thenN ?_)
    refine wc_cond rfl ?_ ?_
    · intro h
      refine wc_seq ?_
      refine wc_region [0] rfl ?_
      refine Go.Sx.V rfl wu rfl rfl (asg rfl) ?_
      refine wr_nil (post_thenN (wc_ret (post_thenR ?_)))
      refine post_ret1 rfl rfl ?_
      exact ⟨hE.trans hX, rfl⟩
    · intro h
      simp at h
      obtain ⟨hA1, hA2⟩ := smallB_iff.1 h.1
      obtain ⟨hB1, hB2'⟩ := smallB_iff.1 h.2
      have xm := XB.rb ((hA2.xb (P := P)).mul (hB2'.xb (P := P)))
      have ym : (bcl (bz P A * bz P B)).length ≤ A.length + B.length := bcl_len ((YB.bz A).mul (YB.bz B))
      refine wc_skip (post_thenN (wc_seq ?_))
      by_cases hw : 0 ≤ wt ∧ wt ≤ 256
      · have hm := wdg_mul hG.nzd (bz P A) (bz P B) wt.toNat
        rw [show ((wt.toNat : Nat) : Int) = wt by omega] at hm
        refine wc_region [0,1,2,3,4,5,6,7,8] rfl ?_
        refine Go.Sx.V rfl wu rfl rfl (mv rfl) ?_
        refine Go.Sx.V rfl wu rfl rfl (mv rfl) ?_
        refine Go.Sx.V rfl wu rfl rfl (mv rfl) ?_
        refine C rfl wu rfl rfl Try.call26 (bDegree P g u A wt 12 _ (hG.ext hX) (hu.ext hX) hA2 (by omega) (by omega)) ?_
        rintro dv w9 hE9 hda
        replace hX := hX.trans hE9
        obtain rfl : dv = .tuple #[.int .i64 (wdg (bz P A) wt), .int .i64 0] := hda.elim (fun h => absurd hw h.1) (·.2)
        refine Go.Sx.V rfl wu rfl rfl (mv rfl) ?_
        refine Go.Sx.V rfl wu rfl rfl (ext rfl rfl) ?_
        refine Go.Sx.V rfl wu rfl rfl (ext rfl rfl) ?_
        refine Go.Sx.V rfl wu rfl rfl (asg rfl) ?_
        refine Go.Sx.V rfl wu rfl rfl (asg rfl) ?_
        refine wr_nil (post_thenN (wc_seq (wc_seq ?_)))
        refine wc_region [0,1,2,3,4,5] rfl ?_
        refine Go.Sx.V rfl wu rfl rfl (mv rfl) ?_
        refine Go.Sx.V rfl wu rfl rfl (lssI rfl rfl) ?_
        refine Go.Sx.V rfl wu rfl rfl (mv rfl) ?_
        refine OR (π1 := [3,4,5]) (π2 := []) (tc := 42) (tp := 45) rfl rfl rfl (by
            intro _
            refine SK rfl rfl rfl rfl rfl ?_
            refine SK rfl rfl rfl rfl rfl ?_
            refine Go.Sx.V rfl wu rfl rfl (pk rfl rfl) ?_
            exact join rfl) (by
            intro hg
            simp at hg
            refine Go.Sx.V rfl (wg rfl rfl) rfl rfl (mv rfl) ?_
            refine Go.Sx.V rfl (wg rfl rfl) rfl rfl (gtrI rfl rfl) ?_
            refine Go.Sx.V rfl wu rfl rfl (pk rfl rfl) ?_
            exact join rfl) ?_
        refine wr_nil (post_thenN ?_)
        refine wc_condF rfl (by simp; omega) ?_
        refine wc_skip (post_thenN (wc_seq ?_))
        refine wc_region [0,1,2,3,4,5,6,7,8] rfl ?_
        refine Go.Sx.V rfl wu rfl rfl (mv rfl) ?_
        refine Go.Sx.V rfl wu rfl rfl (mv rfl) ?_
        refine Go.Sx.V rfl wu rfl rfl (mv rfl) ?_
        refine C rfl wu rfl rfl Try.call26 (bDegree P g v B wt 12 _ (hG.ext hX) (hv.ext hX) hB2' (by omega) (by omega)) ?_
        rintro dv w10 hE10 hdb
        replace hX := hX.trans hE10
        obtain rfl : dv = .tuple #[.int .i64 (wdg (bz P B) wt), .int .i64 0] := hdb.elim (fun h => absurd hw h.1) (·.2)
        refine Go.Sx.V rfl wu rfl rfl (mv rfl) ?_
        refine Go.Sx.V rfl wu rfl rfl (ext rfl rfl) ?_
        refine Go.Sx.V rfl wu rfl rfl (ext rfl rfl) ?_
        refine Go.Sx.V rfl wu rfl rfl (asg rfl) ?_
        refine Go.Sx.V rfl wu rfl rfl (asg rfl) ?_
        refine wr_nil (post_thenN (wc_seq ?_))
        refine wc_region [0,1,2,3,4,5,6,7,8,9,10,11] rfl ?_
        refine Go.Sx.V rfl wu rfl rfl (mv rfl) ?_
        refine Go.Sx.V rfl wu rfl rfl (mv rfl) ?_
        refine Go.Sx.V rfl wu rfl rfl (mv rfl) ?_
        refine Go.Sx.V rfl wu rfl rfl (mv rfl) ?_
        refine C rfl wu rfl rfl Try.call24 (bMul P g u v A B 12 12 _ (hG.ext hX) (hu.ext hX) (hv.ext hX) hA2 hB2' (by omega) (by omega) (by omega) (by omega)) ?_
        intro m w11 hE11 hm2
        replace hX := hX.trans hE11
        refine Go.Sx.V rfl wu rfl rfl (mv rfl) ?_
        refine C rfl wu rfl rfl Try.call26 (bDegree P g m _ wt 24 _ (hG.ext hX) hm2.ll xm (by omega) (by omega)) ?_
        rintro dv w12 hE12 hdc
        replace hX := hX.trans hE12
        rw [bz_bcl] at hdc
        obtain rfl : dv = .tuple #[.int .i64 (wdg (bz P A * bz P B) wt), .int .i64 0] := hdc.elim (fun h => absurd hw h.1) (·.2)
        refine Go.Sx.V rfl wu rfl rfl (mv rfl) ?_
        refine Go.Sx.V rfl wu rfl rfl (ext rfl rfl) ?_
        refine Go.Sx.V rfl wu rfl rfl (ext rfl rfl) ?_
        refine Go.Sx.V rfl wu rfl rfl (asg rfl) ?_
        refine Go.Sx.V rfl wu rfl rfl (asg rfl) ?_
        refine wr_nil (post_thenN (wc_seq (wc_seq ?_)))
        refine wc_region [0,1,2,3,4,5,6,7,8,9,10,11,12,13,14,15,16,17] rfl ?_
        refine Go.Sx.V rfl wu rfl rfl (mv rfl) ?_
        refine Go.Sx.V rfl wu rfl rfl (neqI rfl rfl) ?_
        refine Go.Sx.V rfl wu rfl rfl (mv rfl) ?_
        refine KB 71 false rfl (by rfl) ?_
        refine Go.Sx.V rfl (wg rfl rfl) rfl rfl (mv rfl) ?_
        refine Go.Sx.V rfl (wg rfl rfl) rfl rfl (ldA rfl ag24 (hB.ext hX)) ?_
        refine Go.Sx.V rfl (wg rfl rfl) rfl rfl (mv rfl) ?_
        refine Go.Sx.V rfl (wg rfl rfl) rfl rfl (mv rfl) ?_
        refine C rfl (wg rfl rfl) rfl rfl Try.call27 (rBDegree P mo md u A wt 12 _ (hF.ext hX) (hu.ext hX) hw hA2 (by omega) (by omega)) ?_
        rintro _ w13 hE13 rfl
        replace hX := hX.trans hE13
        refine Go.Sx.V rfl (wg rfl rfl) rfl rfl (neqI rfl rfl) ?_
        refine Go.Sx.V rfl wu rfl rfl (pk rfl rfl) ?_
        refine Go.Sx.V rfl wu rfl rfl (mv rfl) ?_
        refine KB 79 false rfl (by simp) ?_
        refine Go.Sx.V rfl (wg rfl rfl) rfl rfl (mv rfl) ?_
        refine Go.Sx.V rfl (wg rfl rfl) rfl rfl (ldA rfl ag24 (hB.ext hX)) ?_
        refine Go.Sx.V rfl (wg rfl rfl) rfl rfl (mv rfl) ?_
        refine Go.Sx.V rfl (wg rfl rfl) rfl rfl (mv rfl) ?_
        refine C rfl (wg rfl rfl) rfl rfl Try.call27 (rBDegree P mo md v B wt 12 _ (hF.ext hX) (hv.ext hX) hw hB2' (by omega) (by omega)) ?_
        rintro _ w14 hE14 rfl
        replace hX := hX.trans hE14
        refine Go.Sx.V rfl (wg rfl rfl) rfl rfl (neqI rfl rfl) ?_
        refine Go.Sx.V rfl wu rfl rfl (pk rfl rfl) ?_
        refine wr_nil (post_thenN ?_)
        refine wc_condF rfl (by simp) ?_
        refine wc_skip (post_thenN (wc_seq (wc_seq ?_)))
        have la := wdN_lo (bz P A) hw.1 (hA2.xb (P := P)) (bcl (bz P A)).length
        have lb := wdN_lo (bz P B) hw.1 (hB2'.xb (P := P)) (bcl (bz P B)).length
        have l1 := bcl_bz_len (P := P) A
        have l2 := bcl_bz_len (P := P) B
        have m1 : wt * ((bcl (bz P A)).length : Int) ≤ 256 * 6 := Int.mul_le_mul hw.2 (by omega) (by omega) (by omega)
        have m2 : wt * ((bcl (bz P B)).length : Int) ≤ 256 * 6 := Int.mul_le_mul hw.2 (by omega) (by omega) (by omega)
        have la' : -1 ≤ wdg (bz P A) wt ∧ wdg (bz P A) wt ≤ 12 + wt * ((bcl (bz P A)).length : Int) := la
        have lb' : -1 ≤ wdg (bz P B) wt ∧ wdg (bz P B) wt ≤ 12 + wt * ((bcl (bz P B)).length : Int) := lb
        refine wc_region [0,1,2,3,4,5] rfl ?_
        refine Go.Sx.V rfl wu rfl rfl (mv rfl) ?_
        refine Go.Sx.V rfl wu rfl rfl (lssI rfl rfl) ?_
        refine Go.Sx.V rfl wu rfl rfl (mv rfl) ?_
        refine OR (π1 := [3,4,5]) (π2 := []) (tc := 89) (tp := 92) rfl rfl rfl (by
            intro _
            refine SK rfl rfl rfl rfl rfl ?_
            refine SK rfl rfl rfl rfl rfl ?_
            refine Go.Sx.V rfl wu rfl rfl (pk rfl rfl) ?_
            exact join rfl) (by
            intro hg
            simp at hg
            refine Go.Sx.V rfl (wg rfl rfl) rfl rfl (mv rfl) ?_
            refine Go.Sx.V rfl (wg rfl rfl) rfl rfl (lssI rfl rfl) ?_
            refine Go.Sx.V rfl wu rfl rfl (pk rfl rfl) ?_
            exact join rfl) ?_
        refine wr_nil (post_thenN ?_)
        refine wc_cond rfl ?_ ?_
        · intro h4
          simp at h4
          rw [if_pos h4] at hm
          refine wc_seq ?_
          refine wc_region [0,1,2] rfl ?_
          refine Go.Sx.V rfl wu rfl rfl (mv rfl) ?_
          refine Go.Sx.V rfl wu rfl rfl (eqlI rfl rfl) ?_
          refine Go.Sx.V rfl wu rfl rfl (asg rfl) ?_
          refine wr_nil (post_thenN (wc_ret (post_thenR ?_)))
          refine post_ret1 rfl rfl ?_
          exact ⟨hE.trans hX, by rw [hm]; simp⟩
        · intro h4
          simp at h4
          rw [if_neg (by omega)] at hm
          refine wc_skip (post_thenN (wc_seq ?_))
          refine wc_region [0,1,2,3,4,5] rfl ?_
          refine Go.Sx.V rfl wu rfl rfl (mv rfl) ?_
          refine Go.Sx.V rfl wu rfl rfl (mv rfl) ?_
          refine Go.Sx.V rfl wu rfl rfl (mv rfl) ?_
          refine Go.Sx.V rfl wu rfl rfl (addI rfl rfl) ?_
          refine Go.Sx.V rfl wu rfl rfl (eqlI rfl rfl) ?_
          refine Go.Sx.V rfl wu rfl rfl (asg rfl) ?_
          refine wr_nil (post_thenN (wc_ret ?_))
          refine post_ret1 rfl rfl ?_
          exact ⟨hE.trans hX, by rw [hm]; simp⟩
      · skip
        refine wc_region [0,1,2,3,4,5,6,7,8] rfl ?_
        refine Go.Sx.V rfl wu rfl rfl (mv rfl) ?_
        refine Go.Sx.V rfl wu rfl rfl (mv rfl) ?_
        refine Go.Sx.V rfl wu rfl rfl (mv rfl) ?_
        refine C rfl wu rfl rfl Try.call26 (bDegree P g u A wt 12 _ (hG.ext hX) (hu.ext hX) hA2 (by omega) (by omega)) ?_
        rintro dv w9 hE9 hda
        replace hX := hX.trans hE9
        obtain rfl : dv = .tuple #[.int .i64 0, .int .i64 6] := hda.elim (·.2) (fun h => absurd h.1 hw)
        refine Go.Sx.V rfl wu rfl rfl (mv rfl) ?_
        refine Go.Sx.V rfl wu rfl rfl (ext rfl rfl) ?_
        refine Go.Sx.V rfl wu rfl rfl (ext rfl rfl) ?_
        refine Go.Sx.V rfl wu rfl rfl (asg rfl) ?_
        refine Go.Sx.V rfl wu rfl rfl (asg rfl) ?_
        refine wr_nil (post_thenN (wc_seq (wc_seq ?_)))
        refine wc_region [0,1,2,3,4,5] rfl ?_
        refine Go.Sx.V rfl wu rfl rfl (mv rfl) ?_
        refine Go.Sx.V rfl wu rfl rfl (lssI rfl rfl) ?_
        refine Go.Sx.V rfl wu rfl rfl (mv rfl) ?_
        refine OR (π1 := [3,4,5]) (π2 := []) (tc := 42) (tp := 45) rfl rfl rfl (by
            intro _
            refine SK rfl rfl rfl rfl rfl ?_
            refine SK rfl rfl rfl rfl rfl ?_
            refine Go.Sx.V rfl wu rfl rfl (pk rfl rfl) ?_
            exact join rfl) (by
            intro hg
            simp at hg
            refine Go.Sx.V rfl (wg rfl rfl) rfl rfl (mv rfl) ?_
            refine Go.Sx.V rfl (wg rfl rfl) rfl rfl (gtrI rfl rfl) ?_
            refine Go.Sx.V rfl wu rfl rfl (pk rfl rfl) ?_
            exact join rfl) ?_
        refine wr_nil (post_thenN ?_)
        refine wc_condT rfl (by simp; omega) ?_
        refine wc_seq ?_
        refine wc_region [0,1,2,3,4,5,6] rfl ?_
        refine Go.Sx.V rfl wu rfl rfl (mv rfl) ?_
        refine Go.Sx.V rfl wu rfl rfl (eqlI rfl rfl) ?_
        refine Go.Sx.V rfl wu rfl rfl (mv rfl) ?_
        refine KB 48 true rfl (by rfl) ?_
        refine Go.Sx.V rfl (wg rfl rfl) rfl rfl (mv rfl) ?_
        refine Go.Sx.V rfl (wg rfl rfl) rfl rfl (eqlI rfl rfl) ?_
        refine Go.Sx.V rfl wu rfl rfl (pk rfl rfl) ?_
        refine Go.Sx.V rfl wu rfl rfl (asg rfl) ?_
        refine wr_nil (post_thenN (wc_ret (post_thenR ?_)))
        refine post_ret1 rfl rfl ?_
        exact ⟨hE.trans hX, by simp⟩
namespace FBivariateValues
open Go.ChangeShapes Go.WideShapes Go.ChangeAt Go.RowKit Go.Fr
theorem own : ownKnob Try.prog.godebug = none := by kernel_rfl
theorem laidOut : laidOutB Try.prog = true := by kernel_rfl
set_option maxRecDepth 100000 in
theorem lifted (os : Os) (started : os.Started) (H : Type) (enc : TypeId × Value → H) :
    ReturnsInHanded {} Try.checked os 9 .any (Rows.bivariateValuesSpec.pre6 enc Try.prog Try.f9 Rows.bivariateValuesRow.domain false) (Rows.bivariateValuesSpec.post enc Try.prog Try.f9 false true false false) := by
  refine returnsInHanded_of_change_sized (C := Try.checked) own started (by kernel_rfl) Try.func9
    (ChangeSpec.witness6 (enc := enc) (C := Try.checked) false ⟨#[], #[.agg #[.int .i64 0, .int .i64 0, .slice none 0 0], .agg #[.slice none 0 0, .slice none 0 0], .agg #[.int .i64 0, .int .i64 0]], []⟩ 8 (by kernel_rfl) (by kernel_rfl) (by kernel_rfl) (by kernel_rfl)) ?_
  intro W base args ds gs before hval0 hW _ hsz0 _
  have hval : ∀ (j : Nat) t v, Try.f9.params[j]? = some t → args[j]? = some v → Value.okWide Try.prog W .any base t v := hval0
  have hW' := hW
  obtain ⟨p, q, hA0, hV, rfl, hfz, hnd⟩ := hW
  have hA : DataW.TrodAll enc Try.prog W 0 (fun _ => true) true Try.f9.params.toList args.toList ds p := hA0
  have hsz : (DataW.weightsEach Try.prog (Try.f9.params.toList ++ Rows.bivariateValuesSpec.plain.varTypes Try.prog) (ds ++ gs)).all (· ≤ reachBytes) = true := hsz0
  rw [Try.params9] at hA hval hsz
  obtain ⟨v0, vs0, d0, ds0, p0, q0, hargs, rfl, rfl, h0, r0⟩ := trodAll_cons hA
  obtain ⟨v1, vs1, d1, ds1, p1, q1, rfl, rfl, rfl, h1, r1⟩ := trodAll_cons r0
  obtain ⟨v2, vs2, d2, ds2, p2, q2, rfl, rfl, rfl, h2, r2⟩ := trodAll_cons r1
  obtain ⟨rfl, rfl, rfl⟩ := trodAll_nil r2
  obtain rfl : args = #[v0, v1, v2] := by cases args; simp_all
  obtain ⟨rfl, rfl⟩ := trodVars_none hV
  have k0 := h0
  have lt0 : ∀ x ∈ p0, x.block < W.heap.size := by obtain ⟨m, hm⟩ := k0; exact DataW.trod_lt m _ _ _ hm
  have w0 : WOK Try.prog 24 d0 := wok_arg hsz (j := 0) rfl rfl
  obtain ⟨x0, s0⟩ := op_field (hval 0 24 v0 rfl rfl) h0 w0
  have k1 := h1
  have lt1 : ∀ x ∈ p1, x.block < W.heap.size := by obtain ⟨m, hm⟩ := k1; exact DataW.trod_lt m _ _ _ hm
  have w1 : WOK Try.prog 37 d1 := wok_arg hsz (j := 1) rfl rfl
  obtain ⟨x1, s1⟩ := op_bi2 (hval 1 37 v1 rfl rfl) h1 w1
  have k2 := h2
  have lt2 : ∀ x ∈ p2, x.block < W.heap.size := by obtain ⟨m, hm⟩ := k2; exact DataW.trod_lt m _ _ _ hm
  have w2 : WOK Try.prog 43 d2 := wok_arg hsz (j := 2) rfl rfl
  obtain ⟨x2, s2⟩ := op_int2 (hval 2 43 v2 rfl rfl) h2 w2
  refine (law_BivariateValues (w := W) v0 x0 s0 v1 x1 s1 v2 x2 s2).mono fun e W' he => ?_
  cases e with
  | panicked c => exact he.elim
  | outgrown => exact he.elim
  | returned v =>
    obtain ⟨bel, rfl⟩ := he
    exact ⟨_, rfl, _, _, _, [], _, [], hW', trodAll_mk1 (shut_bool Try.underlying4 _), (trodAll_cons_mk (Below.trod laidOut (by kernel_rfl) (of_decide_eq_true (by kernel_rfl)) k0 bel lt0) (trodAll_cons_mk (Below.trod laidOut (by kernel_rfl) (of_decide_eq_true (by kernel_rfl)) k1 bel lt1) (trodAll_cons_mk (Below.trod laidOut (by kernel_rfl) (of_decide_eq_true (by kernel_rfl)) k2 bel lt2) trodAll_mk0))), rfl, bel.frame _, fun h => by cases h⟩
theorem over : Rows.bivariateValuesRow.holds Try.pinned (OpenSpec.ofChange Rows.bivariateValuesSpec) :=
  OpenClaim.holds_of_wide 9 Try.f9 rfl rfl rfl rfl rfl rfl rfl ⟨rfl, rfl, rfl, rfl, rfl⟩ rfl rfl rfl rfl rfl (by kernel_rfl) Try.func9 (by kernel_rfl)
    (of_decide_eq_true (by kernel_rfl)) (by unfold Func.isWrapper; first | (rw [if_pos (by decide +kernel)]; kernel_rfl) | (rw [if_neg (by decide +kernel)]; exact ⟨rfl, rfl⟩))
    (fun os started H enc _ => lifted os started H enc)
end FBivariateValues
/-- The statement. -/
theorem bivariateValues_holds : Rows.BivariateValuesSaid := FBivariateValues.over
namespace FBivariateSubstitutes
open Go.ChangeShapes Go.WideShapes Go.ChangeAt Go.RowKit Go.Fr
theorem own : ownKnob Try.prog.godebug = none := by kernel_rfl
theorem laidOut : laidOutB Try.prog = true := by kernel_rfl
set_option maxRecDepth 100000 in
theorem lifted (os : Os) (started : os.Started) (H : Type) (enc : TypeId × Value → H) :
    ReturnsInHanded {} Try.checked os 10 .any (Rows.bivariateSubstitutesSpec.pre6 enc Try.prog Try.f10 Rows.bivariateSubstitutesRow.domain false) (Rows.bivariateSubstitutesSpec.post enc Try.prog Try.f10 false true false false) := by
  refine returnsInHanded_of_change_sized (C := Try.checked) own started (by kernel_rfl) Try.func10
    (ChangeSpec.witness6 (enc := enc) (C := Try.checked) false ⟨#[], #[.agg #[.int .i64 0, .int .i64 0, .slice none 0 0], .slice none 0 0, .agg #[.slice none 0 0, .slice none 0 0]], []⟩ 8 (by kernel_rfl) (by kernel_rfl) (by kernel_rfl) (by kernel_rfl)) ?_
  intro W base args ds gs before hval0 hW _ hsz0 _
  have hval : ∀ (j : Nat) t v, Try.f10.params[j]? = some t → args[j]? = some v → Value.okWide Try.prog W .any base t v := hval0
  have hW' := hW
  obtain ⟨p, q, hA0, hV, rfl, hfz, hnd⟩ := hW
  have hA : DataW.TrodAll enc Try.prog W 0 (fun _ => true) true Try.f10.params.toList args.toList ds p := hA0
  have hsz : (DataW.weightsEach Try.prog (Try.f10.params.toList ++ Rows.bivariateSubstitutesSpec.plain.varTypes Try.prog) (ds ++ gs)).all (· ≤ reachBytes) = true := hsz0
  rw [Try.params10] at hA hval hsz
  obtain ⟨v0, vs0, d0, ds0, p0, q0, hargs, rfl, rfl, h0, r0⟩ := trodAll_cons hA
  obtain ⟨v1, vs1, d1, ds1, p1, q1, rfl, rfl, rfl, h1, r1⟩ := trodAll_cons r0
  obtain ⟨v2, vs2, d2, ds2, p2, q2, rfl, rfl, rfl, h2, r2⟩ := trodAll_cons r1
  obtain ⟨rfl, rfl, rfl⟩ := trodAll_nil r2
  obtain rfl : args = #[v0, v1, v2] := by cases args; simp_all
  obtain ⟨rfl, rfl⟩ := trodVars_none hV
  have k0 := h0
  have lt0 : ∀ x ∈ p0, x.block < W.heap.size := by obtain ⟨m, hm⟩ := k0; exact DataW.trod_lt m _ _ _ hm
  have w0 : WOK Try.prog 24 d0 := wok_arg hsz (j := 0) rfl rfl
  obtain ⟨x0, s0⟩ := op_field (hval 0 24 v0 rfl rfl) h0 w0
  have k1 := h1
  have lt1 : ∀ x ∈ p1, x.block < W.heap.size := by obtain ⟨m, hm⟩ := k1; exact DataW.trod_lt m _ _ _ hm
  have w1 : WOK Try.prog 26 d1 := wok_arg hsz (j := 1) rfl rfl
  obtain ⟨x1, s1⟩ := op_bi (hval 1 26 v1 rfl rfl) h1 w1
  have k2 := h2
  have lt2 : ∀ x ∈ p2, x.block < W.heap.size := by obtain ⟨m, hm⟩ := k2; exact DataW.trod_lt m _ _ _ hm
  have w2 : WOK Try.prog 61 d2 := wok_arg hsz (j := 2) rfl rfl
  obtain ⟨x2, s2⟩ := op_ints2 (hval 2 61 v2 rfl rfl) h2 w2
  refine (law_BivariateSubstitutes (w := W) v0 x0 s0 v1 x1 s1 v2 x2 s2).mono fun e W' he => ?_
  cases e with
  | panicked c => exact he.elim
  | outgrown => exact he.elim
  | returned v =>
    obtain ⟨bel, rfl⟩ := he
    exact ⟨_, rfl, _, _, _, [], _, [], hW', trodAll_mk1 (shut_bool Try.underlying4 _), (trodAll_cons_mk (Below.trod laidOut (by kernel_rfl) (of_decide_eq_true (by kernel_rfl)) k0 bel lt0) (trodAll_cons_mk (Below.trod laidOut (by kernel_rfl) (of_decide_eq_true (by kernel_rfl)) k1 bel lt1) (trodAll_cons_mk (Below.trod laidOut (by kernel_rfl) (of_decide_eq_true (by kernel_rfl)) k2 bel lt2) trodAll_mk0))), rfl, bel.frame _, fun h => by cases h⟩
theorem over : Rows.bivariateSubstitutesRow.holds Try.pinned (OpenSpec.ofChange Rows.bivariateSubstitutesSpec) :=
  OpenClaim.holds_of_wide 10 Try.f10 rfl rfl rfl rfl rfl rfl rfl ⟨rfl, rfl, rfl, rfl, rfl⟩ rfl rfl rfl rfl rfl (by kernel_rfl) Try.func10 (by kernel_rfl)
    (of_decide_eq_true (by kernel_rfl)) (by unfold Func.isWrapper; first | (rw [if_pos (by decide +kernel)]; kernel_rfl) | (rw [if_neg (by decide +kernel)]; exact ⟨rfl, rfl⟩))
    (fun os started H enc _ => lifted os started H enc)
end FBivariateSubstitutes
/-- The statement. -/
theorem bivariateSubstitutes_holds : Rows.BivariateSubstitutesSaid := FBivariateSubstitutes.over
namespace FBivariateDegrees
open Go.ChangeShapes Go.WideShapes Go.ChangeAt Go.RowKit Go.Fr
theorem own : ownKnob Try.prog.godebug = none := by kernel_rfl
theorem laidOut : laidOutB Try.prog = true := by kernel_rfl
set_option maxRecDepth 100000 in
theorem lifted (os : Os) (started : os.Started) (H : Type) (enc : TypeId × Value → H) :
    ReturnsInHanded {} Try.checked os 4 .any (Rows.bivariateDegreesSpec.pre6 enc Try.prog Try.f4 Rows.bivariateDegreesRow.domain false) (Rows.bivariateDegreesSpec.post enc Try.prog Try.f4 false true false false) := by
  refine returnsInHanded_of_change_sized (C := Try.checked) own started (by kernel_rfl) Try.func4
    (ChangeSpec.witness6 (enc := enc) (C := Try.checked) false ⟨#[], #[.agg #[.int .i64 0, .int .i64 0, .slice none 0 0], .agg #[.slice none 0 0, .slice none 0 0], .int .i64 0], []⟩ 8 (by kernel_rfl) (by kernel_rfl) (by kernel_rfl) (by kernel_rfl)) ?_
  intro W base args ds gs before hval0 hW _ hsz0 _
  have hval : ∀ (j : Nat) t v, Try.f4.params[j]? = some t → args[j]? = some v → Value.okWide Try.prog W .any base t v := hval0
  have hW' := hW
  obtain ⟨p, q, hA0, hV, rfl, hfz, hnd⟩ := hW
  have hA : DataW.TrodAll enc Try.prog W 0 (fun _ => true) true Try.f4.params.toList args.toList ds p := hA0
  have hsz : (DataW.weightsEach Try.prog (Try.f4.params.toList ++ Rows.bivariateDegreesSpec.plain.varTypes Try.prog) (ds ++ gs)).all (· ≤ reachBytes) = true := hsz0
  rw [Try.params4] at hA hval hsz
  obtain ⟨v0, vs0, d0, ds0, p0, q0, hargs, rfl, rfl, h0, r0⟩ := trodAll_cons hA
  obtain ⟨v1, vs1, d1, ds1, p1, q1, rfl, rfl, rfl, h1, r1⟩ := trodAll_cons r0
  obtain ⟨v2, vs2, d2, ds2, p2, q2, rfl, rfl, rfl, h2, r2⟩ := trodAll_cons r1
  obtain ⟨rfl, rfl, rfl⟩ := trodAll_nil r2
  obtain rfl : args = #[v0, v1, v2] := by cases args; simp_all
  obtain ⟨rfl, rfl⟩ := trodVars_none hV
  have k0 := h0
  have lt0 : ∀ x ∈ p0, x.block < W.heap.size := by obtain ⟨m, hm⟩ := k0; exact DataW.trod_lt m _ _ _ hm
  have w0 : WOK Try.prog 24 d0 := wok_arg hsz (j := 0) rfl rfl
  obtain ⟨x0, s0⟩ := op_field (hval 0 24 v0 rfl rfl) h0 w0
  have k1 := h1
  have lt1 : ∀ x ∈ p1, x.block < W.heap.size := by obtain ⟨m, hm⟩ := k1; exact DataW.trod_lt m _ _ _ hm
  have w1 : WOK Try.prog 37 d1 := wok_arg hsz (j := 1) rfl rfl
  obtain ⟨x1, s1⟩ := op_bi2 (hval 1 37 v1 rfl rfl) h1 w1
  have k2 := h2
  have lt2 : ∀ x ∈ p2, x.block < W.heap.size := by obtain ⟨m, hm⟩ := k2; exact DataW.trod_lt m _ _ _ hm
  have w2 : WOK Try.prog 3 d2 := wok_arg hsz (j := 2) rfl rfl
  obtain ⟨n2, rfl, b2⟩ := op_int Try.underlying3 (hval 2 3 v2 rfl rfl) h2
  refine (law_BivariateDegrees (w := W) v0 x0 s0 v1 x1 s1 n2 b2).mono fun e W' he => ?_
  cases e with
  | panicked c => exact he.elim
  | outgrown => exact he.elim
  | returned v =>
    obtain ⟨bel, rfl⟩ := he
    exact ⟨_, rfl, _, _, _, [], _, [], hW', trodAll_mk1 (shut_bool Try.underlying4 _), (trodAll_cons_mk (Below.trod laidOut (by kernel_rfl) (of_decide_eq_true (by kernel_rfl)) k0 bel lt0) (trodAll_cons_mk (Below.trod laidOut (by kernel_rfl) (of_decide_eq_true (by kernel_rfl)) k1 bel lt1) (trodAll_cons_mk (Below.trod laidOut (by kernel_rfl) (of_decide_eq_true (by kernel_rfl)) k2 bel lt2) trodAll_mk0))), rfl, bel.frame _, fun h => by cases h⟩
theorem over : Rows.bivariateDegreesRow.holds Try.pinned (OpenSpec.ofChange Rows.bivariateDegreesSpec) :=
  OpenClaim.holds_of_wide 4 Try.f4 rfl rfl rfl rfl rfl rfl rfl ⟨rfl, rfl, rfl, rfl, rfl⟩ rfl rfl rfl rfl rfl (by kernel_rfl) Try.func4 (by kernel_rfl)
    (of_decide_eq_true (by kernel_rfl)) (by unfold Func.isWrapper; first | (rw [if_pos (by decide +kernel)]; kernel_rfl) | (rw [if_neg (by decide +kernel)]; exact ⟨rfl, rfl⟩))
    (fun os started H enc _ => lifted os started H enc)
end FBivariateDegrees
/-- The statement. -/
theorem bivariateDegrees_holds : Rows.BivariateDegreesSaid := FBivariateDegrees.over
end Go.Proofs.Ytjpcgjllmpdmhaa
