/-
  Statement BivariateMultiplicities: for every description of a field and all arguments the law returns true. No condition.
-/
import Derived.Test.YtjpcgjllmpdmhaaZOpen40
import Derived.Test.YtjpcgjllmpdmhaaZRHas
import Derived.Test.YtjpcgjllmpdmhaaZMPa
import Derived.Test.YtjpcgjllmpdmhaaRows
namespace Go.Proofs.Ytjpcgjllmpdmhaa
open Go Go.Sx Go.Pl Go.RowKit Go.Fd Go.Alg Go.Fr
theorem mulIs_bound {P : FP} {F : Pol (Pol (K P))} {n m : Nat} {x y : K P} {v : Int} (hn : YB n F) (hm : XB m F) (h : MulIs x y F v) : -1 ≤ v ∧ v < n + m := by
  rcases h with ⟨_, rfl⟩ | ⟨k, h1, rfl⟩
  · omega
  · have := mult_bound hn hm h1
    omega

set_option maxRecDepth 10000 in
theorem law_BivariateMultiplicities {w : World} (v0 : Value) (r : FRec) (s0 : v0 = r.v ∧ FOf w r) (v1 : Value) (x1 : B2Rec) (s1 : v1 = x1.val ∧ LL w x1.u x1.A ∧ LL w x1.v x1.B) (v2 : Value) (x2 : Int × Int) (s2 : v2 = .agg #[.int .i64 x2.1, .int .i64 x2.2]) :
    Calls Try.prog 5 #[v0, v1, v2] w (RetX w fun v _ => v = .bool true) := by
  obtain ⟨p, M, mo, md⟩ := r
  obtain ⟨rfl, hr⟩ := s0
  obtain ⟨u, v, A, B⟩ := x1
  obtain ⟨rfl, hu, hv⟩ := s1
  obtain ⟨x, y⟩ := x2
  subst s2
  dsimp only at hu hv
  refine calls3 Try.func5 rfl rfl ?_
  refine wc_seq ?_
  refine wc_region [0,1,2,3] rfl ?_
  refine BXA rfl wu rfl rfl ?_
  intro fb w1 hE hB hg
  refine BXA rfl wu rfl rfl ?_
  intro ab w2 hE2 hB2 hg2
  replace hB := hB.ext hE2
  replace hE := hE.trans hE2
  refine BXA rfl wu rfl rfl ?_
  intro cb w3 hE3 hB3 hg3
  replace hB := hB.ext hE3
  replace hB2 := hB2.ext hE3
  replace hE := hE.trans hE3
  refine Go.Sx.V rfl wu rfl rfl (asg rfl) ?_
  refine wr_nil (post_thenN (wc_seq (wc_seq ?_)))
  refine wc_region [0,1] rfl ?_
  refine C rfl wu rfl rfl Try.call16 (lAlive _) ?_
  rintro _ w4 hE4 rfl
  replace hB := hB.ext hE4
  replace hB2 := hB2.ext hE4
  replace hB3 := hB3.ext hE4
  replace hE := hE.trans hE4
  refine Go.Sx.V rfl wu rfl rfl (notB rfl) ?_
  refine wr_nil (post_thenN ?_)
  refine wc_condF rfl (by simp) ?_
  refine wc_skip (post_thenN (wc_seq ?_))
  have hmi := hr.ints.ext hE
  dsimp only at hmi hB
  refine wc_region [0,1,2] rfl ?_
  refine Go.Sx.V rfl wu rfl rfl (ldA rfl ag24) ?_
  refine C rfl wu rfl rfl Try.call17 (lMade p M mo md _ hmi) ?_
  rintro g w5 hE5 hm
  replace hB := hB.ext hE5
  replace hB2 := hB2.ext hE5
  replace hB3 := hB3.ext hE5
  replace hE := hE.trans hE5
  refine Go.Sx.V rfl wu rfl rfl (asg rfl) ?_
  refine wr_nil (post_thenN (wc_seq ?_))
  replace hmi := hmi.ext hE5
  replace hu := hu.ext hE
  replace hv := hv.ext hE
  have hX := Ext.refl w5
  refine wc_draw mixed [0,1,2,3,4,5] (by kernel_rfl) ?_
  intro w6 hd _
  replace hX := hX.trans hd
  refine Go.Sx.V rfl wu rfl rfl (iadA rfl rfl ar37) ?_
  refine Go.Sx.V rfl wu rfl rfl (ldB rfl na26) ?_
  refine Go.Sx.V rfl wu rfl rfl (iadA rfl rfl ar37) ?_
  refine Go.Sx.V rfl wu rfl rfl (ldB rfl na26) ?_
  refine Go.Sx.V rfl wu rfl rfl (asg rfl) ?_
  refine Go.Sx.V rfl wu rfl rfl (asg rfl) ?_
  refine wr_nil (post_thenN (wc_seq (wc_seq ?_)))
  rcases made_split hm hmi with rfl | ⟨P, hp, hM, hF, hG⟩
  · skip
    refine wc_region [0,1,2,3,4,5,6,7,8] rfl ?_
    refine Go.Sx.V rfl wu rfl rfl (mv rfl) ?_
    refine Go.Sx.V rfl wu rfl rfl (eqlPn rfl rfl Try.underlying28) ?_
    refine Go.Sx.V rfl wu rfl rfl (mv rfl) ?_
    refine KB 23 true rfl (by rfl) ?_
    refine SK rfl rfl rfl rfl rfl ?_
    refine SK rfl rfl rfl rfl rfl ?_
    refine SK rfl rfl rfl rfl rfl ?_
    refine SK rfl rfl rfl rfl rfl ?_
    refine SK rfl rfl rfl rfl rfl ?_
    refine Go.Sx.V rfl wu rfl rfl (pk rfl rfl) ?_
    refine wr_nil (post_thenN ?_)
    refine wc_condT rfl (by simp) ?_
    refine wc_seq ?_
    refine wc_region [0] rfl ?_
    refine Go.Sx.V rfl wu rfl rfl (asg rfl) ?_
    refine wr_nil (post_thenN (wc_ret (post_thenR ?_)))
    refine post_ret1 rfl rfl ?_
    exact ⟨hE.trans hX, rfl⟩
  · subst hp hM
    obtain ⟨ga, hga⟩ := hG.ptr
    refine wc_region [0,1,2,3,4,5,6,7,8] rfl ?_
    refine Go.Sx.V rfl wu rfl rfl (mv rfl) ?_
    rw [hga]
    refine Go.Sx.V rfl wu rfl rfl (eqlPn rfl rfl Try.underlying28) ?_
    rw [← hga]
    refine Go.Sx.V rfl wu rfl rfl (mv rfl) ?_
    refine KB 23 false rfl (by rfl) ?_
    refine Go.Sx.V rfl (wg rfl rfl) rfl rfl (mv rfl) ?_
    refine Go.Sx.V rfl (wg rfl rfl) rfl rfl (mv rfl) ?_
    refine BS (us := [u, v]) rfl (wg rfl rfl) rfl rfl rfl rfl ty86 (by intro q hq; simp only [List.mem_cons, List.not_mem_nil, or_false] at hq; rcases hq with rfl | rfl; exact hu.one; exact hv.one) ?_
    intro sv w7 hE7 hsv _
    replace hX := hX.trans hE7
    refine C rfl (wg rfl rfl) rfl rfl Try.call18 (lSmall sv _ [A, B] _ hsv.sl (bis2 (hu.ext hX) (hv.ext hX))) ?_
    rintro _ w8 hE8 rfl
    replace hX := hX.trans hE8
    refine Go.Sx.V rfl (wg rfl rfl) rfl rfl (notB rfl) ?_
    refine Go.Sx.V rfl wu rfl rfl (pk rfl rfl) ?_
    refine wr_nil (post_thenN ?_)
    refine wc_cond rfl ?_ ?_
    · intro h
      refine wc_seq ?_
      refine wc_region [0] rfl ?_
      refine Go.Sx.V rfl wu rfl rfl (asg rfl) ?_
      refine wr_nil (post_thenN (wc_ret (post_thenR ?_)))
      refine post_ret1 rfl rfl ?_
      exact ⟨hE.trans hX, rfl⟩
    · intro h
      simp at h
      obtain ⟨hA1, hA2⟩ := smallB_iff.1 h.1
      obtain ⟨hB1, hB2'⟩ := smallB_iff.1 h.2
      have rA := hA2.mono (show 12 ≤ 17592186044416 by omega)
      have rB := hB2'.mono (show 12 ≤ 17592186044416 by omega)
      have xm := XB.rb ((hA2.xb (P := P)).mul (hB2'.xb (P := P)))
      have ym : (bcl (bz P A * bz P B)).length ≤ A.length + B.length := bcl_len ((YB.bz A).mul (YB.bz B))
      refine wc_skip (post_thenN (wc_seq ?_))
      refine wc_draw mixed [0,1,2,3,4,5,7,8,9,10,11,12,6,13,14,15] (by kernel_rfl) ?_
      intro w9 hd9 _
      replace hX := hX.trans hd9
      refine Go.Sx.V rfl wu rfl rfl (mv rfl) ?_
      refine Go.Sx.V rfl wu rfl rfl (mv rfl) ?_
      refine Go.Sx.V rfl wu rfl rfl (iadA rfl rfl ar43) ?_
      refine Go.Sx.V rfl wu rfl rfl (ldB rfl na3) ?_
      refine Go.Sx.V rfl wu rfl rfl (iadA rfl rfl ar43) ?_
      refine Go.Sx.V rfl wu rfl rfl (ldB rfl na3) ?_
      refine Go.Sx.V rfl wu rfl rfl (mv rfl) ?_
      refine Go.Sx.V rfl wu rfl rfl (mv rfl) ?_
      refine Go.Sx.V rfl wu rfl rfl (iadA rfl rfl ar43) ?_
      refine Go.Sx.V rfl wu rfl rfl (ldB rfl na3) ?_
      refine Go.Sx.V rfl wu rfl rfl (iadA rfl rfl ar43) ?_
      refine Go.Sx.V rfl wu rfl rfl (ldB rfl na3) ?_
      refine C rfl wu rfl rfl Try.call28 (bMultiplicity P g u A x y 12 _ (hG.ext hX) (hu.ext hX) hA2 (by omega) (by omega)) ?_
      rintro _ w10 hE10 ⟨a, rfl, ha⟩
      replace hX := hX.trans hE10
      refine C rfl wu rfl rfl Try.call28 (bMultiplicity P g v B x y 12 _ (hG.ext hX) (hv.ext hX) hB2' (by omega) (by omega)) ?_
      rintro _ w11 hE11 ⟨b, rfl, hb⟩
      replace hX := hX.trans hE11
      refine Go.Sx.V rfl wu rfl rfl (asg rfl) ?_
      refine Go.Sx.V rfl wu rfl rfl (asg rfl) ?_
      refine wr_nil (post_thenN (wc_seq (wc_seq ?_)))
      refine wc_region [0,1,2,3,4,5,6,7,8,9,10,11,12,13,14,15,16,17,18,19] rfl ?_
      refine Go.Sx.V rfl wu rfl rfl (mv rfl) ?_
      refine Go.Sx.V rfl wu rfl rfl (ldA rfl ag24 (hB.ext hX)) ?_
      refine Go.Sx.V rfl wu rfl rfl (mv rfl) ?_
      refine Go.Sx.V rfl wu rfl rfl (iadA rfl rfl ar43) ?_
      refine Go.Sx.V rfl wu rfl rfl (ldB rfl na3) ?_
      refine Go.Sx.V rfl wu rfl rfl (iadA rfl rfl ar43) ?_
      refine Go.Sx.V rfl wu rfl rfl (ldB rfl na3) ?_
      refine C rfl wu rfl rfl Try.call29 (rMultiplicity P mo md u A x y 12 _ (hF.ext hX) (hu.ext hX) hA2 (by omega) (by omega)) ?_
      rintro _ w12 hE12 ⟨a2, rfl, ha2⟩
      replace hX := hX.trans hE12
      obtain rfl := ha.uniq ha2
      refine Go.Sx.V rfl wu rfl rfl (neqI rfl rfl) ?_
      refine Go.Sx.V rfl wu rfl rfl (mv rfl) ?_
      refine KB 53 false rfl (by simp) ?_
      refine Go.Sx.V rfl (wg rfl rfl) rfl rfl (mv rfl) ?_
      refine Go.Sx.V rfl (wg rfl rfl) rfl rfl (ldA rfl ag24 (hB.ext hX)) ?_
      refine Go.Sx.V rfl (wg rfl rfl) rfl rfl (mv rfl) ?_
      refine Go.Sx.V rfl (wg rfl rfl) rfl rfl (iadA rfl rfl ar43) ?_
      refine Go.Sx.V rfl (wg rfl rfl) rfl rfl (ldB rfl na3) ?_
      refine Go.Sx.V rfl (wg rfl rfl) rfl rfl (iadA rfl rfl ar43) ?_
      refine Go.Sx.V rfl (wg rfl rfl) rfl rfl (ldB rfl na3) ?_
      refine C rfl (wg rfl rfl) rfl rfl Try.call29 (rMultiplicity P mo md v B x y 12 _ (hF.ext hX) (hv.ext hX) hB2' (by omega) (by omega)) ?_
      rintro _ w13 hE13 ⟨b2, rfl, hb2⟩
      replace hX := hX.trans hE13
      obtain rfl := hb.uniq hb2
      refine Go.Sx.V rfl (wg rfl rfl) rfl rfl (neqI rfl rfl) ?_
      refine Go.Sx.V rfl wu rfl rfl (pk rfl rfl) ?_
      refine wr_nil (post_thenN ?_)
      refine wc_condF rfl (by simp) ?_
      refine wc_skip (post_thenN (wc_seq ?_))
      refine wc_draw mixed [0,1,2,3,5,6,7,8,4,9,10] (by kernel_rfl) ?_
      intro w14 hd14 _
      replace hX := hX.trans hd14
      refine Go.Sx.V rfl wu rfl rfl (mv rfl) ?_
      refine Go.Sx.V rfl wu rfl rfl (mv rfl) ?_
      refine Go.Sx.V rfl wu rfl rfl (mv rfl) ?_
      refine Go.Sx.V rfl wu rfl rfl (mv rfl) ?_
      refine Go.Sx.V rfl wu rfl rfl (iadA rfl rfl ar43) ?_
      refine Go.Sx.V rfl wu rfl rfl (ldB rfl na3) ?_
      refine Go.Sx.V rfl wu rfl rfl (iadA rfl rfl ar43) ?_
      refine Go.Sx.V rfl wu rfl rfl (ldB rfl na3) ?_
      refine C rfl wu rfl rfl Try.call24 (bMul P g u v A B 12 12 _ (hG.ext hX) (hu.ext hX) (hv.ext hX) hA2 hB2' (by omega) (by omega) (by omega) (by omega)) ?_
      intro m w17 hE17 hm2
      replace hX := hX.trans hE17
      refine C rfl wu rfl rfl Try.call28 (bMultiplicity P g m _ x y 24 _ (hG.ext hX) hm2.ll xm (by omega) (by omega)) ?_
      rintro _ w18 hE18 ⟨c, rfl, hc⟩
      replace hX := hX.trans hE18
      refine Go.Sx.V rfl wu rfl rfl (asg rfl) ?_
      refine wr_nil (post_thenN (wc_seq (wc_seq ?_)))
      rw [bz_bcl] at hc
      have hm := mulIs_mul hG.nzd ha hb hc
      obtain ⟨la, la'⟩ := mulIs_bound (YB.bz A) (hA2.xb (P := P)) ha
      obtain ⟨lb, lb'⟩ := mulIs_bound (YB.bz B) (hB2'.xb (P := P)) hb
      refine wc_region [0,1,2,3,4,5] rfl ?_
      refine Go.Sx.V rfl wu rfl rfl (mv rfl) ?_
      refine Go.Sx.V rfl wu rfl rfl (lssI rfl rfl) ?_
      refine Go.Sx.V rfl wu rfl rfl (mv rfl) ?_
      refine OR (π1 := [3,4,5]) (π2 := []) (tc := 76) (tp := 79) rfl rfl rfl (by
          intro _
          refine SK rfl rfl rfl rfl rfl ?_
          refine SK rfl rfl rfl rfl rfl ?_
          refine Go.Sx.V rfl wu rfl rfl (pk rfl rfl) ?_
          exact join rfl) (by
          intro hg
          simp at hg
          refine Go.Sx.V rfl (wg rfl rfl) rfl rfl (mv rfl) ?_
          refine Go.Sx.V rfl (wg rfl rfl) rfl rfl (lssI rfl rfl) ?_
          refine Go.Sx.V rfl wu rfl rfl (pk rfl rfl) ?_
          exact join rfl) ?_
      refine wr_nil (post_thenN ?_)
      refine wc_cond rfl ?_ ?_
      · intro h4
        simp at h4
        rw [if_pos (by omega)] at hm
        refine wc_seq ?_
        refine wc_region [0,1,2] rfl ?_
        refine Go.Sx.V rfl wu rfl rfl (mv rfl) ?_
        refine Go.Sx.V rfl wu rfl rfl (eqlI rfl rfl) ?_
        refine Go.Sx.V rfl wu rfl rfl (asg rfl) ?_
        refine wr_nil (post_thenN (wc_ret (post_thenR ?_)))
        refine post_ret1 rfl rfl ?_
        exact ⟨hE.trans hX, by rw [hm]; simp⟩
      · intro h4
        simp at h4
        rw [if_neg (by omega)] at hm
        refine wc_skip (post_thenN (wc_seq ?_))
        refine wc_region [0,1,2,3,4,5] rfl ?_
        refine Go.Sx.V rfl wu rfl rfl (mv rfl) ?_
        refine Go.Sx.V rfl wu rfl rfl (mv rfl) ?_
        refine Go.Sx.V rfl wu rfl rfl (mv rfl) ?_
        refine Go.Sx.V rfl wu rfl rfl (addI rfl rfl) ?_
        refine Go.Sx.V rfl wu rfl rfl (eqlI rfl rfl) ?_
        refine Go.Sx.V rfl wu rfl rfl (asg rfl) ?_
        refine wr_nil (post_thenN (wc_ret ?_))
        refine post_ret1 rfl rfl ?_
        exact ⟨hE.trans hX, by rw [hm]; simp⟩
namespace FBivariateMultiplicities
open Go.ChangeShapes Go.WideShapes Go.ChangeAt Go.RowKit Go.Fr
theorem own : ownKnob Try.prog.godebug = none := by kernel_rfl
theorem laidOut : laidOutB Try.prog = true := by kernel_rfl
set_option maxRecDepth 100000 in
theorem lifted (os : Os) (started : os.Started) (H : Type) (enc : TypeId × Value → H) :
    ReturnsInHanded {} Try.checked os 5 .any (Rows.bivariateMultiplicitiesSpec.pre6 enc Try.prog Try.f5 Rows.bivariateMultiplicitiesRow.domain false) (Rows.bivariateMultiplicitiesSpec.post enc Try.prog Try.f5 false true false false) := by
  refine returnsInHanded_of_change_sized (C := Try.checked) own started (by kernel_rfl) Try.func5
    (ChangeSpec.witness6 (enc := enc) (C := Try.checked) false ⟨#[], #[.agg #[.int .i64 0, .int .i64 0, .slice none 0 0], .agg #[.slice none 0 0, .slice none 0 0], .agg #[.int .i64 0, .int .i64 0]], []⟩ 8 (by kernel_rfl) (by kernel_rfl) (by kernel_rfl) (by kernel_rfl)) ?_
  intro W base args ds gs before hval0 hW _ hsz0 _
  have hval : ∀ (j : Nat) t v, Try.f5.params[j]? = some t → args[j]? = some v → Value.okWide Try.prog W .any base t v := hval0
  have hW' := hW
  obtain ⟨p, q, hA0, hV, rfl, hfz, hnd⟩ := hW
  have hA : DataW.TrodAll enc Try.prog W 0 (fun _ => true) true Try.f5.params.toList args.toList ds p := hA0
  have hsz : (DataW.weightsEach Try.prog (Try.f5.params.toList ++ Rows.bivariateMultiplicitiesSpec.plain.varTypes Try.prog) (ds ++ gs)).all (· ≤ reachBytes) = true := hsz0
  rw [Try.params5] at hA hval hsz
  obtain ⟨v0, vs0, d0, ds0, p0, q0, hargs, rfl, rfl, h0, r0⟩ := trodAll_cons hA
  obtain ⟨v1, vs1, d1, ds1, p1, q1, rfl, rfl, rfl, h1, r1⟩ := trodAll_cons r0
  obtain ⟨v2, vs2, d2, ds2, p2, q2, rfl, rfl, rfl, h2, r2⟩ := trodAll_cons r1
  obtain ⟨rfl, rfl, rfl⟩ := trodAll_nil r2
  obtain rfl : args = #[v0, v1, v2] := by cases args; simp_all
  obtain ⟨rfl, rfl⟩ := trodVars_none hV
  have k0 := h0
  have lt0 : ∀ x ∈ p0, x.block < W.heap.size := by obtain ⟨m, hm⟩ := k0; exact DataW.trod_lt m _ _ _ hm
  have w0 : WOK Try.prog 24 d0 := wok_arg hsz (j := 0) rfl rfl
  obtain ⟨x0, s0⟩ := op_field (hval 0 24 v0 rfl rfl) h0 w0
  have k1 := h1
  have lt1 : ∀ x ∈ p1, x.block < W.heap.size := by obtain ⟨m, hm⟩ := k1; exact DataW.trod_lt m _ _ _ hm
  have w1 : WOK Try.prog 37 d1 := wok_arg hsz (j := 1) rfl rfl
  obtain ⟨x1, s1⟩ := op_bi2 (hval 1 37 v1 rfl rfl) h1 w1
  have k2 := h2
  have lt2 : ∀ x ∈ p2, x.block < W.heap.size := by obtain ⟨m, hm⟩ := k2; exact DataW.trod_lt m _ _ _ hm
  have w2 : WOK Try.prog 43 d2 := wok_arg hsz (j := 2) rfl rfl
  obtain ⟨x2, s2⟩ := op_int2 (hval 2 43 v2 rfl rfl) h2 w2
  refine (law_BivariateMultiplicities (w := W) v0 x0 s0 v1 x1 s1 v2 x2 s2).mono fun e W' he => ?_
  cases e with
  | panicked c => exact he.elim
  | outgrown => exact he.elim
  | returned v =>
    obtain ⟨bel, rfl⟩ := he
    exact ⟨_, rfl, _, _, _, [], _, [], hW', trodAll_mk1 (shut_bool Try.underlying4 _), (trodAll_cons_mk (Below.trod laidOut (by kernel_rfl) (of_decide_eq_true (by kernel_rfl)) k0 bel lt0) (trodAll_cons_mk (Below.trod laidOut (by kernel_rfl) (of_decide_eq_true (by kernel_rfl)) k1 bel lt1) (trodAll_cons_mk (Below.trod laidOut (by kernel_rfl) (of_decide_eq_true (by kernel_rfl)) k2 bel lt2) trodAll_mk0))), rfl, bel.frame _, fun h => by cases h⟩
theorem over : Rows.bivariateMultiplicitiesRow.holds Try.pinned (OpenSpec.ofChange Rows.bivariateMultiplicitiesSpec) :=
  OpenClaim.holds_of_wide 5 Try.f5 rfl rfl rfl rfl rfl rfl rfl ⟨rfl, rfl, rfl, rfl, rfl⟩ rfl rfl rfl rfl rfl (by kernel_rfl) Try.func5 (by kernel_rfl)
    (of_decide_eq_true (by kernel_rfl)) (by unfold Func.isWrapper; first | (rw [if_pos (by decide +kernel)]; kernel_rfl) | (rw [if_neg (by decide +kernel)]; exact ⟨rfl, rfl⟩))
    (fun os started H enc _ => lifted os started H enc)
end FBivariateMultiplicities
/-- The statement. -/
theorem bivariateMultiplicities_holds : Rows.BivariateMultiplicitiesSaid := FBivariateMultiplicities.over
end Go.Proofs.Ytjpcgjllmpdmhaa
