/-
  Statements WordMeasures and WordTriangle: for every field and all lists the laws return true. No condition.
-/
import Derived.Test.YtlcokneidokfnaaOpen11
import Derived.Test.YtlcokneidokfnaaWord1
import Derived.Test.YtlcokneidokfnaaRWord1
import Derived.Test.YtlcokneidokfnaaRank
import Derived.Test.YtlcokneidokfnaaRows
namespace Go.Proofs.Ytlcokneidokfnaa
open Go Go.Sx Go.Pl Go.RowKit Go.Fd Go.Alg Go.Fr

theorem open_split {w : World} {p M : Int} {mo : Value} {md : List Int} {v : Value} (h : OpenA w ⟨p, M, mo, md⟩ v) :
    ∃ g d, v = .tuple #[g, .bool d, .bool true] ∧ (d = true ∨ (d = false ∧ ∃ P : FP, P.p = p ∧ (P.M : Int) = M ∧ (∀ w' mo', Ints w' mo' md → FV w' P mo' md) ∧ GFV w P g)) := by
  rcases h with h | ⟨P, h1, _, h3, h4, g, h5, h6⟩
  · exact ⟨_, _, h, .inl rfl⟩
  · exact ⟨_, _, h5, .inr ⟨rfl, P, h3, h4, h1, h6⟩⟩
theorem meas {P : FP} (a b : List Int) : (wgt P (pwA P (fun x y => x + -y) a b).1 : Int) = (dstA P a b).1 ∧ (pwA P (fun x y => x + -y) a b).2 = (dstA P a b).2 := by
  by_cases h : a.length = b.length
  · rw [pwA, if_pos h, dstA, if_pos h]
    exact ⟨by rw [wgt_sub], rfl⟩
  · rw [pwA, if_neg h, dstA, if_neg h]
    exact ⟨rfl, rfl⟩
theorem ex_dist {P : FP} (h : 2 ≤ P.q) : wgt P (pwA P (fun x y => x + -y) [1, 0, 1] [0, 0, 1]).1 = 1 ∧ (pwA P (fun x y => x + -y) [1, 0, 1] [0, 0, 1]).2 = 0 := by
  have hm := meas (P := P) [1, 0, 1] [0, 0, 1]
  have e1 : inK P 1 = 1 := inK_in (by omega)
  have e0 : inK P 0 = 0 := inK_in (by omega)
  have h0 : (kt P [1, 0, 1] 0) = 1 := e1
  have h1 : (kt P [1, 0, 1] 1) = 0 := e0
  have h2 : (kt P [1, 0, 1] 2) = 1 := e1
  have k0 : (kt P [0, 0, 1] 0) = 0 := e0
  have k1 : (kt P [0, 0, 1] 1) = 0 := e0
  have k2 : (kt P [0, 0, 1] 2) = 1 := e1
  have hd : dst P [1, 0, 1] [0, 0, 1] = 1 := by
    simp [dst, cnt, h0, h1, h2, k0, k1, k2, one_ne_zero]
  have e : dstA P [1, 0, 1] [0, 0, 1] = ((dst P [1, 0, 1] [0, 0, 1] : Int), 0) := if_pos rfl
  rw [e, hd] at hm
  exact ⟨by have := hm.1; omega, hm.2⟩

set_option maxRecDepth 10000 in
theorem law_WordMeasures {w : World} (v0 : Value) (r : FRec) (s0 : v0 = r.v ∧ FOf w r) (u : Value) (a : List Int) (hu : Ints w u a) (ba : LFit a) (v : Value) (b : List Int) (hv : Ints w v b) (bb : LFit b) :
    Calls Try.prog 14 #[v0, u, v] w (RetX w fun v _ => v = .bool true) := by
  obtain ⟨p, M, mo, md⟩ := r
  obtain ⟨rfl, hr⟩ := s0
  refine calls3 Try.func14 rfl rfl ?_
  refine wc_seq ?_
  refine wc_region [0,1] rfl ?_
  refine BXA rfl wu rfl rfl ?_
  intro fb w1 hE hB hg
  refine Go.Sx.V rfl wu rfl rfl (asg rfl) ?_
  refine wr_nil (post_thenN (wc_seq ?_))
  refine wc_region [0,1,2,3,4,5,6,7,8] rfl ?_
  refine Go.Sx.V rfl wu rfl rfl (ldA rfl ag40) ?_
  refine C rfl wu rfl rfl Try.call29 (lOpen ⟨p, M, mo, md⟩ _ (hr.ints.ext hE)) ?_
  rintro ov w2 hE2 hop
  replace hB := hB.ext hE2
  replace hE := hE.trans hE2
  obtain ⟨gv, dn, rfl, hcase⟩ := open_split hop
  refine Go.Sx.V rfl wu rfl rfl (mv rfl) ?_
  refine Go.Sx.V rfl wu rfl rfl (ext rfl rfl) ?_
  refine Go.Sx.V rfl wu rfl rfl (ext rfl rfl) ?_
  refine Go.Sx.V rfl wu rfl rfl (ext rfl rfl) ?_
  refine Go.Sx.V rfl wu rfl rfl (asg rfl) ?_
  refine Go.Sx.V rfl wu rfl rfl (asg rfl) ?_
  refine Go.Sx.V rfl wu rfl rfl (asg rfl) ?_
  refine wr_nil (post_thenN (wc_seq (wc_seq ?_)))
  have hmi := hr.ints.ext hE
  replace hu := hu.ext hE
  replace hv := hv.ext hE
  refine wc_region [0] rfl ?_
  refine Go.Sx.V rfl wu rfl rfl (mv rfl) ?_
  refine wr_nil (post_thenN ?_)
  refine wc_cond rfl ?_ ?_
  · intro _
    refine wc_seq ?_
    refine wc_region [0,1] rfl ?_
    refine Go.Sx.V rfl wu rfl rfl (mv rfl) ?_
    refine Go.Sx.V rfl wu rfl rfl (asg rfl) ?_
    refine wr_nil (post_thenN (wc_ret (post_thenR ?_)))
    refine post_ret1 rfl rfl ?_
    exact ⟨hE, rfl⟩
  · intro h
    rcases hcase with hd | ⟨_, P, hp, hM, hFV, hG⟩
    · rw [hd] at h; cases h
    dsimp only at hB
    subst hp hM
    have hF := hFV _ _ hmi
    have hX := Ext.refl w2
    have hm := meas (P := P) a b
    refine wc_skip (post_thenN (wc_seq ?_))
    refine wc_region [0,1,2,3,4,5,6,7,8] rfl ?_
    refine Go.Sx.V rfl wu rfl rfl (mv rfl) ?_
    refine Go.Sx.V rfl wu rfl rfl (mv rfl) ?_
    refine Go.Sx.V rfl wu rfl rfl (mv rfl) ?_
    refine C rfl wu rfl rfl Try.call50 (wDistance P gv u v a b _ (hG.ext hX) (hu.ext hX) (hv.ext hX) ba.2) ?_
    rintro _ w3 hE3 rfl
    replace hX := hX.trans hE3
    refine Go.Sx.V rfl wu rfl rfl (mv rfl) ?_
    refine Go.Sx.V rfl wu rfl rfl (ext rfl rfl) ?_
    refine Go.Sx.V rfl wu rfl rfl (ext rfl rfl) ?_
    refine Go.Sx.V rfl wu rfl rfl (asg rfl) ?_
    refine Go.Sx.V rfl wu rfl rfl (asg rfl) ?_
    refine wr_nil (post_thenN (wc_seq ?_))
    refine wc_region [0,1,2,3,4,5,6,7,8] rfl ?_
    refine Go.Sx.V rfl wu rfl rfl (ldA rfl ag40) ?_
    refine Go.Sx.V rfl wu rfl rfl (mv rfl) ?_
    refine Go.Sx.V rfl wu rfl rfl (mv rfl) ?_
    refine C rfl wu rfl rfl Try.call51 (r11Distance P mo md u v a b _ (hF.ext hX) (hu.ext hX) (hv.ext hX) ba.2) ?_
    rintro _ w4 hE4 rfl
    replace hX := hX.trans hE4
    refine Go.Sx.V rfl wu rfl rfl (mv rfl) ?_
    refine Go.Sx.V rfl wu rfl rfl (ext rfl rfl) ?_
    refine Go.Sx.V rfl wu rfl rfl (ext rfl rfl) ?_
    refine Go.Sx.V rfl wu rfl rfl (asg rfl) ?_
    refine Go.Sx.V rfl wu rfl rfl (asg rfl) ?_
    refine wr_nil (post_thenN (wc_seq (wc_seq ?_)))
    refine wc_region [0,1,2,3,4,5,6,7] rfl ?_
    refine Go.Sx.V rfl wu rfl rfl (mv rfl) ?_
    refine Go.Sx.V rfl wu rfl rfl (mv rfl) ?_
    refine Go.Sx.V rfl wu rfl rfl (neqI rfl rfl) ?_
    refine Go.Sx.V rfl wu rfl rfl (mv rfl) ?_
    refine OR (π1 := [4,5,6,7]) (π2 := []) (tc := 43) (tp := 47) rfl rfl rfl (by
        intro _
        refine SK rfl rfl rfl rfl rfl ?_
        refine SK rfl rfl rfl rfl rfl ?_
        refine SK rfl rfl rfl rfl rfl ?_
        refine Go.Sx.V rfl wu rfl rfl (pk rfl rfl) ?_
        exact join rfl) (by
        intro hg
        simp at hg
        refine Go.Sx.V rfl (wg rfl rfl) rfl rfl (mv rfl) ?_
        refine Go.Sx.V rfl (wg rfl rfl) rfl rfl (mv rfl) ?_
        refine Go.Sx.V rfl (wg rfl rfl) rfl rfl (neqI rfl rfl) ?_
        refine Go.Sx.V rfl wu rfl rfl (pk rfl rfl) ?_
        exact join rfl) ?_
    refine wr_nil (post_thenN ?_)
    refine wc_condF rfl (by rw [hm.1, hm.2]; simp) ?_
    refine wc_skip (post_thenN (wc_seq ?_))
    refine wc_region [0,1,2,3,4,5,6,7,8] rfl ?_
    refine Go.Sx.V rfl wu rfl rfl (mv rfl) ?_
    refine Go.Sx.V rfl wu rfl rfl (mv rfl) ?_
    refine Go.Sx.V rfl wu rfl rfl (mv rfl) ?_
    refine C rfl wu rfl rfl Try.call37 (wSub P gv u v a b _ (hG.ext hX) (hu.ext hX) (hv.ext hX) ba.2) ?_
    rintro _ w5 hE5 ⟨s, rfl, hs⟩
    replace hX := hX.trans hE5
    refine Go.Sx.V rfl wu rfl rfl (mv rfl) ?_
    refine Go.Sx.V rfl wu rfl rfl (ext rfl rfl) ?_
    refine Go.Sx.V rfl wu rfl rfl (ext rfl rfl) ?_
    refine Go.Sx.V rfl wu rfl rfl (asg rfl) ?_
    refine Go.Sx.V rfl wu rfl rfl (asg rfl) ?_
    refine wr_nil (post_thenN (wc_seq (wc_seq ?_)))
    refine wc_region [0,1,2] rfl ?_
    refine Go.Sx.V rfl wu rfl rfl (mv rfl) ?_
    refine Go.Sx.V rfl wu rfl rfl (mv rfl) ?_
    refine Go.Sx.V rfl wu rfl rfl (neqI rfl rfl) ?_
    refine wr_nil (post_thenN ?_)
    refine wc_condF rfl (by rw [hm.2]; simp) ?_
    refine wc_skip (post_thenN (wc_seq (wc_seq ?_)))
    have hl : (pwA P (fun x y => x + -y) a b).1.length ≤ 17592186044416 := by
      rw [pwA]
      split
      · rw [pw_length]; exact ba.2
      · simp
    refine wc_region [0,1,2,3,4,5,6,7,8] rfl ?_
    refine Go.Sx.V rfl wu rfl rfl (mv rfl) ?_
    refine Go.Sx.V rfl wu rfl rfl (eqlI rfl rfl) ?_
    refine Go.Sx.V rfl wu rfl rfl (mv rfl) ?_
    refine ANDX (π1 := [3,4,5,6,7,8]) (π2 := []) (tc := 60) (tp := 66) rfl rfl rfl (by
        intro hg
        simp at hg
        refine Go.Sx.V rfl (wg rfl rfl) rfl rfl (mv rfl) ?_
        refine Go.Sx.V rfl (wg rfl rfl) rfl rfl (mv rfl) ?_
        refine C rfl (wg rfl rfl) rfl rfl Try.call34 (wWeight P gv s _ _ (hG.ext hX) (hs.ext (Ext.refl _)) hl) ?_
        rintro _ w6 hE6 rfl
        refine Go.Sx.V rfl (wg rfl rfl) rfl rfl (mv rfl) ?_
        refine Go.Sx.V rfl (wg rfl rfl) rfl rfl (neqI rfl rfl) ?_
        refine Go.Sx.V rfl wu rfl rfl (pk rfl rfl) ?_
        exact joinX rfl) (by
        intro _
        refine SK rfl rfl rfl rfl rfl ?_
        refine SK rfl rfl rfl rfl rfl ?_
        refine SK rfl rfl rfl rfl rfl ?_
        refine SK rfl rfl rfl rfl rfl ?_
        refine SK rfl rfl rfl rfl rfl ?_
        refine Go.Sx.V rfl wu rfl rfl (pk rfl rfl) ?_
        exact joinX rfl) ?_
    intro w6 hE6
    replace hX := hX.trans hE6
    refine wr_nil (post_thenN ?_)
    refine wc_condF rfl (by simp) ?_
    refine wc_skip (post_thenN (wc_seq ?_))
    have he := ex_dist P.q_two
    refine wc_region [0,1,2,3,4,5,6,7,8] rfl ?_
    refine Go.Sx.V rfl wu rfl rfl (mv rfl) ?_
    refine BSI (zs := [1, 0, 1]) rfl wu rfl rfl rfl rfl ty26 ?_
    intro c w7 hE7 _ hc _
    replace hX := hX.trans hE7
    refine BSI (zs := [0, 0, 1]) rfl wu rfl rfl rfl rfl ty26 ?_
    intro d w8 hE8 _ hd _
    replace hX := hX.trans hE8
    refine C rfl wu rfl rfl Try.call50 (wDistance P gv c d _ _ _ (hG.ext hX) (hc.ext hE8) hd (by decide)) ?_
    rintro _ w9 hE9 rfl
    replace hX := hX.trans hE9
    rw [he.1, he.2]
    refine Go.Sx.V rfl wu rfl rfl (mv rfl) ?_
    refine Go.Sx.V rfl wu rfl rfl (ext rfl rfl) ?_
    refine Go.Sx.V rfl wu rfl rfl (ext rfl rfl) ?_
    refine Go.Sx.V rfl wu rfl rfl (asg rfl) ?_
    refine Go.Sx.V rfl wu rfl rfl (asg rfl) ?_
    refine wr_nil (post_thenN (wc_seq ?_))
    refine wc_region [0,1,2,3,4,5,6] rfl ?_
    refine Go.Sx.V rfl wu rfl rfl (mv rfl) ?_
    refine Go.Sx.V rfl wu rfl rfl (eqlI rfl rfl) ?_
    refine Go.Sx.V rfl wu rfl rfl (mv rfl) ?_
    refine AND (π1 := [3,4,5]) (π2 := [6]) (tc := 76) (tp := 79) rfl rfl rfl (by
        intro hg
        simp at hg
        refine Go.Sx.V rfl (wg rfl rfl) rfl rfl (mv rfl) ?_
        refine Go.Sx.V rfl (wg rfl rfl) rfl rfl (eqlI rfl rfl) ?_
        refine Go.Sx.V rfl wu rfl rfl (pk rfl rfl) ?_
        exact join rfl) (by
        intro _
        refine SK rfl rfl rfl rfl rfl ?_
        refine SK rfl rfl rfl rfl rfl ?_
        refine Go.Sx.V rfl wu rfl rfl (pk rfl rfl) ?_
        exact join rfl) ?_
    refine Go.Sx.V rfl wu rfl rfl (asg rfl) ?_
    refine wr_nil (post_thenN (wc_ret ?_))
    refine post_ret1 rfl rfl ?_
    exact ⟨hE.trans hX, rfl⟩
namespace FWordMeasures
open Go.ChangeShapes Go.WideShapes Go.ChangeAt Go.RowKit Go.Fr
theorem own : ownKnob Try.prog.godebug = none := by kernel_rfl
theorem laidOut : laidOutB Try.prog = true := by kernel_rfl
set_option maxRecDepth 100000 in
theorem lifted (os : Os) (started : os.Started) (H : Type) (enc : TypeId × Value → H) :
    ReturnsInHanded {} Try.checked os 14 .any (Rows.wordMeasuresSpec.pre6 enc Try.prog Try.f14 Rows.wordMeasuresRow.domain false) (Rows.wordMeasuresSpec.post enc Try.prog Try.f14 false true false false) := by
  refine returnsInHanded_of_change_sized (C := Try.checked) own started (by kernel_rfl) Try.func14
    (ChangeSpec.witness6 (enc := enc) (C := Try.checked) false ⟨#[], #[.agg #[.int .i64 0, .int .i64 0, .slice none 0 0], .slice none 0 0, .slice none 0 0], []⟩ 8 (by kernel_rfl) (by kernel_rfl) (by kernel_rfl) (by kernel_rfl)) ?_
  intro W base args ds gs before hval0 hW _ hsz0 _
  have hval : ∀ (j : Nat) t v, Try.f14.params[j]? = some t → args[j]? = some v → Value.okWide Try.prog W .any base t v := hval0
  have hW' := hW
  obtain ⟨p, q, hA0, hV, rfl, hfz, hnd⟩ := hW
  have hA : DataW.TrodAll enc Try.prog W 0 (fun _ => true) true Try.f14.params.toList args.toList ds p := hA0
  have hsz : (DataW.weightsEach Try.prog (Try.f14.params.toList ++ Rows.wordMeasuresSpec.plain.varTypes Try.prog) (ds ++ gs)).all (· ≤ reachBytes) = true := hsz0
  rw [Try.params14] at hA hval hsz
  obtain ⟨v0, vs0, d0, ds0, p0, q0, hargs, rfl, rfl, h0, r0⟩ := trodAll_cons hA
  obtain ⟨v1, vs1, d1, ds1, p1, q1, rfl, rfl, rfl, h1, r1⟩ := trodAll_cons r0
  obtain ⟨v2, vs2, d2, ds2, p2, q2, rfl, rfl, rfl, h2, r2⟩ := trodAll_cons r1
  obtain ⟨rfl, rfl, rfl⟩ := trodAll_nil r2
  obtain rfl : args = #[v0, v1, v2] := by cases args; simp_all
  obtain ⟨rfl, rfl⟩ := trodVars_none hV
  have k0 := h0
  have lt0 : ∀ x ∈ p0, x.block < W.heap.size := by obtain ⟨m, hm⟩ := k0; exact DataW.trod_lt m _ _ _ hm
  have w0 : WOK Try.prog 40 d0 := wok_arg hsz (j := 0) rfl rfl
  obtain ⟨x0, s0⟩ := op_field (hval 0 40 v0 rfl rfl) h0 w0
  have k1 := h1
  have lt1 : ∀ x ∈ p1, x.block < W.heap.size := by obtain ⟨m, hm⟩ := k1; exact DataW.trod_lt m _ _ _ hm
  have w1 : WOK Try.prog 26 d1 := wok_arg hsz (j := 1) rfl rfl
  obtain ⟨z1, s1, b1⟩ := op_intsL Try.underlying26 Try.underlying3 (by kernel_rfl) (by kernel_rfl) (hval 1 26 v1 rfl rfl) h1 w1
  have k2 := h2
  have lt2 : ∀ x ∈ p2, x.block < W.heap.size := by obtain ⟨m, hm⟩ := k2; exact DataW.trod_lt m _ _ _ hm
  have w2 : WOK Try.prog 26 d2 := wok_arg hsz (j := 2) rfl rfl
  obtain ⟨z2, s2, b2⟩ := op_intsL Try.underlying26 Try.underlying3 (by kernel_rfl) (by kernel_rfl) (hval 2 26 v2 rfl rfl) h2 w2
  refine (law_WordMeasures (w := W) v0 x0 s0 v1 z1 s1 b1 v2 z2 s2 b2).mono fun e W' he => ?_
  cases e with
  | panicked c => exact he.elim
  | outgrown => exact he.elim
  | returned v =>
    obtain ⟨bel, rfl⟩ := he
    exact ⟨_, rfl, _, _, _, [], _, [], hW', trodAll_mk1 (shut_bool Try.underlying4 _), (trodAll_cons_mk (Below.trod laidOut (by kernel_rfl) (of_decide_eq_true (by kernel_rfl)) k0 bel lt0) (trodAll_cons_mk (Below.trod laidOut (by kernel_rfl) (of_decide_eq_true (by kernel_rfl)) k1 bel lt1) (trodAll_cons_mk (Below.trod laidOut (by kernel_rfl) (of_decide_eq_true (by kernel_rfl)) k2 bel lt2) trodAll_mk0))), rfl, bel.frame _, fun h => by cases h⟩
theorem over : Rows.wordMeasuresRow.holds Try.pinned (OpenSpec.ofChange Rows.wordMeasuresSpec) :=
  OpenClaim.holds_of_wide 14 Try.f14 rfl rfl rfl rfl rfl rfl rfl ⟨rfl, rfl, rfl, rfl, rfl⟩ rfl rfl rfl rfl rfl (by kernel_rfl) Try.func14 (by kernel_rfl)
    (of_decide_eq_true (by kernel_rfl)) (by unfold Func.isWrapper; first | (rw [if_pos (by decide +kernel)]; kernel_rfl) | (rw [if_neg (by decide +kernel)]; exact ⟨rfl, rfl⟩))
    (fun os started H enc _ => lifted os started H enc)
end FWordMeasures
/-- The statement. -/
theorem wordMeasures_holds : Rows.WordMeasuresSaid := FWordMeasures.over

theorem fa61_0 : FA Try.prog 61 0 0 := fun a w => by
  simp [Instr.fieldAt, run_underlying Try.underlying61, Instr.sureAddr, fieldPlace]
theorem fa61_1 : FA Try.prog 61 1 3 := fun a w => by
  simp [Instr.fieldAt, run_underlying Try.underlying61, Instr.sureAddr, fieldPlace]
theorem fa61_2 : FA Try.prog 61 2 4 := fun a w => by
  simp [Instr.fieldAt, run_underlying Try.underlying61, Instr.sureAddr, fieldPlace]
theorem fa61_3 : FA Try.prog 61 3 5 := fun a w => by
  simp [Instr.fieldAt, run_underlying Try.underlying61, Instr.sureAddr, fieldPlace]

set_option maxRecDepth 10000 in
theorem law_WordTriangle {w : World} (v0 : Value) (r : LRec) (s0 : v0 = r.v ∧ LOf w r) :
    Calls Try.prog 13 #[v0] w (RetX w fun v _ => v = .bool true) := by
  obtain ⟨⟨p, M, mo, md⟩, uA, uB, uC, a, b, c⟩ := r
  obtain ⟨rfl, hr, hu, hv, hz, ba, bb, bc⟩ := s0
  dsimp only at hr hu hv hz ba bb bc
  refine calls1 Try.func13 rfl rfl ?_
  refine wc_seq ?_
  refine wc_region [0,1] rfl ?_
  refine BXA rfl wu rfl rfl ?_
  intro fb w1 hE hB hg
  refine Go.Sx.V rfl wu rfl rfl (asg rfl) ?_
  refine wr_nil (post_thenN (wc_seq ?_))
  refine wc_region [0,1,2,3,4,5,6,7,8,9] rfl ?_
  refine Go.Sx.V rfl wu rfl rfl (fad rfl fa61_0) ?_
  refine Go.Sx.V rfl wu rfl rfl (ldA rfl ag40) ?_
  refine C rfl wu rfl rfl Try.call29 (lOpen ⟨p, M, mo, md⟩ _ (hr.ints.ext hE)) ?_
  rintro ov w2 hE2 hop
  replace hB := hB.ext hE2
  replace hE := hE.trans hE2
  obtain ⟨gv, dn, rfl, hcase⟩ := open_split hop
  refine Go.Sx.V rfl wu rfl rfl (mv rfl) ?_
  refine Go.Sx.V rfl wu rfl rfl (ext rfl rfl) ?_
  refine Go.Sx.V rfl wu rfl rfl (ext rfl rfl) ?_
  refine Go.Sx.V rfl wu rfl rfl (ext rfl rfl) ?_
  refine Go.Sx.V rfl wu rfl rfl (asg rfl) ?_
  refine Go.Sx.V rfl wu rfl rfl (asg rfl) ?_
  refine Go.Sx.V rfl wu rfl rfl (asg rfl) ?_
  refine wr_nil (post_thenN (wc_seq (wc_seq ?_)))
  have hmi := hr.ints.ext hE
  replace hu := hu.ext hE
  replace hv := hv.ext hE
  replace hz := hz.ext hE
  have hla := ba.2
  have hlb := bb.2
  have hlc := bc.2
  refine wc_region [0] rfl ?_
  refine Go.Sx.V rfl wu rfl rfl (mv rfl) ?_
  refine wr_nil (post_thenN ?_)
  refine wc_cond rfl ?_ ?_
  · intro _
    refine wc_seq ?_
    refine wc_region [0,1] rfl ?_
    refine Go.Sx.V rfl wu rfl rfl (mv rfl) ?_
    refine Go.Sx.V rfl wu rfl rfl (asg rfl) ?_
    refine wr_nil (post_thenN (wc_ret (post_thenR ?_)))
    refine post_ret1 rfl rfl ?_
    exact ⟨hE, rfl⟩
  · intro h
    rcases hcase with hd | ⟨_, P, hp, hM, hFV, hG⟩
    · rw [hd] at h; cases h
    dsimp only at hB
    subst hp hM
    have hF := hFV _ _ hmi
    have hX := Ext.refl w2
    have he := ex_dist P.q_two
    refine wc_skip (post_thenN (wc_seq ?_))
    refine wc_region [0,1,2,3,4,5,6,7,8] rfl ?_
    refine Go.Sx.V rfl wu rfl rfl (mv rfl) ?_
    refine BSI (zs := [1, 0, 1]) rfl wu rfl rfl rfl rfl ty26 ?_
    intro e w7 hE7 _ he1 _
    replace hX := hX.trans hE7
    refine BSI (zs := [0, 0, 1]) rfl wu rfl rfl rfl rfl ty26 ?_
    intro d w8 hE8 _ he2 _
    replace hX := hX.trans hE8
    refine C rfl wu rfl rfl Try.call50 (wDistance P gv e d _ _ _ (hG.ext hX) (he1.ext hE8) he2 (by decide)) ?_
    rintro _ w9 hE9 rfl
    replace hX := hX.trans hE9
    rw [he.1, he.2]
    refine Go.Sx.V rfl wu rfl rfl (mv rfl) ?_
    refine Go.Sx.V rfl wu rfl rfl (ext rfl rfl) ?_
    refine Go.Sx.V rfl wu rfl rfl (ext rfl rfl) ?_
    refine Go.Sx.V rfl wu rfl rfl (asg rfl) ?_
    refine Go.Sx.V rfl wu rfl rfl (asg rfl) ?_
    refine wr_nil (post_thenN (wc_seq (wc_seq ?_)))
    clear he1 he2 hE7 hE8 hE9
    refine wc_region [0,1,2,3,4,5] rfl ?_
    refine Go.Sx.V rfl wu rfl rfl (mv rfl) ?_
    refine Go.Sx.V rfl wu rfl rfl (neqI rfl rfl) ?_
    refine Go.Sx.V rfl wu rfl rfl (mv rfl) ?_
    refine OR (π1 := [3,4,5]) (π2 := []) (tc := 34) (tp := 37) rfl rfl rfl (by
        intro _
        refine SK rfl rfl rfl rfl rfl ?_
        refine SK rfl rfl rfl rfl rfl ?_
        refine Go.Sx.V rfl wu rfl rfl (pk rfl rfl) ?_
        exact join rfl) (by
        intro hg
        simp at hg
        refine Go.Sx.V rfl (wg rfl rfl) rfl rfl (mv rfl) ?_
        refine Go.Sx.V rfl (wg rfl rfl) rfl rfl (neqI rfl rfl) ?_
        refine Go.Sx.V rfl wu rfl rfl (pk rfl rfl) ?_
        exact join rfl) ?_
    refine wr_nil (post_thenN ?_)
    refine wc_condF rfl (by simp) ?_
    refine wc_skip (post_thenN (wc_seq (wc_seq ?_)))
    refine wc_region [0,1,2,3,4,5,6,7,8,9,10,11,12,13,14,15] rfl ?_
    refine Go.Sx.V rfl wu rfl rfl (fad rfl fa61_1) ?_
    refine Go.Sx.V rfl wu rfl rfl (ldB rfl na26) ?_
    refine Go.Sx.V rfl wu rfl rfl (lenI rfl ty26) ?_
    refine Go.Sx.V rfl wu rfl rfl (fad rfl fa61_2) ?_
    refine Go.Sx.V rfl wu rfl rfl (ldB rfl na26) ?_
    refine Go.Sx.V rfl wu rfl rfl (lenI rfl ty26) ?_
    refine Go.Sx.V rfl wu rfl rfl (neqI rfl rfl) ?_
    refine Go.Sx.V rfl wu rfl rfl (mv rfl) ?_
    refine OR (π1 := [8,9,10,11,12,13,14,15]) (π2 := []) (tc := 45) (tp := 53) rfl rfl rfl (by
        intro _
        refine SK rfl rfl rfl rfl rfl ?_
        refine SK rfl rfl rfl rfl rfl ?_
        refine SK rfl rfl rfl rfl rfl ?_
        refine SK rfl rfl rfl rfl rfl ?_
        refine SK rfl rfl rfl rfl rfl ?_
        refine SK rfl rfl rfl rfl rfl ?_
        refine SK rfl rfl rfl rfl rfl ?_
        refine Go.Sx.V rfl wu rfl rfl (pk rfl rfl) ?_
        exact join rfl) (by
        intro hg
        simp at hg
        refine Go.Sx.V rfl (wg rfl rfl) rfl rfl (fad rfl fa61_2) ?_
        refine Go.Sx.V rfl (wg rfl rfl) rfl rfl (ldB rfl na26) ?_
        refine Go.Sx.V rfl (wg rfl rfl) rfl rfl (lenI rfl ty26) ?_
        refine Go.Sx.V rfl (wg rfl rfl) rfl rfl (fad rfl fa61_3) ?_
        refine Go.Sx.V rfl (wg rfl rfl) rfl rfl (ldB rfl na26) ?_
        refine Go.Sx.V rfl (wg rfl rfl) rfl rfl (lenI rfl ty26) ?_
        refine Go.Sx.V rfl (wg rfl rfl) rfl rfl (neqI rfl rfl) ?_
        refine Go.Sx.V rfl wu rfl rfl (pk rfl rfl) ?_
        exact join rfl) ?_
    refine wr_nil (post_thenN ?_)
    refine wc_cond rfl ?_ ?_
    · intro _
      refine wc_seq ?_
      refine wc_region [0] rfl ?_
      refine Go.Sx.V rfl wu rfl rfl (asg rfl) ?_
      refine wr_nil (post_thenN (wc_ret (post_thenR ?_)))
      refine post_ret1 rfl rfl ?_
      exact ⟨hE.trans hX, rfl⟩
    · intro hl
      simp at hl
      obtain ⟨l1, l2⟩ := hl
      have l1 : a.length = b.length := by omega
      have l2 : b.length = c.length := by omega
      have m1 := meas (P := P) a b
      have m2 := meas (P := P) b a
      have m3 := meas (P := P) b c
      have m4 := meas (P := P) a c
      rw [dstA, if_pos (by omega)] at m1 m2 m3 m4
      dsimp only at m1 m2 m3 m4
      refine wc_skip (post_thenN (wc_seq ?_))
      refine wc_region [0,1,2,3,4,5,6,7,8,9,10] rfl ?_
      refine Go.Sx.V rfl wu rfl rfl (mv rfl) ?_
      refine Go.Sx.V rfl wu rfl rfl (fad rfl fa61_1) ?_
      refine Go.Sx.V rfl wu rfl rfl (ldB rfl na26) ?_
      refine Go.Sx.V rfl wu rfl rfl (fad rfl fa61_2) ?_
      refine Go.Sx.V rfl wu rfl rfl (ldB rfl na26) ?_
      refine C rfl wu rfl rfl Try.call50 (wDistance P gv uA uB a b _ (hG.ext hX) (hu.ext hX) (hv.ext hX) ba.2) ?_
      rintro _ w3 hE3 rfl
      replace hX := hX.trans hE3
      rw [m1.1, m1.2]
      refine Go.Sx.V rfl wu rfl rfl (mv rfl) ?_
      refine Go.Sx.V rfl wu rfl rfl (ext rfl rfl) ?_
      refine Go.Sx.V rfl wu rfl rfl (ext rfl rfl) ?_
      refine Go.Sx.V rfl wu rfl rfl (asg rfl) ?_
      refine Go.Sx.V rfl wu rfl rfl (asg rfl) ?_
      refine wr_nil (post_thenN (wc_seq ?_))
      refine wc_region [0,1,2,3,4,5,6,7,8,9,10] rfl ?_
      refine Go.Sx.V rfl wu rfl rfl (mv rfl) ?_
      refine Go.Sx.V rfl wu rfl rfl (fad rfl fa61_2) ?_
      refine Go.Sx.V rfl wu rfl rfl (ldB rfl na26) ?_
      refine Go.Sx.V rfl wu rfl rfl (fad rfl fa61_1) ?_
      refine Go.Sx.V rfl wu rfl rfl (ldB rfl na26) ?_
      refine C rfl wu rfl rfl Try.call50 (wDistance P gv uB uA b a _ (hG.ext hX) (hv.ext hX) (hu.ext hX) bb.2) ?_
      rintro _ w4 hE4 rfl
      replace hX := hX.trans hE4
      rw [m2.1, m2.2]
      refine Go.Sx.V rfl wu rfl rfl (mv rfl) ?_
      refine Go.Sx.V rfl wu rfl rfl (ext rfl rfl) ?_
      refine Go.Sx.V rfl wu rfl rfl (ext rfl rfl) ?_
      refine Go.Sx.V rfl wu rfl rfl (asg rfl) ?_
      refine Go.Sx.V rfl wu rfl rfl (asg rfl) ?_
      refine wr_nil (post_thenN (wc_seq ?_))
      refine wc_region [0,1,2,3,4,5,6,7,8,9,10] rfl ?_
      refine Go.Sx.V rfl wu rfl rfl (mv rfl) ?_
      refine Go.Sx.V rfl wu rfl rfl (fad rfl fa61_2) ?_
      refine Go.Sx.V rfl wu rfl rfl (ldB rfl na26) ?_
      refine Go.Sx.V rfl wu rfl rfl (fad rfl fa61_3) ?_
      refine Go.Sx.V rfl wu rfl rfl (ldB rfl na26) ?_
      refine C rfl wu rfl rfl Try.call50 (wDistance P gv uB uC b c _ (hG.ext hX) (hv.ext hX) (hz.ext hX) bb.2) ?_
      rintro _ w5 hE5 rfl
      replace hX := hX.trans hE5
      rw [m3.1, m3.2]
      refine Go.Sx.V rfl wu rfl rfl (mv rfl) ?_
      refine Go.Sx.V rfl wu rfl rfl (ext rfl rfl) ?_
      refine Go.Sx.V rfl wu rfl rfl (ext rfl rfl) ?_
      refine Go.Sx.V rfl wu rfl rfl (asg rfl) ?_
      refine Go.Sx.V rfl wu rfl rfl (asg rfl) ?_
      refine wr_nil (post_thenN (wc_seq ?_))
      refine wc_region [0,1,2,3,4,5,6,7,8,9,10] rfl ?_
      refine Go.Sx.V rfl wu rfl rfl (mv rfl) ?_
      refine Go.Sx.V rfl wu rfl rfl (fad rfl fa61_1) ?_
      refine Go.Sx.V rfl wu rfl rfl (ldB rfl na26) ?_
      refine Go.Sx.V rfl wu rfl rfl (fad rfl fa61_3) ?_
      refine Go.Sx.V rfl wu rfl rfl (ldB rfl na26) ?_
      refine C rfl wu rfl rfl Try.call50 (wDistance P gv uA uC a c _ (hG.ext hX) (hu.ext hX) (hz.ext hX) ba.2) ?_
      rintro _ w6 hE6 rfl
      replace hX := hX.trans hE6
      rw [m4.1, m4.2]
      refine Go.Sx.V rfl wu rfl rfl (mv rfl) ?_
      refine Go.Sx.V rfl wu rfl rfl (ext rfl rfl) ?_
      refine Go.Sx.V rfl wu rfl rfl (ext rfl rfl) ?_
      refine Go.Sx.V rfl wu rfl rfl (asg rfl) ?_
      refine Go.Sx.V rfl wu rfl rfl (asg rfl) ?_
      refine wr_nil (post_thenN (wc_seq (wc_seq ?_)))
      refine wc_region [0,1,2,3,4,5,6,7,8,9,10,11,12,13] rfl ?_
      refine Go.Sx.V rfl wu rfl rfl (mv rfl) ?_
      refine Go.Sx.V rfl wu rfl rfl (neqI rfl rfl) ?_
      refine Go.Sx.V rfl wu rfl rfl (mv rfl) ?_
      refine OR (π1 := [3,4,5]) (π2 := [6,7,8,9,10,11,12,13]) (tc := 92) (tp := 95) rfl rfl rfl (by
          intro _
          refine SK rfl rfl rfl rfl rfl ?_
          refine SK rfl rfl rfl rfl rfl ?_
          refine Go.Sx.V rfl wu rfl rfl (pk rfl rfl) ?_
          exact join rfl) (by
          intro hg
          simp at hg
          refine Go.Sx.V rfl (wg rfl rfl) rfl rfl (mv rfl) ?_
          refine Go.Sx.V rfl (wg rfl rfl) rfl rfl (neqI rfl rfl) ?_
          refine Go.Sx.V rfl wu rfl rfl (pk rfl rfl) ?_
          exact join rfl) ?_
      refine Go.Sx.V rfl wu rfl rfl (mv rfl) ?_
      refine OR (π1 := [7,8,9]) (π2 := [10,11,12,13]) (tc := 96) (tp := 99) rfl rfl rfl (by
          intro _
          refine SK rfl rfl rfl rfl rfl ?_
          refine SK rfl rfl rfl rfl rfl ?_
          refine Go.Sx.V rfl wu rfl rfl (pk rfl rfl) ?_
          exact join rfl) (by
          intro hg
          simp at hg
          refine Go.Sx.V rfl (wg rfl rfl) rfl rfl (mv rfl) ?_
          refine Go.Sx.V rfl (wg rfl rfl) rfl rfl (neqI rfl rfl) ?_
          refine Go.Sx.V rfl wu rfl rfl (pk rfl rfl) ?_
          exact join rfl) ?_
      refine Go.Sx.V rfl wu rfl rfl (mv rfl) ?_
      refine OR (π1 := [11,12,13]) (π2 := []) (tc := 100) (tp := 103) rfl rfl rfl (by
          intro _
          refine SK rfl rfl rfl rfl rfl ?_
          refine SK rfl rfl rfl rfl rfl ?_
          refine Go.Sx.V rfl wu rfl rfl (pk rfl rfl) ?_
          exact join rfl) (by
          intro hg
          simp at hg
          refine Go.Sx.V rfl (wg rfl rfl) rfl rfl (mv rfl) ?_
          refine Go.Sx.V rfl (wg rfl rfl) rfl rfl (neqI rfl rfl) ?_
          refine Go.Sx.V rfl wu rfl rfl (pk rfl rfl) ?_
          exact join rfl) ?_
      refine wr_nil (post_thenN ?_)
      refine wc_condF rfl (by simp) ?_
      refine wc_skip (post_thenN (wc_seq (wc_seq ?_)))
      have d1 := dst_comm (P := P) l1
      have d2 := dst_zero (P := P) l1
      have d3 := dst_tri (P := P) (a := a) (b := b) (c := c) l1
      have d4 := cnt_le (fun t => decide (kt P a t ≠ kt P b t)) a.length
      have d5 := cnt_le (fun t => decide (kt P b t ≠ kt P c t)) b.length
      have d4' : dst P a b ≤ a.length := d4
      have d5' : dst P b c ≤ b.length := d5
      refine wc_draw mixed [0,1,2,3,4,5,6,7,8,9,11,12,13,14,10,15,16,17,18] (by kernel_rfl) ?_
      intro w10 hd10 _
      replace hX := hX.trans hd10
      refine Go.Sx.V rfl wu rfl rfl (mv rfl) ?_
      refine Go.Sx.V rfl wu rfl rfl (mv rfl) ?_
      refine Go.Sx.V rfl wu rfl rfl (neqI rfl rfl) ?_
      refine Go.Sx.V rfl wu rfl rfl (mv rfl) ?_
      refine KB 107 false rfl (by rw [d1]; simp) ?_
      refine Go.Sx.V rfl (wg rfl rfl) rfl rfl (mv rfl) ?_
      refine Go.Sx.V rfl (wg rfl rfl) rfl rfl (eqlI rfl rfl) ?_
      refine Go.Sx.V rfl (wg rfl rfl) rfl rfl (fad rfl fa61_0) ?_
      refine Go.Sx.V rfl (wg rfl rfl) rfl rfl (ldA rfl ag40) ?_
      refine Go.Sx.V rfl (wg rfl rfl) rfl rfl (fad rfl fa61_1) ?_
      refine Go.Sx.V rfl (wg rfl rfl) rfl rfl (ldB rfl na26) ?_
      refine Go.Sx.V rfl (wg rfl rfl) rfl rfl (fad rfl fa61_0) ?_
      refine Go.Sx.V rfl (wg rfl rfl) rfl rfl (ldA rfl ag40) ?_
      refine Go.Sx.V rfl (wg rfl rfl) rfl rfl (fad rfl fa61_2) ?_
      refine Go.Sx.V rfl (wg rfl rfl) rfl rfl (ldB rfl na26) ?_
      refine C rfl (wg rfl rfl) rfl rfl Try.call31 (rClean P mo md uA a _ (hF.ext hX) (hu.ext hX) ba.2) ?_
      rintro cA w11 hE11 hcA
      replace hX := hX.trans hE11
      refine C rfl (wg rfl rfl) rfl rfl Try.call31 (rClean P mo md uB b _ (hF.ext hX) (hv.ext hX) bb.2) ?_
      rintro cB w12 hE12 hcB
      replace hX := hX.trans hE12
      refine C rfl (wg rfl rfl) rfl rfl Try.call24 (rSame cA cB _ _ _ (hcA.ext hE12) hcB) ?_
      rintro _ w13 hE13 rfl
      replace hX := hX.trans hE13
      refine Go.Sx.V rfl (wg rfl rfl) rfl rfl (neqB rfl rfl und4) ?_
      refine Go.Sx.V rfl wu rfl rfl (pk rfl rfl) ?_
      refine wr_nil (post_thenN ?_)
      refine wc_condF rfl (by simp [← d2]) ?_
      refine wc_skip (post_thenN (wc_seq ?_))
      refine wc_region [0,1,2,3,4,5] rfl ?_
      refine Go.Sx.V rfl wu rfl rfl (mv rfl) ?_
      refine Go.Sx.V rfl wu rfl rfl (mv rfl) ?_
      refine Go.Sx.V rfl wu rfl rfl (mv rfl) ?_
      refine Go.Sx.V rfl wu rfl rfl (addI rfl rfl) ?_
      refine Go.Sx.V rfl wu rfl rfl (leqI rfl rfl) ?_
      refine Go.Sx.V rfl wu rfl rfl (asg rfl) ?_
      refine wr_nil (post_thenN (wc_ret ?_))
      refine post_ret1 rfl rfl ?_
      exact ⟨hE.trans hX, by simp; omega⟩
namespace FWordTriangle
open Go.ChangeShapes Go.WideShapes Go.ChangeAt Go.RowKit Go.Fr
theorem own : ownKnob Try.prog.godebug = none := by kernel_rfl
theorem laidOut : laidOutB Try.prog = true := by kernel_rfl
set_option maxRecDepth 100000 in
theorem lifted (os : Os) (started : os.Started) (H : Type) (enc : TypeId × Value → H) :
    ReturnsInHanded {} Try.checked os 13 .any (Rows.wordTriangleSpec.pre6 enc Try.prog Try.f13 Rows.wordTriangleRow.domain false) (Rows.wordTriangleSpec.post enc Try.prog Try.f13 false true false false) := by
  refine returnsInHanded_of_change_sized (C := Try.checked) own started (by kernel_rfl) Try.func13
    (ChangeSpec.witness6 (enc := enc) (C := Try.checked) false ⟨#[], #[.agg #[.int .i64 0, .int .i64 0, .slice none 0 0, .slice none 0 0, .slice none 0 0, .slice none 0 0]], []⟩ 8 (by kernel_rfl) (by kernel_rfl) (by kernel_rfl) (by kernel_rfl)) ?_
  intro W base args ds gs before hval0 hW _ hsz0 _
  have hval : ∀ (j : Nat) t v, Try.f13.params[j]? = some t → args[j]? = some v → Value.okWide Try.prog W .any base t v := hval0
  have hW' := hW
  obtain ⟨p, q, hA0, hV, rfl, hfz, hnd⟩ := hW
  have hA : DataW.TrodAll enc Try.prog W 0 (fun _ => true) true Try.f13.params.toList args.toList ds p := hA0
  have hsz : (DataW.weightsEach Try.prog (Try.f13.params.toList ++ Rows.wordTriangleSpec.plain.varTypes Try.prog) (ds ++ gs)).all (· ≤ reachBytes) = true := hsz0
  rw [Try.params13] at hA hval hsz
  obtain ⟨v0, vs0, d0, ds0, p0, q0, hargs, rfl, rfl, h0, r0⟩ := trodAll_cons hA
  obtain ⟨rfl, rfl, rfl⟩ := trodAll_nil r0
  obtain rfl : args = #[v0] := by cases args; simp_all
  obtain ⟨rfl, rfl⟩ := trodVars_none hV
  have k0 := h0
  have lt0 : ∀ x ∈ p0, x.block < W.heap.size := by obtain ⟨m, hm⟩ := k0; exact DataW.trod_lt m _ _ _ hm
  have w0 : WOK Try.prog 61 d0 := wok_arg hsz (j := 0) rfl rfl
  obtain ⟨x0, s0⟩ := op_lists (hval 0 61 v0 rfl rfl) h0 w0
  refine (law_WordTriangle (w := W) v0 x0 s0).mono fun e W' he => ?_
  cases e with
  | panicked c => exact he.elim
  | outgrown => exact he.elim
  | returned v =>
    obtain ⟨bel, rfl⟩ := he
    exact ⟨_, rfl, _, _, _, [], _, [], hW', trodAll_mk1 (shut_bool Try.underlying4 _), (trodAll_cons_mk (Below.trod laidOut (by kernel_rfl) (of_decide_eq_true (by kernel_rfl)) k0 bel lt0) trodAll_mk0), rfl, bel.frame _, fun h => by cases h⟩
theorem over : Rows.wordTriangleRow.holds Try.pinned (OpenSpec.ofChange Rows.wordTriangleSpec) :=
  OpenClaim.holds_of_wide 13 Try.f13 rfl rfl rfl rfl rfl rfl rfl ⟨rfl, rfl, rfl, rfl, rfl⟩ rfl rfl rfl rfl rfl (by kernel_rfl) Try.func13 (by kernel_rfl)
    (of_decide_eq_true (by kernel_rfl)) (by unfold Func.isWrapper; first | (rw [if_pos (by decide +kernel)]; kernel_rfl) | (rw [if_neg (by decide +kernel)]; exact ⟨rfl, rfl⟩))
    (fun os started H enc _ => lifted os started H enc)
end FWordTriangle
/-- The statement. -/
theorem wordTriangle_holds : Rows.WordTriangleSaid := FWordTriangle.over
end Go.Proofs.Ytlcokneidokfnaa
