/-
  Statement WordCleans: for every description of a field and every list the law returns true. No condition.
-/
import Derived.Test.YtlcokneidokfnaaOpen11
import Derived.Test.YtlcokneidokfnaaWord1
import Derived.Test.YtlcokneidokfnaaRWord1
import Derived.Test.YtlcokneidokfnaaRank
import Derived.Test.YtlcokneidokfnaaRows
namespace Go.Proofs.Ytlcokneidokfnaa
open Go Go.Sx Go.Pl Go.RowKit Go.Fd Go.Alg Go.Fr

theorem open_split {w : World} {p M : Int} {mo : Value} {md : List Int} {v : Value} (h : OpenA w ⟨p, M, mo, md⟩ v) :
    ∃ g d, v = .tuple #[g, .bool d, .bool true] ∧ (d = true ∨ (d = false ∧ ∃ P : FP, P.p = p ∧ (P.M : Int) = M ∧ (∀ w' mo', Ints w' mo' md → FV w' P mo' md) ∧ GFV w P g)) := by
  rcases h with h | ⟨P, h1, _, h3, h4, g, h5, h6⟩
  · exact ⟨_, _, h, .inl rfl⟩
  · exact ⟨_, _, h5, .inr ⟨rfl, P, h3, h4, h1, h6⟩⟩
theorem ex_clean {P : FP} (h : 2 ≤ P.q) : wgt P [1, 0, -1, 1] = 2 := by
  have e1 : inK P 1 = 1 := inK_in (by omega)
  have e0 : inK P 0 = 0 := inK_in (by omega)
  have en : inK P (-1) = 0 := inK_out (by omega)
  have h0 : (kt P [1, 0, -1, 1] 0) = 1 := e1
  have h1 : (kt P [1, 0, -1, 1] 1) = 0 := e0
  have h2 : (kt P [1, 0, -1, 1] 2) = 0 := en
  have h3 : (kt P [1, 0, -1, 1] 3) = 1 := e1
  simp [wgt, cnt, h0, h1, h2, h3, one_ne_zero]

set_option maxRecDepth 10000 in
theorem law_WordCleans {w : World} (v0 : Value) (r : FRec) (s0 : v0 = r.v ∧ FOf w r) (u : Value) (l : List Int) (hu : Ints w u l) (bl : LFit l) :
    Calls Try.prog 8 #[v0, u] w (RetX w fun v _ => v = .bool true) := by
  obtain ⟨p, M, mo, md⟩ := r
  obtain ⟨rfl, hr⟩ := s0
  refine calls2 Try.func8 rfl rfl ?_
  refine wc_seq ?_
  refine wc_region [0,1] rfl ?_
  refine BXA rfl wu rfl rfl ?_
  intro fb w1 hE hB hg
  refine Go.Sx.V rfl wu rfl rfl (asg rfl) ?_
  refine wr_nil (post_thenN (wc_seq ?_))
  refine wc_region [0,1,2,3,4,5,6,7,8] rfl ?_
  refine Go.Sx.V rfl wu rfl rfl (ldA rfl ag40) ?_
  refine C rfl wu rfl rfl Try.call29 (lOpen ⟨p, M, mo, md⟩ _ (hr.ints.ext hE)) ?_
  rintro ov w2 hE2 hop
  replace hB := hB.ext hE2
  replace hE := hE.trans hE2
  obtain ⟨gv, dn, rfl, hcase⟩ := open_split hop
  refine Go.Sx.V rfl wu rfl rfl (mv rfl) ?_
  refine Go.Sx.V rfl wu rfl rfl (ext rfl rfl) ?_
  refine Go.Sx.V rfl wu rfl rfl (ext rfl rfl) ?_
  refine Go.Sx.V rfl wu rfl rfl (ext rfl rfl) ?_
  refine Go.Sx.V rfl wu rfl rfl (asg rfl) ?_
  refine Go.Sx.V rfl wu rfl rfl (asg rfl) ?_
  refine Go.Sx.V rfl wu rfl rfl (asg rfl) ?_
  refine wr_nil (post_thenN (wc_seq (wc_seq ?_)))
  have hmi := hr.ints.ext hE
  replace hu := hu.ext hE
  refine wc_region [0] rfl ?_
  refine Go.Sx.V rfl wu rfl rfl (mv rfl) ?_
  refine wr_nil (post_thenN ?_)
  refine wc_cond rfl ?_ ?_
  · intro _
    refine wc_seq ?_
    refine wc_region [0,1] rfl ?_
    refine Go.Sx.V rfl wu rfl rfl (mv rfl) ?_
    refine Go.Sx.V rfl wu rfl rfl (asg rfl) ?_
    refine wr_nil (post_thenN (wc_ret (post_thenR ?_)))
    refine post_ret1 rfl rfl ?_
    exact ⟨hE, rfl⟩
  · intro h
    rcases hcase with hd | ⟨_, P, hp, hM, hFV, hG⟩
    · rw [hd] at h; cases h
    dsimp only at hB
    subst hp hM
    have hF := hFV _ _ hmi
    have hX := Ext.refl w2
    refine wc_skip (post_thenN (wc_seq (wc_seq ?_)))
    refine wc_draw mixed [0,1,3,4,2,5,6,7] (by kernel_rfl) ?_
    intro w3 hd3 _
    replace hX := hX.trans hd3
    refine Go.Sx.V rfl wu rfl rfl (mv rfl) ?_
    refine Go.Sx.V rfl wu rfl rfl (mv rfl) ?_
    refine Go.Sx.V rfl wu rfl rfl (ldA rfl ag40) ?_
    refine Go.Sx.V rfl wu rfl rfl (mv rfl) ?_
    refine C rfl wu rfl rfl Try.call30 (wClean P gv u l _ (hG.ext hX) (hu.ext hX) bl.2) ?_
    rintro c w4 hE4 ⟨hc, _⟩
    replace hX := hX.trans hE4
    have hci := OwnI.ints hc
    refine C rfl wu rfl rfl Try.call31 (rClean P mo md u l _ (hF.ext hX) (hu.ext hX) bl.2) ?_
    rintro d w5 hE5 hd
    replace hX := hX.trans hE5
    refine C rfl wu rfl rfl Try.call24 (rSame c d _ _ _ (hci.ext hE5) hd) ?_
    rintro _ w6 hE6 rfl
    replace hX := hX.trans hE6
    refine Go.Sx.V rfl wu rfl rfl (notB rfl) ?_
    refine wr_nil (post_thenN ?_)
    clear hc hci hd
    refine wc_condF rfl (by simp) ?_
    refine wc_skip (post_thenN (wc_seq ?_))
    refine wc_region [0,1,2,3] rfl ?_
    refine Go.Sx.V rfl wu rfl rfl (mv rfl) ?_
    refine Go.Sx.V rfl wu rfl rfl (mv rfl) ?_
    refine C rfl wu rfl rfl Try.call32 (wSupport P gv u l _ (hG.ext hX) (hu.ext hX) bl.2) ?_
    rintro s w7 hE7 hs
    replace hX := hX.trans hE7
    refine Go.Sx.V rfl wu rfl rfl (asg rfl) ?_
    refine wr_nil (post_thenN (wc_seq (wc_seq ?_)))
    refine wc_region [0,1,2,3,4,5,6,7,8,9,10,11,12,13] rfl ?_
    refine Go.Sx.V rfl wu rfl rfl (mv rfl) ?_
    refine Go.Sx.V rfl wu rfl rfl (ldA rfl ag40) ?_
    refine Go.Sx.V rfl wu rfl rfl (mv rfl) ?_
    refine C rfl wu rfl rfl Try.call33 (rSupport P mo md u l _ (hF.ext hX) (hu.ext hX) bl.2) ?_
    rintro t w8 hE8 ht
    replace hX := hX.trans hE8
    replace hs := hs.ext hE8
    refine C rfl wu rfl rfl Try.call24 (rSame s t _ _ _ hs ht) ?_
    rintro _ w9 hE9 rfl
    replace hX := hX.trans hE9
    replace hs := hs.ext hE9
    refine Go.Sx.V rfl wu rfl rfl (notB rfl) ?_
    refine Go.Sx.V rfl wu rfl rfl (mv rfl) ?_
    refine KB 34 false rfl (by simp) ?_
    refine Go.Sx.V rfl (wg rfl rfl) rfl rfl (mv rfl) ?_
    refine Go.Sx.V rfl (wg rfl rfl) rfl rfl (mv rfl) ?_
    refine C rfl (wg rfl rfl) rfl rfl Try.call34 (wWeight P gv u l _ (hG.ext hX) (hu.ext hX) bl.2) ?_
    rintro _ w10 hE10 rfl
    replace hX := hX.trans hE10
    replace hs := hs.ext hE10
    refine Go.Sx.V rfl (wg rfl rfl) rfl rfl (mv rfl) ?_
    refine Go.Sx.V rfl (wg rfl rfl) rfl rfl (lenI rfl ty26) ?_
    refine Go.Sx.V rfl (wg rfl rfl) rfl rfl (neqI rfl rfl) ?_
    refine Go.Sx.V rfl wu rfl rfl (pk rfl rfl) ?_
    refine wr_nil (post_thenN ?_)
    rw [sup_length]
    refine wc_condF rfl (by simp) ?_
    refine wc_skip (post_thenN (wc_seq ?_))
    refine wc_region [0,1,2,3,4] rfl ?_
    refine Go.Sx.V rfl wu rfl rfl (mv rfl) ?_
    refine BSI (zs := [1, 0, -1, 1]) rfl wu rfl rfl rfl rfl ty26 ?_
    intro e w11 hE11 _ he _
    replace hX := hX.trans hE11
    refine C rfl wu rfl rfl Try.call34 (wWeight P gv e _ _ (hG.ext hX) he (by decide)) ?_
    rintro _ w12 hE12 rfl
    replace hX := hX.trans hE12
    refine Go.Sx.V rfl wu rfl rfl (eqlI rfl rfl) ?_
    refine Go.Sx.V rfl wu rfl rfl (asg rfl) ?_
    refine wr_nil (post_thenN (wc_ret ?_))
    refine post_ret1 rfl rfl ?_
    exact ⟨hE.trans hX, by rw [ex_clean P.q_two]; rfl⟩
namespace FWordCleans
open Go.ChangeShapes Go.WideShapes Go.ChangeAt Go.RowKit Go.Fr
theorem own : ownKnob Try.prog.godebug = none := by kernel_rfl
theorem laidOut : laidOutB Try.prog = true := by kernel_rfl
set_option maxRecDepth 100000 in
theorem lifted (os : Os) (started : os.Started) (H : Type) (enc : TypeId × Value → H) :
    ReturnsInHanded {} Try.checked os 8 .any (Rows.wordCleansSpec.pre6 enc Try.prog Try.f8 Rows.wordCleansRow.domain false) (Rows.wordCleansSpec.post enc Try.prog Try.f8 false true false false) := by
  refine returnsInHanded_of_change_sized (C := Try.checked) own started (by kernel_rfl) Try.func8
    (ChangeSpec.witness6 (enc := enc) (C := Try.checked) false ⟨#[], #[.agg #[.int .i64 0, .int .i64 0, .slice none 0 0], .slice none 0 0], []⟩ 8 (by kernel_rfl) (by kernel_rfl) (by kernel_rfl) (by kernel_rfl)) ?_
  intro W base args ds gs before hval0 hW _ hsz0 _
  have hval : ∀ (j : Nat) t v, Try.f8.params[j]? = some t → args[j]? = some v → Value.okWide Try.prog W .any base t v := hval0
  have hW' := hW
  obtain ⟨p, q, hA0, hV, rfl, hfz, hnd⟩ := hW
  have hA : DataW.TrodAll enc Try.prog W 0 (fun _ => true) true Try.f8.params.toList args.toList ds p := hA0
  have hsz : (DataW.weightsEach Try.prog (Try.f8.params.toList ++ Rows.wordCleansSpec.plain.varTypes Try.prog) (ds ++ gs)).all (· ≤ reachBytes) = true := hsz0
  rw [Try.params8] at hA hval hsz
  obtain ⟨v0, vs0, d0, ds0, p0, q0, hargs, rfl, rfl, h0, r0⟩ := trodAll_cons hA
  obtain ⟨v1, vs1, d1, ds1, p1, q1, rfl, rfl, rfl, h1, r1⟩ := trodAll_cons r0
  obtain ⟨rfl, rfl, rfl⟩ := trodAll_nil r1
  obtain rfl : args = #[v0, v1] := by cases args; simp_all
  obtain ⟨rfl, rfl⟩ := trodVars_none hV
  have k0 := h0
  have lt0 : ∀ x ∈ p0, x.block < W.heap.size := by obtain ⟨m, hm⟩ := k0; exact DataW.trod_lt m _ _ _ hm
  have w0 : WOK Try.prog 40 d0 := wok_arg hsz (j := 0) rfl rfl
  obtain ⟨x0, s0⟩ := op_field (hval 0 40 v0 rfl rfl) h0 w0
  have k1 := h1
  have lt1 : ∀ x ∈ p1, x.block < W.heap.size := by obtain ⟨m, hm⟩ := k1; exact DataW.trod_lt m _ _ _ hm
  have w1 : WOK Try.prog 26 d1 := wok_arg hsz (j := 1) rfl rfl
  obtain ⟨z1, s1, b1⟩ := op_intsL Try.underlying26 Try.underlying3 (by kernel_rfl) (by kernel_rfl) (hval 1 26 v1 rfl rfl) h1 w1
  refine (law_WordCleans (w := W) v0 x0 s0 v1 z1 s1 b1).mono fun e W' he => ?_
  cases e with
  | panicked c => exact he.elim
  | outgrown => exact he.elim
  | returned v =>
    obtain ⟨bel, rfl⟩ := he
    exact ⟨_, rfl, _, _, _, [], _, [], hW', trodAll_mk1 (shut_bool Try.underlying4 _), (trodAll_cons_mk (Below.trod laidOut (by kernel_rfl) (of_decide_eq_true (by kernel_rfl)) k0 bel lt0) (trodAll_cons_mk (Below.trod laidOut (by kernel_rfl) (of_decide_eq_true (by kernel_rfl)) k1 bel lt1) trodAll_mk0)), rfl, bel.frame _, fun h => by cases h⟩
theorem over : Rows.wordCleansRow.holds Try.pinned (OpenSpec.ofChange Rows.wordCleansSpec) :=
  OpenClaim.holds_of_wide 8 Try.f8 rfl rfl rfl rfl rfl rfl rfl ⟨rfl, rfl, rfl, rfl, rfl⟩ rfl rfl rfl rfl rfl (by kernel_rfl) Try.func8 (by kernel_rfl)
    (of_decide_eq_true (by kernel_rfl)) (by unfold Func.isWrapper; first | (rw [if_pos (by decide +kernel)]; kernel_rfl) | (rw [if_neg (by decide +kernel)]; exact ⟨rfl, rfl⟩))
    (fun os started H enc _ => lifted os started H enc)
end FWordCleans
/-- The statement. -/
theorem wordCleans_holds : Rows.WordCleansSaid := FWordCleans.over
end Go.Proofs.Ytlcokneidokfnaa
