/-
  Statements DlogOrders, DlogAccepts, DlogSound: for every field, element and proof the laws return true. No condition.
-/
import Derived.Test.YtmookiiehfdloaaOpen08
import Derived.Test.YtmookiiehfdloaaRows
namespace Go.Proofs.Ytmookiiehfdloaa
open Go Go.Sx Go.Pl Go.RowKit Go.Fd Go.Alg Go.Fr Go.Nm
theorem ord_one {P : FP} : inK P 1 = 1 := inK_in (by have := P.q_two; omega)
theorem ord_zero {P : FP} : inK P 0 = 0 := inK_in (by have := P.q_two; omega)

theorem ok_of {P : FP} {x o e : Int} {l : List Int} (h : (inK P x = 0 ∧ e = 7 ∧ o = 0 ∧ l = []) ∨ (inK P x ≠ 0 ∧ e = 0 ∧ 1 ≤ o ∧ o ≤ P.q - 1 ∧ HasOrder (inK P x) o.toNat ∧ l = prs o)) (he : e = 0) : OkO P x o l := by
  rcases h with ⟨_, h1, _⟩ | ⟨h1, _, h2, _, h4, h5⟩
  · omega
  · exact ⟨h1, h2, h4, h5⟩
set_option maxRecDepth 10000 in
theorem law_DlogOrders {w : World} (v0 : Value) (r : FRec) (s0 : v0 = r.v ∧ FOf w r) (x : Int) (_ : Fits x) :
    Calls Try.prog 6 #[v0, .int .i64 x] w (RetX w fun v _ => v = .bool true) := by
  obtain ⟨p, M, mo, md⟩ := r
  obtain ⟨rfl, hr⟩ := s0
  refine calls2 Try.func6 rfl rfl ?_
  refine wc_seq ?_
  refine wc_region [0,1] rfl ?_
  refine BXA rfl wu rfl rfl ?_
  intro fb w1 hE hB hg
  refine Go.Sx.V rfl wu rfl rfl (asg rfl) ?_
  refine wr_nil (post_thenN (wc_seq ?_))
  refine wc_region [0,1,2,3,4,5,6,7,8] rfl ?_
  refine Go.Sx.V rfl wu rfl rfl (ldA rfl ag24) ?_
  refine C rfl wu rfl rfl Try.call13 (lOpen ⟨p, M, mo, md⟩ _ (hr.ints.ext hE)) ?_
  rintro ov w2 hE2 hop
  replace hB := hB.ext hE2
  replace hE := hE.trans hE2
  obtain ⟨gv, dn, rfl, hcase⟩ := open_split hop
  refine Go.Sx.V rfl wu rfl rfl (mv rfl) ?_
  refine Go.Sx.V rfl wu rfl rfl (ext rfl rfl) ?_
  refine Go.Sx.V rfl wu rfl rfl (ext rfl rfl) ?_
  refine Go.Sx.V rfl wu rfl rfl (ext rfl rfl) ?_
  refine Go.Sx.V rfl wu rfl rfl (asg rfl) ?_
  refine Go.Sx.V rfl wu rfl rfl (asg rfl) ?_
  refine Go.Sx.V rfl wu rfl rfl (asg rfl) ?_
  refine wr_nil (post_thenN (wc_seq (wc_seq ?_)))
  have hmi := hr.ints.ext hE
  refine wc_region [0] rfl ?_
  refine Go.Sx.V rfl wu rfl rfl (mv rfl) ?_
  refine wr_nil (post_thenN ?_)
  refine wc_cond rfl ?_ ?_
  · intro _
    refine wc_seq ?_
    refine wc_region [0,1] rfl ?_
    refine Go.Sx.V rfl wu rfl rfl (mv rfl) ?_
    refine Go.Sx.V rfl wu rfl rfl (asg rfl) ?_
    refine wr_nil (post_thenN (wc_ret (post_thenR ?_)))
    refine post_ret1 rfl rfl ?_
    exact ⟨hE, rfl⟩
  · intro h
    rcases hcase with hd | ⟨_, P, hp, hM, hFV, hG⟩
    · rw [hd] at h; cases h
    dsimp only at hB
    subst hp hM
    have hF := hFV _ _ hmi
    have hgen := hG.gen
    have hX := Ext.refl w2
    refine wc_skip (post_thenN (wc_seq ?_))
    refine wc_region [0,1,2,3,4,5,6,7,8] rfl ?_
    refine Go.Sx.V rfl wu rfl rfl (mv rfl) ?_
    refine Go.Sx.V rfl wu rfl rfl (mv rfl) ?_
    refine C rfl wu rfl rfl Try.call21 (dOrder P gv x _ (hG.ext hX)) ?_
    rintro ov w3 hE3 ho1
    obtain ⟨o, s, e, l, rfl, hso, hs, hc⟩ := ord_split ho1
    replace hX := hX.trans hE3
    refine Go.Sx.V rfl wu rfl rfl (mv rfl) ?_
    refine Go.Sx.V rfl wu rfl rfl (ext rfl rfl) ?_
    refine Go.Sx.V rfl wu rfl rfl (ext rfl rfl) ?_
    refine AL rfl wu rfl zv26 ?_
    intro b w4 hE4 hBp hb
    refine STB (vs := [.int .i64 o, s]) (cs' := [.int .i64 o, s]) rfl wu rfl rfl rfl sv26 (by intro h; cases h) (by assumption) (by first | (simp [Value.oneCell']; done) | (intro v hv; simp only [List.mem_cons, List.not_mem_nil, or_false] at hv; rcases hv with rfl | rfl | rfl <;> first | rfl | assumption) | (intro v hv; simp only [List.mem_cons, List.not_mem_nil, or_false] at hv; rcases hv with rfl | rfl <;> first | rfl | assumption)) rfl rfl rfl ?_
    intro w5 hg5 hX5 hBo
    refine Go.Sx.V rfl wu rfl rfl (asg rfl) ?_
    refine wr_nil (post_thenN (wc_seq ?_))
    have h5 := hX5 _ hb hE4
    replace hX := hX.trans h5
    replace hs := hs.ext h5
    clear hBp hg5 hX5 hE4 ho1
    refine wc_region [0,1,2,3,4,5,6,7,8] rfl ?_
    refine Go.Sx.V rfl wu rfl rfl (ldA rfl ag24 hB) ?_
    refine Go.Sx.V rfl wu rfl rfl (mv rfl) ?_
    refine C rfl wu rfl rfl Try.call22 (rOrd P mo md x _ (hF.ext hX) hgen) ?_
    rintro ov w6 hE6 ho2
    obtain ⟨o', s', e', l', rfl, hso', hs', hc'⟩ := ord_split ho2
    replace hX := hX.trans hE6
    replace hs := hs.ext hE6
    replace hBo := hBo.ext hE6
    refine Go.Sx.V rfl wu rfl rfl (mv rfl) ?_
    refine Go.Sx.V rfl wu rfl rfl (ext rfl rfl) ?_
    refine Go.Sx.V rfl wu rfl rfl (ext rfl rfl) ?_
    refine AL rfl wu rfl zv26 ?_
    intro b' w7 hE7 hBp hb'
    refine STB (vs := [.int .i64 o', s']) (cs' := [.int .i64 o', s']) rfl wu rfl rfl rfl sv26 (by intro h; cases h) (by assumption) (by first | (simp [Value.oneCell']; done) | (intro v hv; simp only [List.mem_cons, List.not_mem_nil, or_false] at hv; rcases hv with rfl | rfl | rfl <;> first | rfl | assumption) | (intro v hv; simp only [List.mem_cons, List.not_mem_nil, or_false] at hv; rcases hv with rfl | rfl <;> first | rfl | assumption)) rfl rfl rfl ?_
    intro w8 hg8 hX8 hBo'
    refine Go.Sx.V rfl wu rfl rfl (asg rfl) ?_
    refine wr_nil (post_thenN (wc_seq (wc_seq ?_)))
    have h8 := hX8 _ hb' hE7
    replace hX := hX.trans h8
    replace hs := hs.ext h8
    replace hs' := hs'.ext h8
    replace hBo := hBo.ext h8
    clear hBp hg8 hX8 hE7 ho2
    have hsame : e = e' ∧ o = o' ∧ l = l' := by
      rcases hc with ⟨h1, rfl, rfl, rfl⟩ | ⟨h1, rfl, h2, h3, h4, rfl⟩ <;> rcases hc' with ⟨k1, rfl, rfl, rfl⟩ | ⟨k1, rfl, k2, k3, k4, rfl⟩
      · exact ⟨rfl, rfl, rfl⟩
      · exact absurd h1 k1
      · exact absurd k1 h1
      · have := HasOrder.unique h4 k4
        have : o = o' := by omega
        exact ⟨rfl, this, by rw [this]⟩
    obtain ⟨rfl, rfl, rfl⟩ := hsame
    refine wc_region [0,1,2,3,4,5,6,7,8] rfl ?_
    refine Go.Sx.V rfl wu rfl rfl (mv rfl) ?_
    refine Go.Sx.V rfl wu rfl rfl (mv rfl) ?_
    refine Go.Sx.V rfl wu rfl rfl (neqI rfl rfl) ?_
    refine Go.Sx.V rfl wu rfl rfl (mv rfl) ?_
    refine KB 37 false rfl (by simp) ?_
    refine Go.Sx.V rfl (wg rfl rfl) rfl rfl (ldA rfl ag26 hBo) ?_
    refine Go.Sx.V rfl (wg rfl rfl) rfl rfl (ldA rfl ag26 hBo') ?_
    refine C rfl (wg rfl rfl) rfl rfl Try.call23 (rSame8 o o s s' l l _ hs hs') ?_
    rintro _ w9 hE9 rfl
    replace hX := hX.trans hE9
    replace hs := hs.ext hE9
    replace hBo := hBo.ext hE9
    refine Go.Sx.V rfl (wg rfl rfl) rfl rfl (notB rfl) ?_
    refine Go.Sx.V rfl wu rfl rfl (pk rfl rfl) ?_
    refine wr_nil (post_thenN ?_)
    refine wc_condF rfl (by simp) ?_
    refine wc_skip (post_thenN (wc_seq ?_))
    clear hBo' hs'
    refine wc_region [0,1,2,3,4,5,6,7] rfl ?_
    refine Go.Sx.V rfl wu rfl rfl (mv rfl) ?_
    refine C rfl wu rfl rfl Try.call21 (dOrder P gv 1 _ (hG.ext hX)) ?_
    rintro ov w10 hE10 ho3
    obtain ⟨o3, s3, e3, l3, rfl, hso3, hs3, hc3⟩ := ord_split ho3
    replace hX := hX.trans hE10
    replace hs := hs.ext hE10
    replace hBo := hBo.ext hE10
    refine Go.Sx.V rfl wu rfl rfl (mv rfl) ?_
    refine Go.Sx.V rfl wu rfl rfl (ext rfl rfl) ?_
    refine Go.Sx.V rfl wu rfl rfl (ext rfl rfl) ?_
    refine AL rfl wu rfl zv26 ?_
    intro b3 w11 hE11 hBp hb3
    refine STB (vs := [.int .i64 o3, s3]) (cs' := [.int .i64 o3, s3]) rfl wu rfl rfl rfl sv26 (by intro h; cases h) (by assumption) (by first | (simp [Value.oneCell']; done) | (intro v hv; simp only [List.mem_cons, List.not_mem_nil, or_false] at hv; rcases hv with rfl | rfl | rfl <;> first | rfl | assumption) | (intro v hv; simp only [List.mem_cons, List.not_mem_nil, or_false] at hv; rcases hv with rfl | rfl <;> first | rfl | assumption)) rfl rfl rfl ?_
    intro w12 hg12 hX12 hBo3
    refine Go.Sx.V rfl wu rfl rfl (asg rfl) ?_
    refine wr_nil (post_thenN (wc_seq (wc_seq ?_)))
    have h12 := hX12 _ hb3 hE11
    replace hX := hX.trans h12
    replace hs := hs.ext h12
    replace hBo := hBo.ext h12
    clear hBp hg12 hX12 hE11 ho3
    have ho3 : o3 = 1 ∧ e3 = 0 := by
      rw [ord_one] at hc3
      rcases hc3 with ⟨h1, _⟩ | ⟨_, h1, h2, h3, h4, _⟩
      · exact absurd h1 one_ne_zero
      · have := HasOrder.unique h4 order_one
        exact ⟨by omega, h1⟩
    obtain ⟨rfl, rfl⟩ := ho3
    refine wc_region [0,1,2,3,4,5,6] rfl ?_
    refine Go.Sx.V rfl wu rfl rfl (fad rfl fa26_0) ?_
    refine Go.Sx.V rfl wu rfl rfl (ldB rfl na3 hBo3) ?_
    refine Go.Sx.V rfl wu rfl rfl (neqI rfl rfl) ?_
    refine Go.Sx.V rfl wu rfl rfl (mv rfl) ?_
    refine OR (π1 := [4,5,6]) (π2 := []) (tc := 51) (tp := 54) rfl rfl rfl (by
        intro _
        refine SK rfl rfl rfl rfl rfl ?_
        refine SK rfl rfl rfl rfl rfl ?_
        refine Go.Sx.V rfl wu rfl rfl (pk rfl rfl) ?_
        exact join rfl) (by
        intro hg
        simp at hg
        refine Go.Sx.V rfl (wg rfl rfl) rfl rfl (mv rfl) ?_
        refine Go.Sx.V rfl (wg rfl rfl) rfl rfl (neqI rfl rfl) ?_
        refine Go.Sx.V rfl wu rfl rfl (pk rfl rfl) ?_
        exact join rfl) ?_
    refine wr_nil (post_thenN ?_)
    refine wc_condF rfl (by simp) ?_
    refine wc_skip (post_thenN (wc_seq ?_))
    refine wc_region [0,1,2,3,4,5,6,7,8,9] rfl ?_
    refine Go.Sx.V rfl wu rfl rfl (mv rfl) ?_
    refine Go.Sx.V rfl wu rfl rfl (neqI rfl rfl) ?_
    refine Go.Sx.V rfl wu rfl rfl (mv rfl) ?_
    refine ORX (π1 := [3,4,5,6,7,8]) (π2 := [9]) (tc := 57) (tp := 63) rfl rfl rfl (by
        intro _
        refine SK rfl rfl rfl rfl rfl ?_
        refine SK rfl rfl rfl rfl rfl ?_
        refine SK rfl rfl rfl rfl rfl ?_
        refine SK rfl rfl rfl rfl rfl ?_
        refine SK rfl rfl rfl rfl rfl ?_
        refine Go.Sx.V rfl wu rfl rfl (pk rfl rfl) ?_
        exact joinX rfl) (by
        intro hg
        simp at hg
        have hok : OkO P x o l := ok_of hc hg
        refine Go.Sx.V rfl (wg rfl rfl) rfl rfl (mv rfl) ?_
        refine Go.Sx.V rfl (wg rfl rfl) rfl rfl (mv rfl) ?_
        refine Go.Sx.V rfl (wg rfl rfl) rfl rfl (ldA rfl ag26 hBo) ?_
        refine C rfl (wg rfl rfl) rfl rfl Try.call14 (dCheck P gv x o s l _ (hG.ext hX) hs) ?_
        rintro cv w13 hE13 hck
        obtain rfl := hck.elim (fun h => h.1) (fun h => absurd hok h.2)
        refine Go.Sx.V rfl (wg rfl rfl) rfl rfl (eqlI rfl rfl) ?_
        refine Go.Sx.V rfl wu rfl rfl (pk rfl rfl) ?_
        exact joinX rfl) ?_
    intro w13 hE13
    refine Go.Sx.V rfl wu rfl rfl (asg rfl) ?_
    refine wr_nil (post_thenN (wc_ret ?_))
    refine post_ret1 rfl rfl ?_
    exact ⟨(hE.trans hX).trans hE13, by simp⟩
namespace FDlogOrders
open Go.ChangeShapes Go.WideShapes Go.ChangeAt Go.RowKit Go.Fr
theorem own : ownKnob Try.prog.godebug = none := by kernel_rfl
theorem laidOut : laidOutB Try.prog = true := by kernel_rfl
set_option maxRecDepth 100000 in
theorem lifted (os : Os) (started : os.Started) (H : Type) (enc : TypeId × Value → H) :
    ReturnsInHanded {} Try.checked os 6 .any (Rows.dlogOrdersSpec.pre6 enc Try.prog Try.f6 Rows.dlogOrdersRow.domain false) (Rows.dlogOrdersSpec.post enc Try.prog Try.f6 false true false false) := by
  refine returnsInHanded_of_change_sized (C := Try.checked) own started (by kernel_rfl) Try.func6
    (ChangeSpec.witness6 (enc := enc) (C := Try.checked) false ⟨#[], #[.agg #[.int .i64 0, .int .i64 0, .slice none 0 0], .int .i64 0], []⟩ 8 (by kernel_rfl) (by kernel_rfl) (by kernel_rfl) (by kernel_rfl)) ?_
  intro W base args ds gs before hval0 hW _ hsz0 _
  have hval : ∀ (j : Nat) t v, Try.f6.params[j]? = some t → args[j]? = some v → Value.okWide Try.prog W .any base t v := hval0
  have hW' := hW
  obtain ⟨p, q, hA0, hV, rfl, hfz, hnd⟩ := hW
  have hA : DataW.TrodAll enc Try.prog W 0 (fun _ => true) true Try.f6.params.toList args.toList ds p := hA0
  have hsz : (DataW.weightsEach Try.prog (Try.f6.params.toList ++ Rows.dlogOrdersSpec.plain.varTypes Try.prog) (ds ++ gs)).all (· ≤ reachBytes) = true := hsz0
  rw [Try.params6] at hA hval hsz
  obtain ⟨v0, vs0, d0, ds0, p0, q0, hargs, rfl, rfl, h0, r0⟩ := trodAll_cons hA
  obtain ⟨v1, vs1, d1, ds1, p1, q1, rfl, rfl, rfl, h1, r1⟩ := trodAll_cons r0
  obtain ⟨rfl, rfl, rfl⟩ := trodAll_nil r1
  obtain rfl : args = #[v0, v1] := by cases args; simp_all
  obtain ⟨rfl, rfl⟩ := trodVars_none hV
  have k0 := h0
  have lt0 : ∀ x ∈ p0, x.block < W.heap.size := by obtain ⟨m, hm⟩ := k0; exact DataW.trod_lt m _ _ _ hm
  have w0 : WOK Try.prog 24 d0 := wok_arg hsz (j := 0) rfl rfl
  obtain ⟨x0, s0⟩ := op_field (hval 0 24 v0 rfl rfl) h0 w0
  have k1 := h1
  have lt1 : ∀ x ∈ p1, x.block < W.heap.size := by obtain ⟨m, hm⟩ := k1; exact DataW.trod_lt m _ _ _ hm
  have w1 : WOK Try.prog 3 d1 := wok_arg hsz (j := 1) rfl rfl
  obtain ⟨n1, rfl, b1⟩ := op_int Try.underlying3 (hval 1 3 v1 rfl rfl) h1
  refine (law_DlogOrders (w := W) v0 x0 s0 n1 b1).mono fun e W' he => ?_
  cases e with
  | panicked c => exact he.elim
  | outgrown => exact he.elim
  | returned v =>
    obtain ⟨bel, rfl⟩ := he
    exact ⟨_, rfl, _, _, _, [], _, [], hW', trodAll_mk1 (shut_bool Try.underlying4 _), (trodAll_cons_mk (Below.trod laidOut (by kernel_rfl) (of_decide_eq_true (by kernel_rfl)) k0 bel lt0) (trodAll_cons_mk (Below.trod laidOut (by kernel_rfl) (of_decide_eq_true (by kernel_rfl)) k1 bel lt1) trodAll_mk0)), rfl, bel.frame _, fun h => by cases h⟩
theorem over : Rows.dlogOrdersRow.holds Try.pinned (OpenSpec.ofChange Rows.dlogOrdersSpec) :=
  OpenClaim.holds_of_wide 6 Try.f6 rfl rfl rfl rfl rfl rfl rfl ⟨rfl, rfl, rfl, rfl, rfl⟩ rfl rfl rfl rfl rfl (by kernel_rfl) Try.func6 (by kernel_rfl)
    (of_decide_eq_true (by kernel_rfl)) (by unfold Func.isWrapper; first | (rw [if_pos (by decide +kernel)]; kernel_rfl) | (rw [if_neg (by decide +kernel)]; exact ⟨rfl, rfl⟩))
    (fun os started H enc _ => lifted os started H enc)
end FDlogOrders
/-- The statement. -/
theorem dlogOrders_holds : Rows.DlogOrdersSaid := FDlogOrders.over

theorem fa28_0 : FA Try.prog 28 0 0 := fun a w => by
  simp [Instr.fieldAt, run_underlying Try.underlying28, Instr.sureAddr, fieldPlace]
theorem fa28_1 : FA Try.prog 28 1 3 := fun a w => by
  simp [Instr.fieldAt, run_underlying Try.underlying28, Instr.sureAddr, fieldPlace]
theorem fa28_2 : FA Try.prog 28 2 4 := fun a w => by
  simp [Instr.fieldAt, run_underlying Try.underlying28, Instr.sureAddr, fieldPlace]
theorem fa28_3 : FA Try.prog 28 3 6 := fun a w => by
  simp [Instr.fieldAt, run_underlying Try.underlying28, Instr.sureAddr, fieldPlace]
theorem chk_cc {v : Value} {A : Prop} (h : (v = .int .i64 0 ∧ A) ∨ (v = .int .i64 13 ∧ ¬ A)) : ∃ c : Int, v = .int .i64 c ∧ ((c = 0 ∧ A) ∨ (c = 13 ∧ ¬ A)) := by
  rcases h with ⟨h1, h2⟩ | ⟨h1, h2⟩
  · exact ⟨_, h1, .inl ⟨rfl, h2⟩⟩
  · exact ⟨_, h1, .inr ⟨rfl, h2⟩⟩
theorem cc_eq {c d : Int} {A : Prop} (h : (c = 0 ∧ A) ∨ (c = 13 ∧ ¬ A)) (k : (d = 0 ∧ A) ∨ (d = 13 ∧ ¬ A)) : c = d := by
  rcases h with ⟨h1, h2⟩ | ⟨h1, h2⟩ <;> rcases k with ⟨k1, k2⟩ | ⟨k1, k2⟩
  · omega
  · exact absurd h2 k2
  · exact absurd k2 h2
  · omega
theorem no_zero {P : FP} {o : Int} {l : List Int} : ¬ OkO P 0 o l := fun h => h.1 ord_zero

set_option maxRecDepth 10000 in
theorem law_DlogAccepts {w : World} (v0 : Value) (r : CRec) (s0 : v0 = r.v ∧ COf w r) :
    Calls Try.prog 3 #[v0] w (RetX w fun v _ => v = .bool true) := by
  obtain ⟨⟨p, M, mo, md⟩, x, o, s, l, tt⟩ := r
  obtain ⟨rfl, hr, hs, bl, bx, bo, bt⟩ := s0
  dsimp only at hr hs bl bx bo bt
  refine calls1 Try.func3 rfl rfl ?_
  refine wc_seq ?_
  refine wc_region [0,1] rfl ?_
  refine BXA rfl wu rfl rfl ?_
  intro fb w1 hE hB hg
  refine Go.Sx.V rfl wu rfl rfl (asg rfl) ?_
  refine wr_nil (post_thenN (wc_seq ?_))
  refine wc_region [0,1,2,3,4,5,6,7,8,9] rfl ?_
  refine Go.Sx.V rfl wu rfl rfl (fad rfl fa28_0) ?_
  refine Go.Sx.V rfl wu rfl rfl (ldA rfl ag24) ?_
  refine C rfl wu rfl rfl Try.call13 (lOpen ⟨p, M, mo, md⟩ _ (hr.ints.ext hE)) ?_
  rintro ov w2 hE2 hop
  replace hB := hB.ext hE2
  replace hE := hE.trans hE2
  obtain ⟨gv, dn, rfl, hcase⟩ := open_split hop
  refine Go.Sx.V rfl wu rfl rfl (mv rfl) ?_
  refine Go.Sx.V rfl wu rfl rfl (ext rfl rfl) ?_
  refine Go.Sx.V rfl wu rfl rfl (ext rfl rfl) ?_
  refine Go.Sx.V rfl wu rfl rfl (ext rfl rfl) ?_
  refine Go.Sx.V rfl wu rfl rfl (asg rfl) ?_
  refine Go.Sx.V rfl wu rfl rfl (asg rfl) ?_
  refine Go.Sx.V rfl wu rfl rfl (asg rfl) ?_
  refine wr_nil (post_thenN (wc_seq (wc_seq ?_)))
  have hmi := hr.ints.ext hE
  replace hs := hs.ext hE
  refine wc_region [0] rfl ?_
  refine Go.Sx.V rfl wu rfl rfl (mv rfl) ?_
  refine wr_nil (post_thenN ?_)
  refine wc_cond rfl ?_ ?_
  · intro _
    refine wc_seq ?_
    refine wc_region [0,1] rfl ?_
    refine Go.Sx.V rfl wu rfl rfl (mv rfl) ?_
    refine Go.Sx.V rfl wu rfl rfl (asg rfl) ?_
    refine wr_nil (post_thenN (wc_ret (post_thenR ?_)))
    refine post_ret1 rfl rfl ?_
    exact ⟨hE, rfl⟩
  · intro h
    rcases hcase with hd | ⟨_, P, hp, hM, hFV, hG⟩
    · rw [hd] at h; cases h
    dsimp only at hB
    subst hp hM
    have hF := hFV _ _ hmi
    have hgen := hG.gen
    have hX := Ext.refl w2
    refine wc_skip (post_thenN (wc_seq ?_))
    refine wc_draw mixed [0,1,2,3,4,6,7,8,9,10,11,5,12,13,14,15,16,17,18,19,20] (by kernel_rfl) ?_
    intro w3 hd3 _
    replace hX := hX.trans hd3
    refine Go.Sx.V rfl wu rfl rfl (mv rfl) ?_
    refine Go.Sx.V rfl wu rfl rfl (fad rfl fa28_1) ?_
    refine Go.Sx.V rfl wu rfl rfl (ldB rfl na3) ?_
    refine Go.Sx.V rfl wu rfl rfl (fad rfl fa28_2) ?_
    refine Go.Sx.V rfl wu rfl rfl (ldA rfl ag26 hB) ?_
    refine Go.Sx.V rfl wu rfl rfl (fad rfl fa28_0) ?_
    refine Go.Sx.V rfl wu rfl rfl (ldA rfl ag24 hB) ?_
    refine Go.Sx.V rfl wu rfl rfl (fad rfl fa28_1) ?_
    refine Go.Sx.V rfl wu rfl rfl (ldB rfl na3) ?_
    refine Go.Sx.V rfl wu rfl rfl (fad rfl fa28_2) ?_
    refine Go.Sx.V rfl wu rfl rfl (ldA rfl ag26 hB) ?_
    refine C rfl wu rfl rfl Try.call14 (dCheck P gv x o s l _ (hG.ext hX) (hs.ext hX)) ?_
    rintro cv w4 hE4 hck
    obtain ⟨c, rfl, hc⟩ := chk_cc hck
    replace hX := hX.trans hE4
    refine C rfl wu rfl rfl Try.call15 (rCheck8 P mo md x o s l _ (hF.ext hX) hgen (hs.ext hX)) ?_
    rintro cv w5 hE5 hck'
    obtain ⟨c', rfl, hc'⟩ := chk_cc hck'
    replace hX := hX.trans hE5
    obtain rfl := cc_eq hc hc'
    refine Go.Sx.V rfl wu rfl rfl (eqlI rfl rfl) ?_
    refine Go.Sx.V rfl wu rfl rfl (mv rfl) ?_
    refine KB 29 true rfl (by simp) ?_
    refine Go.Sx.V rfl (wg rfl rfl) rfl rfl (mv rfl) ?_
    refine Go.Sx.V rfl (wg rfl rfl) rfl rfl (bld (us := [.int .i64 1]) (r := [.int .i64 1, .slice none 0 0]) rfl (bdOP1 1)) ?_
    refine C rfl (wg rfl rfl) rfl rfl Try.call14 (dCheck P gv 0 1 (.slice none 0 0) [] _ (hG.ext hX) (Ints.nil _)) ?_
    rintro cv w6 hE6 hck''
    obtain rfl := hck''.elim (fun h => absurd h.2 no_zero) (fun h => h.1)
    replace hX := hX.trans hE6
    refine Go.Sx.V rfl (wg rfl rfl) rfl rfl (eqlI rfl rfl) ?_
    refine Go.Sx.V rfl wu rfl rfl (pk rfl rfl) ?_
    refine Go.Sx.V rfl wu rfl rfl (asg rfl) ?_
    refine wr_nil (post_thenN (wc_ret ?_))
    refine post_ret1 rfl rfl ?_
    exact ⟨hE.trans hX, by simp⟩
namespace FDlogAccepts
open Go.ChangeShapes Go.WideShapes Go.ChangeAt Go.RowKit Go.Fr
theorem own : ownKnob Try.prog.godebug = none := by kernel_rfl
theorem laidOut : laidOutB Try.prog = true := by kernel_rfl
set_option maxRecDepth 100000 in
theorem lifted (os : Os) (started : os.Started) (H : Type) (enc : TypeId × Value → H) :
    ReturnsInHanded {} Try.checked os 3 .any (Rows.dlogAcceptsSpec.pre6 enc Try.prog Try.f3 Rows.dlogAcceptsRow.domain false) (Rows.dlogAcceptsSpec.post enc Try.prog Try.f3 false true false false) := by
  refine returnsInHanded_of_change_sized (C := Try.checked) own started (by kernel_rfl) Try.func3
    (ChangeSpec.witness6 (enc := enc) (C := Try.checked) false ⟨#[], #[.agg #[.int .i64 0, .int .i64 0, .slice none 0 0, .int .i64 0, .int .i64 0, .slice none 0 0, .int .i64 0]], []⟩ 8 (by kernel_rfl) (by kernel_rfl) (by kernel_rfl) (by kernel_rfl)) ?_
  intro W base args ds gs before hval0 hW _ hsz0 _
  have hval : ∀ (j : Nat) t v, Try.f3.params[j]? = some t → args[j]? = some v → Value.okWide Try.prog W .any base t v := hval0
  have hW' := hW
  obtain ⟨p, q, hA0, hV, rfl, hfz, hnd⟩ := hW
  have hA : DataW.TrodAll enc Try.prog W 0 (fun _ => true) true Try.f3.params.toList args.toList ds p := hA0
  have hsz : (DataW.weightsEach Try.prog (Try.f3.params.toList ++ Rows.dlogAcceptsSpec.plain.varTypes Try.prog) (ds ++ gs)).all (· ≤ reachBytes) = true := hsz0
  rw [Try.params3] at hA hval hsz
  obtain ⟨v0, vs0, d0, ds0, p0, q0, hargs, rfl, rfl, h0, r0⟩ := trodAll_cons hA
  obtain ⟨rfl, rfl, rfl⟩ := trodAll_nil r0
  obtain rfl : args = #[v0] := by cases args; simp_all
  obtain ⟨rfl, rfl⟩ := trodVars_none hV
  have k0 := h0
  have lt0 : ∀ x ∈ p0, x.block < W.heap.size := by obtain ⟨m, hm⟩ := k0; exact DataW.trod_lt m _ _ _ hm
  have w0 : WOK Try.prog 28 d0 := wok_arg hsz (j := 0) rfl rfl
  obtain ⟨x0, s0⟩ := op_claim (hval 0 28 v0 rfl rfl) h0 w0
  refine (law_DlogAccepts (w := W) v0 x0 s0).mono fun e W' he => ?_
  cases e with
  | panicked c => exact he.elim
  | outgrown => exact he.elim
  | returned v =>
    obtain ⟨bel, rfl⟩ := he
    exact ⟨_, rfl, _, _, _, [], _, [], hW', trodAll_mk1 (shut_bool Try.underlying4 _), (trodAll_cons_mk (Below.trod laidOut (by kernel_rfl) (of_decide_eq_true (by kernel_rfl)) k0 bel lt0) trodAll_mk0), rfl, bel.frame _, fun h => by cases h⟩
theorem over : Rows.dlogAcceptsRow.holds Try.pinned (OpenSpec.ofChange Rows.dlogAcceptsSpec) :=
  OpenClaim.holds_of_wide 3 Try.f3 rfl rfl rfl rfl rfl rfl rfl ⟨rfl, rfl, rfl, rfl, rfl⟩ rfl rfl rfl rfl rfl (by kernel_rfl) Try.func3 (by kernel_rfl)
    (of_decide_eq_true (by kernel_rfl)) (by unfold Func.isWrapper; first | (rw [if_pos (by decide +kernel)]; kernel_rfl) | (rw [if_neg (by decide +kernel)]; exact ⟨rfl, rfl⟩))
    (fun os started H enc _ => lifted os started H enc)
end FDlogAccepts
/-- The statement. -/
theorem dlogAccepts_holds : Rows.DlogAcceptsSaid := FDlogAccepts.over

set_option maxRecDepth 10000 in
theorem law_DlogSound {w : World} (v0 : Value) (r : CRec) (s0 : v0 = r.v ∧ COf w r) :
    Calls Try.prog 4 #[v0] w (RetX w fun v _ => v = .bool true) := by
  obtain ⟨⟨p, M, mo, md⟩, x, o, s, l, tt⟩ := r
  obtain ⟨rfl, hr, hs, bl, bx, bo, bt⟩ := s0
  dsimp only at hr hs bl bx bo bt
  refine calls1 Try.func4 rfl rfl ?_
  refine wc_seq ?_
  refine wc_region [0,1] rfl ?_
  refine BXA rfl wu rfl rfl ?_
  intro fb w1 hE hB hg
  refine Go.Sx.V rfl wu rfl rfl (asg rfl) ?_
  refine wr_nil (post_thenN (wc_seq ?_))
  refine wc_region [0,1,2,3,4,5,6,7,8,9] rfl ?_
  refine Go.Sx.V rfl wu rfl rfl (fad rfl fa28_0) ?_
  refine Go.Sx.V rfl wu rfl rfl (ldA rfl ag24) ?_
  refine C rfl wu rfl rfl Try.call13 (lOpen ⟨p, M, mo, md⟩ _ (hr.ints.ext hE)) ?_
  rintro ov w2 hE2 hop
  replace hB := hB.ext hE2
  replace hE := hE.trans hE2
  obtain ⟨gv, dn, rfl, hcase⟩ := open_split hop
  refine Go.Sx.V rfl wu rfl rfl (mv rfl) ?_
  refine Go.Sx.V rfl wu rfl rfl (ext rfl rfl) ?_
  refine Go.Sx.V rfl wu rfl rfl (ext rfl rfl) ?_
  refine Go.Sx.V rfl wu rfl rfl (ext rfl rfl) ?_
  refine Go.Sx.V rfl wu rfl rfl (asg rfl) ?_
  refine Go.Sx.V rfl wu rfl rfl (asg rfl) ?_
  refine Go.Sx.V rfl wu rfl rfl (asg rfl) ?_
  refine wr_nil (post_thenN (wc_seq (wc_seq ?_)))
  have hmi := hr.ints.ext hE
  replace hs := hs.ext hE
  refine wc_region [0] rfl ?_
  refine Go.Sx.V rfl wu rfl rfl (mv rfl) ?_
  refine wr_nil (post_thenN ?_)
  refine wc_cond rfl ?_ ?_
  · intro _
    refine wc_seq ?_
    refine wc_region [0,1] rfl ?_
    refine Go.Sx.V rfl wu rfl rfl (mv rfl) ?_
    refine Go.Sx.V rfl wu rfl rfl (asg rfl) ?_
    refine wr_nil (post_thenN (wc_ret (post_thenR ?_)))
    refine post_ret1 rfl rfl ?_
    exact ⟨hE, rfl⟩
  · intro h
    rcases hcase with hd | ⟨_, P, hp, hM, hFV, hG⟩
    · rw [hd] at h; cases h
    dsimp only at hB
    subst hp hM
    have hF := hFV _ _ hmi
    have hgen := hG.gen
    have hX := Ext.refl w2
    refine wc_skip (post_thenN (wc_seq (wc_seq ?_)))
    refine wc_region [0,1,2,3] rfl ?_
    refine Go.Sx.V rfl wu rfl rfl (mv rfl) ?_
    refine Go.Sx.V rfl wu rfl rfl (bld (us := [.int .i64 1]) (r := [.int .i64 1, .slice none 0 0]) rfl (bdOP1 1)) ?_
    refine C rfl wu rfl rfl Try.call14 (dCheck P gv 0 1 (.slice none 0 0) [] _ (hG.ext hX) (Ints.nil _)) ?_
    rintro cv w6 hE6 hck''
    obtain rfl := hck''.elim (fun h => absurd h.2 no_zero) (fun h => h.1)
    replace hX := hX.trans hE6
    refine Go.Sx.V rfl wu rfl rfl (neqI rfl rfl) ?_
    refine wr_nil (post_thenN ?_)
    refine wc_condF rfl (by simp) ?_
    refine wc_skip (post_thenN (wc_seq (wc_seq ?_)))
    refine wc_region [0,1,2,3,4,5,6,7,8,9,10,11,12,13,14,15,16,17,18,19] rfl ?_
    refine Go.Sx.V rfl wu rfl rfl (mv rfl) ?_
    refine Go.Sx.V rfl wu rfl rfl (fad rfl fa28_1) ?_
    refine Go.Sx.V rfl wu rfl rfl (ldB rfl na3 hB) ?_
    refine Go.Sx.V rfl wu rfl rfl (fad rfl fa28_2) ?_
    refine Go.Sx.V rfl wu rfl rfl (ldA rfl ag26 hB) ?_
    refine C rfl wu rfl rfl Try.call14 (dCheck P gv x o s l _ (hG.ext hX) (hs.ext hX)) ?_
    rintro cv w4 hE4 hck
    obtain ⟨c, rfl, hc⟩ := chk_cc hck
    replace hX := hX.trans hE4
    refine Go.Sx.V rfl wu rfl rfl (neqI rfl rfl) ?_
    refine Go.Sx.V rfl wu rfl rfl (mv rfl) ?_
    refine OR (π1 := [8,9,10,11]) (π2 := [12,13,14,15,16,17,18,19]) (tc := 28) (tp := 32) rfl rfl rfl (by
        intro _
        refine SK rfl rfl rfl rfl rfl ?_
        refine SK rfl rfl rfl rfl rfl ?_
        refine SK rfl rfl rfl rfl rfl ?_
        refine Go.Sx.V rfl wu rfl rfl (pk rfl rfl) ?_
        exact join rfl) (by
        intro hg
        simp at hg
        refine Go.Sx.V rfl (wg rfl rfl) rfl rfl (fad rfl fa28_3) ?_
        refine Go.Sx.V rfl (wg rfl rfl) rfl rfl (ldB rfl na3 hB) ?_
        refine Go.Sx.V rfl (wg rfl rfl) rfl rfl (lssI rfl rfl) ?_
        refine Go.Sx.V rfl wu rfl rfl (pk rfl rfl) ?_
        exact join rfl) ?_
    refine Go.Sx.V rfl wu rfl rfl (mv rfl) ?_
    refine OR (π1 := [13,14,15,16,17,18,19]) (π2 := []) (tc := 33) (tp := 40) rfl rfl rfl (by
        intro _
        refine SK rfl rfl rfl rfl rfl ?_
        refine SK rfl rfl rfl rfl rfl ?_
        refine SK rfl rfl rfl rfl rfl ?_
        refine SK rfl rfl rfl rfl rfl ?_
        refine SK rfl rfl rfl rfl rfl ?_
        refine SK rfl rfl rfl rfl rfl ?_
        refine Go.Sx.V rfl wu rfl rfl (pk rfl rfl) ?_
        exact join rfl) (by
        intro hg
        simp at hg
        refine Go.Sx.V rfl (wg rfl rfl) rfl rfl (fad rfl fa28_3) ?_
        refine Go.Sx.V rfl (wg rfl rfl) rfl rfl (ldB rfl na3 hB) ?_
        refine Go.Sx.V rfl (wg rfl rfl) rfl rfl (fad rfl fa28_2) ?_
        refine Go.Sx.V rfl (wg rfl rfl) rfl rfl (fad rfl fa26_0) ?_
        refine Go.Sx.V rfl (wg rfl rfl) rfl rfl (ldB rfl na3 hB) ?_
        refine Go.Sx.V rfl (wg rfl rfl) rfl rfl (geqI rfl rfl) ?_
        refine Go.Sx.V rfl wu rfl rfl (pk rfl rfl) ?_
        exact join rfl) ?_
    refine wr_nil (post_thenN ?_)
    refine wc_cond rfl ?_ ?_
    · intro _
      refine wc_seq ?_
      refine wc_region [0] rfl ?_
      refine Go.Sx.V rfl wu rfl rfl (asg rfl) ?_
      refine wr_nil (post_thenN (wc_ret (post_thenR ?_)))
      refine post_ret1 rfl rfl ?_
      exact ⟨hE.trans hX, rfl⟩
    · intro hn
      simp at hn
      obtain ⟨⟨hc0, ht1⟩, ht2⟩ := hn
      have hok : OkO P x o l := by
        rcases hc with h1 | h1
        · exact h1.2
        · omega
      obtain ⟨x0, hx0⟩ := hgen
      have hpa := powA_nat hx0 hok.1 (k := tt) (by omega)
      have hne := hok.2.2.1.2.2 tt.toNat (by omega) (by omega)
      refine wc_skip (post_thenN (wc_seq ?_))
      refine wc_region [0,1,2,3,4,5,6,7,8,9,10] rfl ?_
      refine Go.Sx.V rfl wu rfl rfl (mv rfl) ?_
      refine Go.Sx.V rfl wu rfl rfl (fad rfl fa28_1) ?_
      refine Go.Sx.V rfl wu rfl rfl (ldB rfl na3 hB) ?_
      refine Go.Sx.V rfl wu rfl rfl (fad rfl fa28_3) ?_
      refine Go.Sx.V rfl wu rfl rfl (ldB rfl na3 hB) ?_
      refine C rfl wu rfl rfl Try.call16 (gPow P gv x tt _ (hG.ext hX)) ?_
      rintro _ w7 hE7 rfl
      replace hX := hX.trans hE7
      rw [hpa]
      refine Go.Sx.V rfl wu rfl rfl (mv rfl) ?_
      refine Go.Sx.V rfl wu rfl rfl (ext rfl rfl) ?_
      refine Go.Sx.V rfl wu rfl rfl (ext rfl rfl) ?_
      refine Go.Sx.V rfl wu rfl rfl (asg rfl) ?_
      refine Go.Sx.V rfl wu rfl rfl (asg rfl) ?_
      refine wr_nil (post_thenN (wc_seq ?_))
      refine wc_region [0,1,2,3,4,5,6] rfl ?_
      refine Go.Sx.V rfl wu rfl rfl (mv rfl) ?_
      refine Go.Sx.V rfl wu rfl rfl (eqlI rfl rfl) ?_
      refine Go.Sx.V rfl wu rfl rfl (mv rfl) ?_
      refine AND (π1 := [3,4,5]) (π2 := [6]) (tc := 52) (tp := 55) rfl rfl rfl (by
          intro hg
          simp at hg
          refine Go.Sx.V rfl (wg rfl rfl) rfl rfl (mv rfl) ?_
          refine Go.Sx.V rfl (wg rfl rfl) rfl rfl (neqI rfl rfl) ?_
          refine Go.Sx.V rfl wu rfl rfl (pk rfl rfl) ?_
          exact join rfl) (by
          intro _
          refine SK rfl rfl rfl rfl rfl ?_
          refine SK rfl rfl rfl rfl rfl ?_
          refine Go.Sx.V rfl wu rfl rfl (pk rfl rfl) ?_
          exact join rfl) ?_
      refine Go.Sx.V rfl wu rfl rfl (asg rfl) ?_
      refine wr_nil (post_thenN (wc_ret ?_))
      refine post_ret1 rfl rfl ?_
      refine ⟨hE.trans hX, ?_⟩
      have : ¬ (npow (inK P x) tt.toNat).1 = 1 := fun e => hne (Subtype.ext e)
      simp [this]
namespace FDlogSound
open Go.ChangeShapes Go.WideShapes Go.ChangeAt Go.RowKit Go.Fr
theorem own : ownKnob Try.prog.godebug = none := by kernel_rfl
theorem laidOut : laidOutB Try.prog = true := by kernel_rfl
set_option maxRecDepth 100000 in
theorem lifted (os : Os) (started : os.Started) (H : Type) (enc : TypeId × Value → H) :
    ReturnsInHanded {} Try.checked os 4 .any (Rows.dlogSoundSpec.pre6 enc Try.prog Try.f4 Rows.dlogSoundRow.domain false) (Rows.dlogSoundSpec.post enc Try.prog Try.f4 false true false false) := by
  refine returnsInHanded_of_change_sized (C := Try.checked) own started (by kernel_rfl) Try.func4
    (ChangeSpec.witness6 (enc := enc) (C := Try.checked) false ⟨#[], #[.agg #[.int .i64 0, .int .i64 0, .slice none 0 0, .int .i64 0, .int .i64 0, .slice none 0 0, .int .i64 0]], []⟩ 8 (by kernel_rfl) (by kernel_rfl) (by kernel_rfl) (by kernel_rfl)) ?_
  intro W base args ds gs before hval0 hW _ hsz0 _
  have hval : ∀ (j : Nat) t v, Try.f4.params[j]? = some t → args[j]? = some v → Value.okWide Try.prog W .any base t v := hval0
  have hW' := hW
  obtain ⟨p, q, hA0, hV, rfl, hfz, hnd⟩ := hW
  have hA : DataW.TrodAll enc Try.prog W 0 (fun _ => true) true Try.f4.params.toList args.toList ds p := hA0
  have hsz : (DataW.weightsEach Try.prog (Try.f4.params.toList ++ Rows.dlogSoundSpec.plain.varTypes Try.prog) (ds ++ gs)).all (· ≤ reachBytes) = true := hsz0
  rw [Try.params4] at hA hval hsz
  obtain ⟨v0, vs0, d0, ds0, p0, q0, hargs, rfl, rfl, h0, r0⟩ := trodAll_cons hA
  obtain ⟨rfl, rfl, rfl⟩ := trodAll_nil r0
  obtain rfl : args = #[v0] := by cases args; simp_all
  obtain ⟨rfl, rfl⟩ := trodVars_none hV
  have k0 := h0
  have lt0 : ∀ x ∈ p0, x.block < W.heap.size := by obtain ⟨m, hm⟩ := k0; exact DataW.trod_lt m _ _ _ hm
  have w0 : WOK Try.prog 28 d0 := wok_arg hsz (j := 0) rfl rfl
  obtain ⟨x0, s0⟩ := op_claim (hval 0 28 v0 rfl rfl) h0 w0
  refine (law_DlogSound (w := W) v0 x0 s0).mono fun e W' he => ?_
  cases e with
  | panicked c => exact he.elim
  | outgrown => exact he.elim
  | returned v =>
    obtain ⟨bel, rfl⟩ := he
    exact ⟨_, rfl, _, _, _, [], _, [], hW', trodAll_mk1 (shut_bool Try.underlying4 _), (trodAll_cons_mk (Below.trod laidOut (by kernel_rfl) (of_decide_eq_true (by kernel_rfl)) k0 bel lt0) trodAll_mk0), rfl, bel.frame _, fun h => by cases h⟩
theorem over : Rows.dlogSoundRow.holds Try.pinned (OpenSpec.ofChange Rows.dlogSoundSpec) :=
  OpenClaim.holds_of_wide 4 Try.f4 rfl rfl rfl rfl rfl rfl rfl ⟨rfl, rfl, rfl, rfl, rfl⟩ rfl rfl rfl rfl rfl (by kernel_rfl) Try.func4 (by kernel_rfl)
    (of_decide_eq_true (by kernel_rfl)) (by unfold Func.isWrapper; first | (rw [if_pos (by decide +kernel)]; kernel_rfl) | (rw [if_neg (by decide +kernel)]; exact ⟨rfl, rfl⟩))
    (fun os started H enc _ => lifted os started H enc)
end FDlogSound
/-- The statement. -/
theorem dlogSound_holds : Rows.DlogSoundSaid := FDlogSound.over
end Go.Proofs.Ytmookiiehfdloaa
