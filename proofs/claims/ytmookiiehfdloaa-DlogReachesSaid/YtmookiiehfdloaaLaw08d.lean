/-
  Statements DlogPrimitive, DlogReaches: for every field and int the laws return true. No condition.
-/
import Derived.Test.YtmookiiehfdloaaDlog4
import Derived.Test.YtmookiiehfdloaaDlog5
import Derived.Test.YtmookiiehfdloaaRows
namespace Go.Proofs.Ytmookiiehfdloaa
open Go Go.Sx Go.Pl Go.RowKit Go.Fd Go.Alg Go.Fr Go.Nm

set_option maxRecDepth 10000 in
theorem law_DlogPrimitive {w : World} (v0 : Value) (r : FRec) (s0 : v0 = r.v ∧ FOf w r) (x : Int) (_ : Fits x) :
    Calls Try.prog 5 #[v0, .int .i64 x] w (RetX w fun v _ => v = .bool true) := by
  obtain ⟨p, M, mo, md⟩ := r
  obtain ⟨rfl, hr⟩ := s0
  refine calls2 Try.func5 rfl rfl ?_
  refine wc_seq ?_
  refine wc_region [0,1] rfl ?_
  refine BXA rfl wu rfl rfl ?_
  intro fb w1 hE hB hg
  refine Go.Sx.V rfl wu rfl rfl (asg rfl) ?_
  refine wr_nil (post_thenN (wc_seq ?_))
  refine wc_region [0,1,2,3,4,5,6,7,8] rfl ?_
  refine Go.Sx.V rfl wu rfl rfl (ldA rfl ag24) ?_
  refine C rfl wu rfl rfl Try.call13 (lOpen ⟨p, M, mo, md⟩ _ (hr.ints.ext hE)) ?_
  rintro ov w2 hE2 hop
  replace hB := hB.ext hE2
  replace hE := hE.trans hE2
  obtain ⟨gv, dn, rfl, hcase⟩ := open_split hop
  refine Go.Sx.V rfl wu rfl rfl (mv rfl) ?_
  refine Go.Sx.V rfl wu rfl rfl (ext rfl rfl) ?_
  refine Go.Sx.V rfl wu rfl rfl (ext rfl rfl) ?_
  refine Go.Sx.V rfl wu rfl rfl (ext rfl rfl) ?_
  refine Go.Sx.V rfl wu rfl rfl (asg rfl) ?_
  refine Go.Sx.V rfl wu rfl rfl (asg rfl) ?_
  refine Go.Sx.V rfl wu rfl rfl (asg rfl) ?_
  refine wr_nil (post_thenN (wc_seq (wc_seq ?_)))
  have hmi := hr.ints.ext hE
  refine wc_region [0] rfl ?_
  refine Go.Sx.V rfl wu rfl rfl (mv rfl) ?_
  refine wr_nil (post_thenN ?_)
  refine wc_cond rfl ?_ ?_
  · intro _
    refine wc_seq ?_
    refine wc_region [0,1] rfl ?_
    refine Go.Sx.V rfl wu rfl rfl (mv rfl) ?_
    refine Go.Sx.V rfl wu rfl rfl (asg rfl) ?_
    refine wr_nil (post_thenN (wc_ret (post_thenR ?_)))
    refine post_ret1 rfl rfl ?_
    exact ⟨hE, rfl⟩
  · intro h
    rcases hcase with hd | ⟨_, P, hp, hM, hFV, hG⟩
    · rw [hd] at h; cases h
    dsimp only at hB
    subst hp hM
    have hF := hFV _ _ hmi
    have hgen := hG.gen
    have hX := Ext.refl w2
    refine wc_skip (post_thenN (wc_seq ?_))
    refine wc_region [0,1,2] rfl ?_
    refine Go.Sx.V rfl wu rfl rfl (mv rfl) ?_
    refine C rfl wu rfl rfl Try.call17 (dPrimitive P gv _ (hG.ext hX)) ?_
    rintro _ w3 hE3 ⟨p1, rfl, hp1⟩
    replace hX := hX.trans hE3
    refine Go.Sx.V rfl wu rfl rfl (asg rfl) ?_
    refine wr_nil (post_thenN (wc_seq (wc_seq ?_)))
    refine wc_region [0,1,2,3,4,5,6,7,8,9] rfl ?_
    refine Go.Sx.V rfl wu rfl rfl (mv rfl) ?_
    refine Go.Sx.V rfl wu rfl rfl (ldA rfl ag24 hB) ?_
    refine C rfl wu rfl rfl Try.call18 (rPrimitive P mo md _ (hF.ext hX) hgen) ?_
    rintro _ w4 hE4 ⟨p2, rfl, hp2⟩
    replace hX := hX.trans hE4
    obtain rfl := Prim.uniq hp1 hp2
    refine Go.Sx.V rfl wu rfl rfl (neqI rfl rfl) ?_
    refine Go.Sx.V rfl wu rfl rfl (mv rfl) ?_
    refine KB 23 false rfl (by simp) ?_
    refine Go.Sx.V rfl (wg rfl rfl) rfl rfl (mv rfl) ?_
    refine Go.Sx.V rfl (wg rfl rfl) rfl rfl (mv rfl) ?_
    refine C rfl (wg rfl rfl) rfl rfl Try.call19 (dIsPrim P gv p1 _ (hG.ext hX)) ?_
    rintro _ w5 hE5 ⟨b1, rfl, hb1⟩
    replace hX := hX.trans hE5
    obtain rfl := hb1.2 hp1.2.2.1
    refine Go.Sx.V rfl (wg rfl rfl) rfl rfl (notB rfl) ?_
    refine Go.Sx.V rfl wu rfl rfl (pk rfl rfl) ?_
    refine wr_nil (post_thenN ?_)
    refine wc_condF rfl (by simp) ?_
    refine wc_skip (post_thenN (wc_seq ?_))
    refine wc_draw mixed [0,1,3,4,2,5,6,7] (by kernel_rfl) ?_
    intro w6 hd _
    replace hX := hX.trans hd
    refine Go.Sx.V rfl wu rfl rfl (mv rfl) ?_
    refine Go.Sx.V rfl wu rfl rfl (mv rfl) ?_
    refine Go.Sx.V rfl wu rfl rfl (ldA rfl ag24 hB) ?_
    refine Go.Sx.V rfl wu rfl rfl (mv rfl) ?_
    refine C rfl wu rfl rfl Try.call19 (dIsPrim P gv x _ (hG.ext hX)) ?_
    rintro _ w7 hE7 ⟨b2, rfl, hb2⟩
    replace hX := hX.trans hE7
    refine C rfl wu rfl rfl Try.call20 (rIsPrim P mo md x _ (hF.ext hX) hgen) ?_
    rintro _ w8 hE8 ⟨b3, rfl, hb3⟩
    replace hX := hX.trans hE8
    refine Go.Sx.V rfl wu rfl rfl (eqlB rfl rfl und4) ?_
    refine Go.Sx.V rfl wu rfl rfl (asg rfl) ?_
    refine wr_nil (post_thenN (wc_ret ?_))
    refine post_ret1 rfl rfl ?_
    have : b2 = b3 := by
      rw [Bool.eq_iff_iff, hb2, hb3]
    exact ⟨hE.trans hX, by simp [this]⟩
namespace FDlogPrimitive
open Go.ChangeShapes Go.WideShapes Go.ChangeAt Go.RowKit Go.Fr
theorem own : ownKnob Try.prog.godebug = none := by kernel_rfl
theorem laidOut : laidOutB Try.prog = true := by kernel_rfl
set_option maxRecDepth 100000 in
theorem lifted (os : Os) (started : os.Started) (H : Type) (enc : TypeId × Value → H) :
    ReturnsInHanded {} Try.checked os 5 .any (Rows.dlogPrimitiveSpec.pre6 enc Try.prog Try.f5 Rows.dlogPrimitiveRow.domain false) (Rows.dlogPrimitiveSpec.post enc Try.prog Try.f5 false true false false) := by
  refine returnsInHanded_of_change_sized (C := Try.checked) own started (by kernel_rfl) Try.func5
    (ChangeSpec.witness6 (enc := enc) (C := Try.checked) false ⟨#[], #[.agg #[.int .i64 0, .int .i64 0, .slice none 0 0], .int .i64 0], []⟩ 8 (by kernel_rfl) (by kernel_rfl) (by kernel_rfl) (by kernel_rfl)) ?_
  intro W base args ds gs before hval0 hW _ hsz0 _
  have hval : ∀ (j : Nat) t v, Try.f5.params[j]? = some t → args[j]? = some v → Value.okWide Try.prog W .any base t v := hval0
  have hW' := hW
  obtain ⟨p, q, hA0, hV, rfl, hfz, hnd⟩ := hW
  have hA : DataW.TrodAll enc Try.prog W 0 (fun _ => true) true Try.f5.params.toList args.toList ds p := hA0
  have hsz : (DataW.weightsEach Try.prog (Try.f5.params.toList ++ Rows.dlogPrimitiveSpec.plain.varTypes Try.prog) (ds ++ gs)).all (· ≤ reachBytes) = true := hsz0
  rw [Try.params5] at hA hval hsz
  obtain ⟨v0, vs0, d0, ds0, p0, q0, hargs, rfl, rfl, h0, r0⟩ := trodAll_cons hA
  obtain ⟨v1, vs1, d1, ds1, p1, q1, rfl, rfl, rfl, h1, r1⟩ := trodAll_cons r0
  obtain ⟨rfl, rfl, rfl⟩ := trodAll_nil r1
  obtain rfl : args = #[v0, v1] := by cases args; simp_all
  obtain ⟨rfl, rfl⟩ := trodVars_none hV
  have k0 := h0
  have lt0 : ∀ x ∈ p0, x.block < W.heap.size := by obtain ⟨m, hm⟩ := k0; exact DataW.trod_lt m _ _ _ hm
  have w0 : WOK Try.prog 24 d0 := wok_arg hsz (j := 0) rfl rfl
  obtain ⟨x0, s0⟩ := op_field (hval 0 24 v0 rfl rfl) h0 w0
  have k1 := h1
  have lt1 : ∀ x ∈ p1, x.block < W.heap.size := by obtain ⟨m, hm⟩ := k1; exact DataW.trod_lt m _ _ _ hm
  have w1 : WOK Try.prog 3 d1 := wok_arg hsz (j := 1) rfl rfl
  obtain ⟨n1, rfl, b1⟩ := op_int Try.underlying3 (hval 1 3 v1 rfl rfl) h1
  refine (law_DlogPrimitive (w := W) v0 x0 s0 n1 b1).mono fun e W' he => ?_
  cases e with
  | panicked c => exact he.elim
  | outgrown => exact he.elim
  | returned v =>
    obtain ⟨bel, rfl⟩ := he
    exact ⟨_, rfl, _, _, _, [], _, [], hW', trodAll_mk1 (shut_bool Try.underlying4 _), (trodAll_cons_mk (Below.trod laidOut (by kernel_rfl) (of_decide_eq_true (by kernel_rfl)) k0 bel lt0) (trodAll_cons_mk (Below.trod laidOut (by kernel_rfl) (of_decide_eq_true (by kernel_rfl)) k1 bel lt1) trodAll_mk0)), rfl, bel.frame _, fun h => by cases h⟩
theorem over : Rows.dlogPrimitiveRow.holds Try.pinned (OpenSpec.ofChange Rows.dlogPrimitiveSpec) :=
  OpenClaim.holds_of_wide 5 Try.f5 rfl rfl rfl rfl rfl rfl rfl ⟨rfl, rfl, rfl, rfl, rfl⟩ rfl rfl rfl rfl rfl (by kernel_rfl) Try.func5 (by kernel_rfl)
    (of_decide_eq_true (by kernel_rfl)) (by unfold Func.isWrapper; first | (rw [if_pos (by decide +kernel)]; kernel_rfl) | (rw [if_neg (by decide +kernel)]; exact ⟨rfl, rfl⟩))
    (fun os started H enc _ => lifted os started H enc)
end FDlogPrimitive
/-- The statement. -/
theorem dlogPrimitive_holds : Rows.DlogPrimitiveSaid := FDlogPrimitive.over

set_option maxRecDepth 10000 in
theorem law_DlogReaches {w : World} (v0 : Value) (r : FRec) (s0 : v0 = r.v ∧ FOf w r) (x : Int) (_ : Fits x) :
    Calls Try.prog 11 #[v0, .int .i64 x] w (RetX w fun v _ => v = .bool true) := by
  obtain ⟨p, M, mo, md⟩ := r
  obtain ⟨rfl, hr⟩ := s0
  refine calls2 Try.func11 rfl rfl ?_
  refine wc_seq ?_
  refine wc_region [0,1] rfl ?_
  refine BXA rfl wu rfl rfl ?_
  intro fb w1 hE hB hg
  refine Go.Sx.V rfl wu rfl rfl (asg rfl) ?_
  refine wr_nil (post_thenN (wc_seq ?_))
  refine wc_region [0,1,2,3,4,5,6,7,8] rfl ?_
  refine Go.Sx.V rfl wu rfl rfl (ldA rfl ag24) ?_
  refine C rfl wu rfl rfl Try.call13 (lOpen ⟨p, M, mo, md⟩ _ (hr.ints.ext hE)) ?_
  rintro ov w2 hE2 hop
  replace hB := hB.ext hE2
  replace hE := hE.trans hE2
  obtain ⟨gv, dn, rfl, hcase⟩ := open_split hop
  refine Go.Sx.V rfl wu rfl rfl (mv rfl) ?_
  refine Go.Sx.V rfl wu rfl rfl (ext rfl rfl) ?_
  refine Go.Sx.V rfl wu rfl rfl (ext rfl rfl) ?_
  refine Go.Sx.V rfl wu rfl rfl (ext rfl rfl) ?_
  refine Go.Sx.V rfl wu rfl rfl (asg rfl) ?_
  refine Go.Sx.V rfl wu rfl rfl (asg rfl) ?_
  refine Go.Sx.V rfl wu rfl rfl (asg rfl) ?_
  refine wr_nil (post_thenN (wc_seq (wc_seq ?_)))
  have hmi := hr.ints.ext hE
  refine wc_region [0] rfl ?_
  refine Go.Sx.V rfl wu rfl rfl (mv rfl) ?_
  refine wr_nil (post_thenN ?_)
  refine wc_cond rfl ?_ ?_
  · intro _
    refine wc_seq ?_
    refine wc_region [0,1] rfl ?_
    refine Go.Sx.V rfl wu rfl rfl (mv rfl) ?_
    refine Go.Sx.V rfl wu rfl rfl (asg rfl) ?_
    refine wr_nil (post_thenN (wc_ret (post_thenR ?_)))
    refine post_ret1 rfl rfl ?_
    exact ⟨hE, rfl⟩
  · intro h
    rcases hcase with hd | ⟨_, P, hp, hM, hFV, hG⟩
    · rw [hd] at h; cases h
    dsimp only at hB
    subst hp hM
    have hF := hFV _ _ hmi
    have hord := hF.ord
    have hgen := hG.gen
    have hn1 := n1_eq (P := P)
    have hq := hG.q
    have hX := Ext.refl w2
    refine wc_skip (post_thenN (wc_seq ?_))
    refine wc_region [0,1,2] rfl ?_
    refine Go.Sx.V rfl wu rfl rfl (mv rfl) ?_
    refine C rfl wu rfl rfl Try.call17 (dPrimitive P gv _ (hG.ext hX)) ?_
    rintro _ w3 hE3 ⟨p1, rfl, hp1⟩
    replace hX := hX.trans hE3
    refine Go.Sx.V rfl wu rfl rfl (asg rfl) ?_
    refine wr_nil (post_thenN (wc_seq (wc_seq ?_)))
    obtain ⟨hp0, hpq, hpo, _⟩ := hp1
    refine wc_region [0,1] rfl ?_
    refine Go.Sx.V rfl wu rfl rfl (mv rfl) ?_
    refine Go.Sx.V rfl wu rfl rfl (lssI rfl rfl) ?_
    refine wr_nil (post_thenN ?_)
    refine wc_condF rfl (by simp <;> omega) ?_
    refine wc_skip (post_thenN (wc_seq (wc_seq ?_)))
    refine wc_region [0,1,2,3] rfl ?_
    refine Go.Sx.V rfl wu rfl rfl (ldA rfl ag24 hB) ?_
    refine Go.Sx.V rfl wu rfl rfl (mv rfl) ?_
    refine C rfl wu rfl rfl Try.call26 (rIn P mo md x _ (hF.ext hX)) ?_
    rintro _ w4 hE4 rfl
    replace hX := hX.trans hE4
    refine Go.Sx.V rfl wu rfl rfl (eqlI rfl rfl) ?_
    refine wr_nil (post_thenN ?_)
    refine wc_cond rfl ?_ ?_
    · intro _
      refine wc_seq ?_
      refine wc_region [0] rfl ?_
      refine Go.Sx.V rfl wu rfl rfl (asg rfl) ?_
      refine wr_nil (post_thenN (wc_ret (post_thenR ?_)))
      refine post_ret1 rfl rfl ?_
      exact ⟨hE.trans hX, rfl⟩
    · intro hz
      simp at hz
      have hx0 : inK P x ≠ 0 := fun e => hz (by rw [e]; rfl)
      have hxin : 0 ≤ x ∧ x < P.q := Classical.byContradiction fun hc => hx0 (inK_out hc)
      have hpn : inK P p1 ≠ 0 := fun e => not_order_zero (by rwa [e] at hpo)
      obtain ⟨k, hk, hkx⟩ := gen_all hpo _ hx0
      refine wc_skip (post_thenN (wc_seq ?_))
      refine wc_region [0,1,2,3,4,5,6,7,8] rfl ?_
      refine Go.Sx.V rfl wu rfl rfl (mv rfl) ?_
      refine Go.Sx.V rfl wu rfl rfl (mv rfl) ?_
      refine Go.Sx.V rfl wu rfl rfl (mv rfl) ?_
      refine C rfl wu rfl rfl Try.call24 (dSolve P gv p1 x _ (hG.ext hX)) ?_
      rintro ov w5 hE5 hs1
      obtain ⟨n, e, hre, hc⟩ := SolA.split hs1
      subst hre
      replace hX := hX.trans hE5
      refine Go.Sx.V rfl wu rfl rfl (mv rfl) ?_
      refine Go.Sx.V rfl wu rfl rfl (ext rfl rfl) ?_
      refine Go.Sx.V rfl wu rfl rfl (ext rfl rfl) ?_
      refine Go.Sx.V rfl wu rfl rfl (asg rfl) ?_
      refine Go.Sx.V rfl wu rfl rfl (asg rfl) ?_
      refine wr_nil (post_thenN (wc_seq (wc_seq ?_)))
      have hn : npow (inK P p1) n = inK P x ∧ n < n1 P ∧ e = 0 := by
        rcases hc with ⟨h | h, _⟩ | ⟨_, _, ⟨h1, h2, h3⟩ | ⟨h1, _⟩⟩
        · exact absurd h hpn
        · exact absurd h hx0
        · refine ⟨h1, ?_, h3⟩
          rcases Nat.lt_or_ge k n with h | h
          · exact absurd hkx (h2 k h)
          · omega
        · exact absurd hkx (h1 k)
      obtain ⟨hn, hnl, rfl⟩ := hn
      refine wc_region [0,1,2,3,4,5,6,7,8,9,10,11,12] rfl ?_
      refine Go.Sx.V rfl wu rfl rfl (mv rfl) ?_
      refine Go.Sx.V rfl wu rfl rfl (neqI rfl rfl) ?_
      refine Go.Sx.V rfl wu rfl rfl (mv rfl) ?_
      refine KB 38 false rfl (by simp) ?_
      refine Go.Sx.V rfl (wg rfl rfl) rfl rfl (mv rfl) ?_
      refine Go.Sx.V rfl (wg rfl rfl) rfl rfl (lssI rfl rfl) ?_
      refine Go.Sx.V rfl wu rfl rfl (pk rfl rfl) ?_
      refine Go.Sx.V rfl wu rfl rfl (mv rfl) ?_
      refine KB 42 false rfl (by simp) ?_
      refine Go.Sx.V rfl (wg rfl rfl) rfl rfl (mv rfl) ?_
      refine Go.Sx.V rfl (wg rfl rfl) rfl rfl (ldA rfl ag24 hB) ?_
      refine C rfl (wg rfl rfl) rfl rfl Try.call33 (rOrder P.p P.M mo _) ?_
      rintro _ w6 hE6 rfl
      rw [hord]
      replace hX := hX.trans hE6
      refine Go.Sx.V rfl (wg rfl rfl) rfl rfl (subI rfl rfl) ?_
      refine Go.Sx.V rfl (wg rfl rfl) rfl rfl (gtrI rfl rfl) ?_
      refine Go.Sx.V rfl wu rfl rfl (pk rfl rfl) ?_
      refine wr_nil (post_thenN ?_)
      refine wc_condF rfl (by simp <;> omega) ?_
      refine wc_skip (post_thenN (wc_seq ?_))
      have hpw : powA P (inK P p1) n = (inK P x, 0) := by
        rw [powA_nat hpo hpn (by omega), Int.toNat_natCast, hn]
      refine wc_region [0,1,2,3,4,5,6,7,8] rfl ?_
      refine Go.Sx.V rfl wu rfl rfl (mv rfl) ?_
      refine Go.Sx.V rfl wu rfl rfl (mv rfl) ?_
      refine Go.Sx.V rfl wu rfl rfl (mv rfl) ?_
      refine C rfl wu rfl rfl Try.call16 (gPow P gv p1 n _ (hG.ext hX)) ?_
      rintro _ w7 hE7 rfl
      rw [hpw]
      replace hX := hX.trans hE7
      refine Go.Sx.V rfl wu rfl rfl (mv rfl) ?_
      refine Go.Sx.V rfl wu rfl rfl (ext rfl rfl) ?_
      refine Go.Sx.V rfl wu rfl rfl (ext rfl rfl) ?_
      refine Go.Sx.V rfl wu rfl rfl (asg rfl) ?_
      refine Go.Sx.V rfl wu rfl rfl (asg rfl) ?_
      refine wr_nil (post_thenN (wc_seq ?_))
      refine wc_region [0,1,2,3,4,5,6,7] rfl ?_
      refine Go.Sx.V rfl wu rfl rfl (mv rfl) ?_
      refine Go.Sx.V rfl wu rfl rfl (eqlI rfl rfl) ?_
      refine Go.Sx.V rfl wu rfl rfl (mv rfl) ?_
      refine AND (π1 := [3,4,5,6]) (π2 := [7]) (tc := 58) (tp := 62) rfl rfl rfl (by
          intro hg
          simp at hg
          refine Go.Sx.V rfl (wg rfl rfl) rfl rfl (mv rfl) ?_
          refine Go.Sx.V rfl (wg rfl rfl) rfl rfl (mv rfl) ?_
          refine Go.Sx.V rfl (wg rfl rfl) rfl rfl (eqlI rfl rfl) ?_
          refine Go.Sx.V rfl wu rfl rfl (pk rfl rfl) ?_
          exact join rfl) (by
          intro _
          refine SK rfl rfl rfl rfl rfl ?_
          refine SK rfl rfl rfl rfl rfl ?_
          refine SK rfl rfl rfl rfl rfl ?_
          refine Go.Sx.V rfl wu rfl rfl (pk rfl rfl) ?_
          exact join rfl) ?_
      refine Go.Sx.V rfl wu rfl rfl (asg rfl) ?_
      refine wr_nil (post_thenN (wc_ret ?_))
      refine post_ret1 rfl rfl ?_
      exact ⟨hE.trans hX, by simp [inK_in hxin]⟩
namespace FDlogReaches
open Go.ChangeShapes Go.WideShapes Go.ChangeAt Go.RowKit Go.Fr
theorem own : ownKnob Try.prog.godebug = none := by kernel_rfl
theorem laidOut : laidOutB Try.prog = true := by kernel_rfl
set_option maxRecDepth 100000 in
theorem lifted (os : Os) (started : os.Started) (H : Type) (enc : TypeId × Value → H) :
    ReturnsInHanded {} Try.checked os 11 .any (Rows.dlogReachesSpec.pre6 enc Try.prog Try.f11 Rows.dlogReachesRow.domain false) (Rows.dlogReachesSpec.post enc Try.prog Try.f11 false true false false) := by
  refine returnsInHanded_of_change_sized (C := Try.checked) own started (by kernel_rfl) Try.func11
    (ChangeSpec.witness6 (enc := enc) (C := Try.checked) false ⟨#[], #[.agg #[.int .i64 0, .int .i64 0, .slice none 0 0], .int .i64 0], []⟩ 8 (by kernel_rfl) (by kernel_rfl) (by kernel_rfl) (by kernel_rfl)) ?_
  intro W base args ds gs before hval0 hW _ hsz0 _
  have hval : ∀ (j : Nat) t v, Try.f11.params[j]? = some t → args[j]? = some v → Value.okWide Try.prog W .any base t v := hval0
  have hW' := hW
  obtain ⟨p, q, hA0, hV, rfl, hfz, hnd⟩ := hW
  have hA : DataW.TrodAll enc Try.prog W 0 (fun _ => true) true Try.f11.params.toList args.toList ds p := hA0
  have hsz : (DataW.weightsEach Try.prog (Try.f11.params.toList ++ Rows.dlogReachesSpec.plain.varTypes Try.prog) (ds ++ gs)).all (· ≤ reachBytes) = true := hsz0
  rw [Try.params11] at hA hval hsz
  obtain ⟨v0, vs0, d0, ds0, p0, q0, hargs, rfl, rfl, h0, r0⟩ := trodAll_cons hA
  obtain ⟨v1, vs1, d1, ds1, p1, q1, rfl, rfl, rfl, h1, r1⟩ := trodAll_cons r0
  obtain ⟨rfl, rfl, rfl⟩ := trodAll_nil r1
  obtain rfl : args = #[v0, v1] := by cases args; simp_all
  obtain ⟨rfl, rfl⟩ := trodVars_none hV
  have k0 := h0
  have lt0 : ∀ x ∈ p0, x.block < W.heap.size := by obtain ⟨m, hm⟩ := k0; exact DataW.trod_lt m _ _ _ hm
  have w0 : WOK Try.prog 24 d0 := wok_arg hsz (j := 0) rfl rfl
  obtain ⟨x0, s0⟩ := op_field (hval 0 24 v0 rfl rfl) h0 w0
  have k1 := h1
  have lt1 : ∀ x ∈ p1, x.block < W.heap.size := by obtain ⟨m, hm⟩ := k1; exact DataW.trod_lt m _ _ _ hm
  have w1 : WOK Try.prog 3 d1 := wok_arg hsz (j := 1) rfl rfl
  obtain ⟨n1, rfl, b1⟩ := op_int Try.underlying3 (hval 1 3 v1 rfl rfl) h1
  refine (law_DlogReaches (w := W) v0 x0 s0 n1 b1).mono fun e W' he => ?_
  cases e with
  | panicked c => exact he.elim
  | outgrown => exact he.elim
  | returned v =>
    obtain ⟨bel, rfl⟩ := he
    exact ⟨_, rfl, _, _, _, [], _, [], hW', trodAll_mk1 (shut_bool Try.underlying4 _), (trodAll_cons_mk (Below.trod laidOut (by kernel_rfl) (of_decide_eq_true (by kernel_rfl)) k0 bel lt0) (trodAll_cons_mk (Below.trod laidOut (by kernel_rfl) (of_decide_eq_true (by kernel_rfl)) k1 bel lt1) trodAll_mk0)), rfl, bel.frame _, fun h => by cases h⟩
theorem over : Rows.dlogReachesRow.holds Try.pinned (OpenSpec.ofChange Rows.dlogReachesSpec) :=
  OpenClaim.holds_of_wide 11 Try.f11 rfl rfl rfl rfl rfl rfl rfl ⟨rfl, rfl, rfl, rfl, rfl⟩ rfl rfl rfl rfl rfl (by kernel_rfl) Try.func11 (by kernel_rfl)
    (of_decide_eq_true (by kernel_rfl)) (by unfold Func.isWrapper; first | (rw [if_pos (by decide +kernel)]; kernel_rfl) | (rw [if_neg (by decide +kernel)]; exact ⟨rfl, rfl⟩))
    (fun os started H enc _ => lifted os started H enc)
end FDlogReaches
/-- The statement. -/
theorem dlogReaches_holds : Rows.DlogReachesSaid := FDlogReaches.over
end Go.Proofs.Ytmookiiehfdloaa
