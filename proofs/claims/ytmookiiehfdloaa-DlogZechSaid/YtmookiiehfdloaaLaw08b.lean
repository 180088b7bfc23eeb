/-
  Statements DlogTables, DlogProducts, DlogZech: for every field, base and elements the laws return true. No condition.
-/
import Derived.Test.YtmookiiehfdloaaDlog3
import Derived.Test.YtmookiiehfdloaaRows
namespace Go.Proofs.Ytmookiiehfdloaa
open Go Go.Sx Go.Pl Go.RowKit Go.Fd Go.Alg Go.Fr Go.Nm
/-- A field, a base, and two ints. -/
structure BRec where
  f : FRec
  b : Int
  x : Int
  y : Int
def BRec.v (r : BRec) : Value := .agg #[.int .i64 r.f.p, .int .i64 r.f.M, r.f.mo, .int .i64 r.b, .int .i64 r.x, .int .i64 r.y]
structure BOf (w : World) (r : BRec) : Prop where
  f : FOf w r.f
  b : Fits r.b
  x : Fits r.x
  y : Fits r.y
section
variable {H : Type} {enc : TypeId × Value → H} {w : World} {base : Nat} {spare : Nat → Bool} {held : Bool} {d : DataW H} {ps : List MemPlace} {r : Reach} {b0 : Nat} {v : Value}
theorem op_base (hval : Value.okWide Try.prog w r b0 51 v) (hd : DataW.Trod enc Try.prog w base spare held 51 v d ps) (hw : WOK Try.prog 51 d) : ∃ r : BRec, v = r.v ∧ BOf w r := by
  obtain ⟨cs, fuel, rfl, h⟩ := op_struct Try.underlying51 hval hd
  obtain ⟨hl, hf⟩ := cop_struct Try.underlying51 h hw
  rw [show Try.prog.cellsOf 51 = 6 by kernel_rfl] at hl
  have c1 : Try.prog.cellsOf 3 = 1 := by kernel_rfl
  have c3 : Try.prog.cellsOf 24 = 3 := by kernel_rfl
  obtain ⟨l⟩ := cs
  simp only at hl h hf
  match l, hl with
  | [a0, a1, a2, a3, a4, a5], _ =>
    obtain ⟨n0, x0, h0, w0⟩ := hf 0 _ rfl
    obtain ⟨n1, x1, h1, w1⟩ := hf 1 _ rfl
    obtain ⟨n2, x2, h2, w2⟩ := hf 2 _ rfl
    obtain ⟨n3, x3, h3, w3⟩ := hf 3 _ rfl
    replace h0 : DataW.trod enc Try.prog w base spare held n0 24 (List.take (Try.prog.cellsOf 24) (List.drop 0 [a0, a1, a2, a3, a4, a5])) = some x0 := h0
    replace h1 : DataW.trod enc Try.prog w base spare held n1 3 (List.take (Try.prog.cellsOf 3) (List.drop 3 [a0, a1, a2, a3, a4, a5])) = some x1 := h1
    replace h2 : DataW.trod enc Try.prog w base spare held n2 3 (List.take (Try.prog.cellsOf 3) (List.drop 4 [a0, a1, a2, a3, a4, a5])) = some x2 := h2
    replace h3 : DataW.trod enc Try.prog w base spare held n3 3 (List.take (Try.prog.cellsOf 3) (List.drop 5 [a0, a1, a2, a3, a4, a5])) = some x3 := h3
    rw [c3] at h0
    rw [c1] at h1 h2 h3
    obtain ⟨rf, hrf, hof⟩ := cop_field ft (d := x0.1) (ps := x0.2) h0 w0
    obtain ⟨b, hb, bb⟩ := cop_int Try.underlying3 (d := x1.1) (ps := x1.2) h1
    obtain ⟨x, hx, bx⟩ := cop_int Try.underlying3 (d := x2.1) (ps := x2.2) h2
    obtain ⟨y, hy, bY⟩ := cop_int Try.underlying3 (d := x3.1) (ps := x3.2) h3
    simp at hrf hb hx hy
    subst hb hx hy
    refine ⟨⟨rf, b, x, y⟩, ?_, hof, bb, bx, bY⟩
    rw [BRec.v, hrf.1, hrf.2.1, hrf.2.2]
end
theorem fa51_0 : FA Try.prog 51 0 0 := fun a w => by
  simp [Instr.fieldAt, run_underlying Try.underlying51, Instr.sureAddr, fieldPlace]
theorem fa51_1 : FA Try.prog 51 1 3 := fun a w => by
  simp [Instr.fieldAt, run_underlying Try.underlying51, Instr.sureAddr, fieldPlace]
theorem fa51_2 : FA Try.prog 51 2 4 := fun a w => by
  simp [Instr.fieldAt, run_underlying Try.underlying51, Instr.sureAddr, fieldPlace]
theorem fa51_3 : FA Try.prog 51 3 5 := fun a w => by
  simp [Instr.fieldAt, run_underlying Try.underlying51, Instr.sureAddr, fieldPlace]

theorem tab_split {w : World} {p M : Int} {mo : Value} {md : List Int} {b : Int} {v : Value} (h : TabA w ⟨p, M, mo, md⟩ b v) :
    ∃ tv d, v = .tuple #[tv, .bool d, .bool true] ∧ (d = true ∨ (d = false ∧ ∃ P : FP, P.p = p ∧ (P.M : Int) = M ∧ (∀ w' mo', Ints w' mo' md → FV w' P mo' md) ∧ TBV w P tv b)) := by
  rcases h with h | ⟨P, h1, h2, h3, tv, h4, h5⟩
  · exact ⟨_, _, h, .inl rfl⟩
  · exact ⟨_, _, h4, .inr ⟨rfl, P, h1, h2, h3, h5⟩⟩
/-- The two logarithms agree. -/
theorem log_sol {P : FP} {X Y : K P} (h : HasOrder X (n1 P)) (hX : X ≠ 0) {i n : Nat} {e f : Int} (hl : (Y = 0 ∧ e = 7 ∧ i = 0) ∨ (Y ≠ 0 ∧ e = 0 ∧ i < n1 P ∧ npow X i = Y))
    (hs : ((X = 0 ∨ Y = 0) ∧ n = 0 ∧ f = 7) ∨ (X ≠ 0 ∧ Y ≠ 0 ∧ ((npow X n = Y ∧ (∀ m, m < n → npow X m ≠ Y) ∧ f = 0) ∨ ((∀ n, npow X n ≠ Y) ∧ n = 0 ∧ f = 11)))) : i = n ∧ e = f := by
  rcases hl with ⟨h1, h2, h3⟩ | ⟨h1, h2, h3, h4⟩
  · rcases hs with ⟨_, k1, k2⟩ | ⟨_, k0, _⟩
    · exact ⟨by omega, by omega⟩
    · exact absurd h1 k0
  · rcases hs with ⟨k0, _⟩ | ⟨_, _, ⟨k1, k2, k3⟩ | ⟨k1, _⟩⟩
    · rcases k0 with k0 | k0
      · exact absurd k0 hX
      · exact absurd k0 h1
    · have hle : n ≤ i := Nat.le_of_not_lt fun hc => k2 i hc h4
      have := pow_inj h h3 (show n < n1 P by omega) (h4.trans k1.symm)
      exact ⟨this, by omega⟩
    · exact absurd h4 (k1 i)

set_option maxRecDepth 10000 in
theorem law_DlogTables {w : World} (v0 : Value) (r : BRec) (s0 : v0 = r.v ∧ BOf w r) :
    Calls Try.prog 9 #[v0] w (RetX w fun v _ => v = .bool true) := by
  obtain ⟨⟨p, M, mo, md⟩, b, x, y⟩ := r
  obtain ⟨rfl, hr, bb, bx, bY⟩ := s0
  dsimp only at hr bb bx bY
  refine calls1 Try.func9 rfl rfl ?_
  refine wc_seq ?_
  refine wc_region [0,1] rfl ?_
  refine BXA rfl wu rfl rfl ?_
  intro fb w1 hE hB hg
  refine Go.Sx.V rfl wu rfl rfl (asg rfl) ?_
  refine wr_nil (post_thenN (wc_seq ?_))
  refine wc_region [0,1,2,3,4,5,6,7,8,9,10,11] rfl ?_
  refine Go.Sx.V rfl wu rfl rfl (fad rfl fa51_0) ?_
  refine Go.Sx.V rfl wu rfl rfl (ldA rfl ag24) ?_
  refine Go.Sx.V rfl wu rfl rfl (fad rfl fa51_1) ?_
  refine Go.Sx.V rfl wu rfl rfl (ldB rfl na3 hB) ?_
  refine C rfl wu rfl rfl Try.call27 (lTable ⟨p, M, mo, md⟩ b _ (hr.ints.ext hE)) ?_
  rintro ov w2 hE2 ht0
  replace hB := hB.ext hE2
  replace hE := hE.trans hE2
  obtain ⟨tv, dn, hte, hcase⟩ := tab_split ht0
  subst hte
  refine Go.Sx.V rfl wu rfl rfl (mv rfl) ?_
  refine Go.Sx.V rfl wu rfl rfl (ext rfl rfl) ?_
  refine Go.Sx.V rfl wu rfl rfl (ext rfl rfl) ?_
  refine Go.Sx.V rfl wu rfl rfl (ext rfl rfl) ?_
  refine Go.Sx.V rfl wu rfl rfl (asg rfl) ?_
  refine Go.Sx.V rfl wu rfl rfl (asg rfl) ?_
  refine Go.Sx.V rfl wu rfl rfl (asg rfl) ?_
  refine wr_nil (post_thenN (wc_seq (wc_seq ?_)))
  have hmi := hr.ints.ext hE
  refine wc_region [0] rfl ?_
  refine Go.Sx.V rfl wu rfl rfl (mv rfl) ?_
  refine wr_nil (post_thenN ?_)
  refine wc_cond rfl ?_ ?_
  · intro _
    refine wc_seq ?_
    refine wc_region [0,1] rfl ?_
    refine Go.Sx.V rfl wu rfl rfl (mv rfl) ?_
    refine Go.Sx.V rfl wu rfl rfl (asg rfl) ?_
    refine wr_nil (post_thenN (wc_ret (post_thenR ?_)))
    refine post_ret1 rfl rfl ?_
    exact ⟨hE, rfl⟩
  · intro h
    rcases hcase with hd | ⟨_, P, hp, hM, hFV, hT⟩
    · rw [hd] at h; cases h
    dsimp only at hB
    subst hp hM
    have hF := hFV _ _ hmi
    have hgen : ∃ g : K P, HasOrder g (n1 P) := ⟨_, hT.prim⟩
    have hX := Ext.refl w2
    have hord := hF.ord
    have hn1 := n1_eq (P := P)
    have h1p := n1_pos (P := P)
    have hpr := hT.prim
    have hq := hF.q
    refine wc_skip (post_thenN (wc_seq ?_))
    refine wc_region [0,1,2,3,4,5,6,7,8] rfl ?_
    refine Go.Sx.V rfl wu rfl rfl (mv rfl) ?_
    refine Go.Sx.V rfl wu rfl rfl (fad rfl fa51_2) ?_
    refine Go.Sx.V rfl wu rfl rfl (ldB rfl na3 hB) ?_
    refine C rfl wu rfl rfl Try.call28 (tLog P tv b x _ (hT.ext hX)) ?_
    rintro r w3 hE3 hr0
    obtain ⟨i, e, hre, hlg⟩ := hr0.split
    subst hre
    replace hX := hX.trans hE3
    refine Go.Sx.V rfl wu rfl rfl (mv rfl) ?_
    refine Go.Sx.V rfl wu rfl rfl (ext rfl rfl) ?_
    refine Go.Sx.V rfl wu rfl rfl (ext rfl rfl) ?_
    refine Go.Sx.V rfl wu rfl rfl (asg rfl) ?_
    refine Go.Sx.V rfl wu rfl rfl (asg rfl) ?_
    refine wr_nil (post_thenN (wc_seq ?_))
    refine wc_region [0,1,2,3,4,5,6,7,8,9,10,11] rfl ?_
    refine Go.Sx.V rfl wu rfl rfl (fad rfl fa51_0) ?_
    refine Go.Sx.V rfl wu rfl rfl (ldA rfl ag24) ?_
    refine Go.Sx.V rfl wu rfl rfl (fad rfl fa51_1) ?_
    refine Go.Sx.V rfl wu rfl rfl (ldB rfl na3 hB) ?_
    refine Go.Sx.V rfl wu rfl rfl (fad rfl fa51_2) ?_
    refine Go.Sx.V rfl wu rfl rfl (ldB rfl na3 hB) ?_
    refine C rfl wu rfl rfl Try.call25 (rSolve P mo md b x _ (hF.ext hX) hgen) ?_
    rintro r w4 hE4 hs0
    obtain ⟨n, f, hse, hsl⟩ := hs0.split
    subst hse
    replace hX := hX.trans hE4
    refine Go.Sx.V rfl wu rfl rfl (mv rfl) ?_
    refine Go.Sx.V rfl wu rfl rfl (ext rfl rfl) ?_
    refine Go.Sx.V rfl wu rfl rfl (ext rfl rfl) ?_
    refine Go.Sx.V rfl wu rfl rfl (asg rfl) ?_
    refine Go.Sx.V rfl wu rfl rfl (asg rfl) ?_
    refine wr_nil (post_thenN (wc_seq (wc_seq ?_)))
    obtain ⟨rfl, rfl⟩ := log_sol hpr hT.nz hlg hsl
    refine wc_region [0,1,2,3,4,5,6,7] rfl ?_
    refine Go.Sx.V rfl wu rfl rfl (mv rfl) ?_
    refine Go.Sx.V rfl wu rfl rfl (mv rfl) ?_
    refine Go.Sx.V rfl wu rfl rfl (neqI rfl rfl) ?_
    refine Go.Sx.V rfl wu rfl rfl (mv rfl) ?_
    refine OR (π1 := [4,5,6,7]) (π2 := []) (tc := 43) (tp := 47) rfl rfl rfl (by
        intro _
        refine SK rfl rfl rfl rfl rfl ?_
        refine SK rfl rfl rfl rfl rfl ?_
        refine SK rfl rfl rfl rfl rfl ?_
        refine Go.Sx.V rfl wu rfl rfl (pk rfl rfl) ?_
        exact join rfl) (by
        intro hg
        simp at hg
        refine Go.Sx.V rfl (wg rfl rfl) rfl rfl (mv rfl) ?_
        refine Go.Sx.V rfl (wg rfl rfl) rfl rfl (mv rfl) ?_
        refine Go.Sx.V rfl (wg rfl rfl) rfl rfl (neqI rfl rfl) ?_
        refine Go.Sx.V rfl wu rfl rfl (pk rfl rfl) ?_
        exact join rfl) ?_
    refine wr_nil (post_thenN ?_)
    refine wc_condF rfl (by simp) ?_
    refine wc_skip (post_thenN (wc_seq (wc_seq ?_)))
    have hi0 : (i : Int) % n1 P = i := by
      rcases hlg with ⟨_, _, h3⟩ | ⟨_, _, h3, _⟩
      · subst h3; simp
      · exact Int.emod_eq_of_lt (by omega) (by omega)
    refine wc_draw mixed [0,1,2,3,4,6,7,5,8,9] (by kernel_rfl) ?_
    intro w5 hd5 _
    replace hX := hX.trans hd5
    refine Go.Sx.V rfl wu rfl rfl (mv rfl) ?_
    refine Go.Sx.V rfl wu rfl rfl (eqlI rfl rfl) ?_
    refine Go.Sx.V rfl wu rfl rfl (mv rfl) ?_
    refine ANDX (π1 := [3,4,6,7,5,8,9]) (π2 := []) (tc := 50) (tp := 57) rfl rfl rfl (by
        intro hg
        simp at hg
        refine Go.Sx.V rfl (wg rfl rfl) rfl rfl (mv rfl) ?_
        refine Go.Sx.V rfl (wg rfl rfl) rfl rfl (mv rfl) ?_
        refine Go.Sx.V rfl (wg rfl rfl) rfl rfl (fad rfl fa51_2) ?_
        refine Go.Sx.V rfl (wg rfl rfl) rfl rfl (ldB rfl na3 hB) ?_
        refine C rfl (wg rfl rfl) rfl rfl Try.call29 (tExp P tv b i _ (hT.ext hX)) ?_
        rintro _ w6 hE6 rfl
        rw [hi0, Int.toNat_natCast]
        refine Go.Sx.V rfl (wg rfl rfl) rfl rfl (neqI rfl rfl) ?_
        refine Go.Sx.V rfl wu rfl rfl (pk rfl rfl) ?_
        exact joinX rfl) (by
        intro _
        refine SK rfl rfl rfl rfl rfl ?_
        refine SK rfl rfl rfl rfl rfl ?_
        refine SK rfl rfl rfl rfl rfl ?_
        refine SK rfl rfl rfl rfl rfl ?_
        refine SK rfl rfl rfl rfl rfl ?_
        refine SK rfl rfl rfl rfl rfl ?_
        refine Go.Sx.V rfl wu rfl rfl (pk rfl rfl) ?_
        exact joinX rfl) ?_
    intro w6 hE6
    replace hX := hX.trans hE6
    refine wr_nil (post_thenN ?_)
    refine wc_condF rfl ?_ ?_
    · rcases hlg with ⟨_, h2, _⟩ | ⟨h1, _, _, h4⟩
      · simp [h2]
      · have hin : 0 ≤ x ∧ x < P.q := Classical.byContradiction fun hc => h1 (inK_out hc)
        have : (npow (inK P b) i).1 = x := by rw [h4, inK_in hin]
        simp [this]
    refine wc_skip (post_thenN (wc_seq ?_))
    have hp : (powA P (inK P b) y).1 = npow (inK P b) (y % n1 P).toNat := by
      rw [powA]
      by_cases e0 : y = 0
      · subst e0; rfl
      · rw [if_neg e0, if_neg hT.nz]
    refine wc_region [0,1,2,3,4,5,6,7,8,9,10,11] rfl ?_
    refine Go.Sx.V rfl wu rfl rfl (fad rfl fa51_0) ?_
    refine Go.Sx.V rfl wu rfl rfl (ldA rfl ag24) ?_
    refine Go.Sx.V rfl wu rfl rfl (fad rfl fa51_1) ?_
    refine Go.Sx.V rfl wu rfl rfl (ldB rfl na3 hB) ?_
    refine Go.Sx.V rfl wu rfl rfl (fad rfl fa51_3) ?_
    refine Go.Sx.V rfl wu rfl rfl (ldB rfl na3 hB) ?_
    refine C rfl wu rfl rfl Try.call30 (rPow P mo md b y _ (hF.ext hX)) ?_
    rintro _ w7 hE7 rfl
    replace hX := hX.trans hE7
    rw [hp]
    refine Go.Sx.V rfl wu rfl rfl (mv rfl) ?_
    refine Go.Sx.V rfl wu rfl rfl (ext rfl rfl) ?_
    refine Go.Sx.V rfl wu rfl rfl (ext rfl rfl) ?_
    refine Go.Sx.V rfl wu rfl rfl (asg rfl) ?_
    refine Go.Sx.V rfl wu rfl rfl (asg rfl) ?_
    refine wr_nil (post_thenN (wc_seq ?_))
    refine wc_region [0,1,2,3,4,5,6] rfl ?_
    refine Go.Sx.V rfl wu rfl rfl (mv rfl) ?_
    refine Go.Sx.V rfl wu rfl rfl (fad rfl fa51_3) ?_
    refine Go.Sx.V rfl wu rfl rfl (ldB rfl na3 hB) ?_
    refine C rfl wu rfl rfl Try.call29 (tExp P tv b y _ (hT.ext hX)) ?_
    rintro _ w8 hE8 rfl
    replace hX := hX.trans hE8
    refine Go.Sx.V rfl wu rfl rfl (mv rfl) ?_
    refine Go.Sx.V rfl wu rfl rfl (eqlI rfl rfl) ?_
    refine Go.Sx.V rfl wu rfl rfl (asg rfl) ?_
    refine wr_nil (post_thenN (wc_ret ?_))
    refine post_ret1 rfl rfl ?_
    exact ⟨hE.trans hX, by simp⟩
namespace FDlogTables
open Go.ChangeShapes Go.WideShapes Go.ChangeAt Go.RowKit Go.Fr
theorem own : ownKnob Try.prog.godebug = none := by kernel_rfl
theorem laidOut : laidOutB Try.prog = true := by kernel_rfl
set_option maxRecDepth 100000 in
theorem lifted (os : Os) (started : os.Started) (H : Type) (enc : TypeId × Value → H) :
    ReturnsInHanded {} Try.checked os 9 .any (Rows.dlogTablesSpec.pre6 enc Try.prog Try.f9 Rows.dlogTablesRow.domain false) (Rows.dlogTablesSpec.post enc Try.prog Try.f9 false true false false) := by
  refine returnsInHanded_of_change_sized (C := Try.checked) own started (by kernel_rfl) Try.func9
    (ChangeSpec.witness6 (enc := enc) (C := Try.checked) false ⟨#[], #[.agg #[.int .i64 0, .int .i64 0, .slice none 0 0, .int .i64 0, .int .i64 0, .int .i64 0]], []⟩ 8 (by kernel_rfl) (by kernel_rfl) (by kernel_rfl) (by kernel_rfl)) ?_
  intro W base args ds gs before hval0 hW _ hsz0 _
  have hval : ∀ (j : Nat) t v, Try.f9.params[j]? = some t → args[j]? = some v → Value.okWide Try.prog W .any base t v := hval0
  have hW' := hW
  obtain ⟨p, q, hA0, hV, rfl, hfz, hnd⟩ := hW
  have hA : DataW.TrodAll enc Try.prog W 0 (fun _ => true) true Try.f9.params.toList args.toList ds p := hA0
  have hsz : (DataW.weightsEach Try.prog (Try.f9.params.toList ++ Rows.dlogTablesSpec.plain.varTypes Try.prog) (ds ++ gs)).all (· ≤ reachBytes) = true := hsz0
  rw [Try.params9] at hA hval hsz
  obtain ⟨v0, vs0, d0, ds0, p0, q0, hargs, rfl, rfl, h0, r0⟩ := trodAll_cons hA
  obtain ⟨rfl, rfl, rfl⟩ := trodAll_nil r0
  obtain rfl : args = #[v0] := by cases args; simp_all
  obtain ⟨rfl, rfl⟩ := trodVars_none hV
  have k0 := h0
  have lt0 : ∀ x ∈ p0, x.block < W.heap.size := by obtain ⟨m, hm⟩ := k0; exact DataW.trod_lt m _ _ _ hm
  have w0 : WOK Try.prog 51 d0 := wok_arg hsz (j := 0) rfl rfl
  obtain ⟨x0, s0⟩ := op_base (hval 0 51 v0 rfl rfl) h0 w0
  refine (law_DlogTables (w := W) v0 x0 s0).mono fun e W' he => ?_
  cases e with
  | panicked c => exact he.elim
  | outgrown => exact he.elim
  | returned v =>
    obtain ⟨bel, rfl⟩ := he
    exact ⟨_, rfl, _, _, _, [], _, [], hW', trodAll_mk1 (shut_bool Try.underlying4 _), (trodAll_cons_mk (Below.trod laidOut (by kernel_rfl) (of_decide_eq_true (by kernel_rfl)) k0 bel lt0) trodAll_mk0), rfl, bel.frame _, fun h => by cases h⟩
theorem over : Rows.dlogTablesRow.holds Try.pinned (OpenSpec.ofChange Rows.dlogTablesSpec) :=
  OpenClaim.holds_of_wide 9 Try.f9 rfl rfl rfl rfl rfl rfl rfl ⟨rfl, rfl, rfl, rfl, rfl⟩ rfl rfl rfl rfl rfl (by kernel_rfl) Try.func9 (by kernel_rfl)
    (of_decide_eq_true (by kernel_rfl)) (by unfold Func.isWrapper; first | (rw [if_pos (by decide +kernel)]; kernel_rfl) | (rw [if_neg (by decide +kernel)]; exact ⟨rfl, rfl⟩))
    (fun os started H enc _ => lifted os started H enc)
end FDlogTables
/-- The statement. -/
theorem dlogTables_holds : Rows.DlogTablesSaid := FDlogTables.over

set_option maxRecDepth 10000 in
theorem law_DlogProducts {w : World} (v0 : Value) (r : BRec) (s0 : v0 = r.v ∧ BOf w r) :
    Calls Try.prog 10 #[v0] w (RetX w fun v _ => v = .bool true) := by
  obtain ⟨⟨p, M, mo, md⟩, b, x, y⟩ := r
  obtain ⟨rfl, hr, bb, bx, bY⟩ := s0
  dsimp only at hr bb bx bY
  refine calls1 Try.func10 rfl rfl ?_
  refine wc_seq ?_
  refine wc_region [0,1] rfl ?_
  refine BXA rfl wu rfl rfl ?_
  intro fb w1 hE hB hg
  refine Go.Sx.V rfl wu rfl rfl (asg rfl) ?_
  refine wr_nil (post_thenN (wc_seq ?_))
  refine wc_region [0,1,2,3,4,5,6,7,8,9,10,11] rfl ?_
  refine Go.Sx.V rfl wu rfl rfl (fad rfl fa51_0) ?_
  refine Go.Sx.V rfl wu rfl rfl (ldA rfl ag24) ?_
  refine Go.Sx.V rfl wu rfl rfl (fad rfl fa51_1) ?_
  refine Go.Sx.V rfl wu rfl rfl (ldB rfl na3 hB) ?_
  refine C rfl wu rfl rfl Try.call27 (lTable ⟨p, M, mo, md⟩ b _ (hr.ints.ext hE)) ?_
  rintro ov w2 hE2 ht0
  replace hB := hB.ext hE2
  replace hE := hE.trans hE2
  obtain ⟨tv, dn, hte, hcase⟩ := tab_split ht0
  subst hte
  refine Go.Sx.V rfl wu rfl rfl (mv rfl) ?_
  refine Go.Sx.V rfl wu rfl rfl (ext rfl rfl) ?_
  refine Go.Sx.V rfl wu rfl rfl (ext rfl rfl) ?_
  refine Go.Sx.V rfl wu rfl rfl (ext rfl rfl) ?_
  refine Go.Sx.V rfl wu rfl rfl (asg rfl) ?_
  refine Go.Sx.V rfl wu rfl rfl (asg rfl) ?_
  refine Go.Sx.V rfl wu rfl rfl (asg rfl) ?_
  refine wr_nil (post_thenN (wc_seq (wc_seq ?_)))
  have hmi := hr.ints.ext hE
  refine wc_region [0] rfl ?_
  refine Go.Sx.V rfl wu rfl rfl (mv rfl) ?_
  refine wr_nil (post_thenN ?_)
  refine wc_cond rfl ?_ ?_
  · intro _
    refine wc_seq ?_
    refine wc_region [0,1] rfl ?_
    refine Go.Sx.V rfl wu rfl rfl (mv rfl) ?_
    refine Go.Sx.V rfl wu rfl rfl (asg rfl) ?_
    refine wr_nil (post_thenN (wc_ret (post_thenR ?_)))
    refine post_ret1 rfl rfl ?_
    exact ⟨hE, rfl⟩
  · intro h
    rcases hcase with hd | ⟨_, P, hp, hM, hFV, hT⟩
    · rw [hd] at h; cases h
    dsimp only at hB
    subst hp hM
    have hF := hFV _ _ hmi
    have hgen : ∃ g : K P, HasOrder g (n1 P) := ⟨_, hT.prim⟩
    have hX := Ext.refl w2
    have hord := hF.ord
    have hn1 := n1_eq (P := P)
    have h1p := n1_pos (P := P)
    have hpr := hT.prim
    have hq := hF.q
    refine wc_skip (post_thenN (wc_seq ?_))
    refine wc_region [0,1,2,3,4,5,6] rfl ?_
    refine Go.Sx.V rfl wu rfl rfl (mv rfl) ?_
    refine Go.Sx.V rfl wu rfl rfl (fad rfl fa51_2) ?_
    refine Go.Sx.V rfl wu rfl rfl (ldB rfl na3 hB) ?_
    refine Go.Sx.V rfl wu rfl rfl (fad rfl fa51_3) ?_
    refine Go.Sx.V rfl wu rfl rfl (ldB rfl na3 hB) ?_
    refine C rfl wu rfl rfl Try.call31 (tMul P tv b x y _ (hT.ext hX)) ?_
    rintro _ w3 hE3 rfl
    replace hX := hX.trans hE3
    refine Go.Sx.V rfl wu rfl rfl (asg rfl) ?_
    refine wr_nil (post_thenN (wc_seq (wc_seq ?_)))
    refine wc_region [0,1,2,3,4,5,6,7,8] rfl ?_
    refine Go.Sx.V rfl wu rfl rfl (mv rfl) ?_
    refine Go.Sx.V rfl wu rfl rfl (fad rfl fa51_0) ?_
    refine Go.Sx.V rfl wu rfl rfl (ldA rfl ag24) ?_
    refine Go.Sx.V rfl wu rfl rfl (fad rfl fa51_2) ?_
    refine Go.Sx.V rfl wu rfl rfl (ldB rfl na3 hB) ?_
    refine Go.Sx.V rfl wu rfl rfl (fad rfl fa51_3) ?_
    refine Go.Sx.V rfl wu rfl rfl (ldB rfl na3 hB) ?_
    refine C rfl wu rfl rfl Try.call32 (rMul P mo md x y _ (hF.ext hX)) ?_
    rintro _ w4 hE4 rfl
    replace hX := hX.trans hE4
    refine Go.Sx.V rfl wu rfl rfl (neqI rfl rfl) ?_
    refine wr_nil (post_thenN ?_)
    refine wc_condF rfl (by simp) ?_
    refine wc_skip (post_thenN (wc_seq ?_))
    refine wc_region [0,1,2,3,4] rfl ?_
    refine Go.Sx.V rfl wu rfl rfl (fad rfl fa51_0) ?_
    refine Go.Sx.V rfl wu rfl rfl (ldA rfl ag24 hB) ?_
    refine C rfl wu rfl rfl Try.call33 (rOrder P.p P.M mo _) ?_
    rintro _ w5 hE5 rfl
    rw [hord]
    replace hX := hX.trans hE5
    refine Go.Sx.V rfl wu rfl rfl (subI rfl rfl) ?_
    refine Go.Sx.V rfl wu rfl rfl (asg rfl) ?_
    refine wr_nil (post_thenN (wc_seq ?_))
    refine wc_region [0,1,2,3,4,5,6,7,8] rfl ?_
    refine Go.Sx.V rfl wu rfl rfl (mv rfl) ?_
    refine Go.Sx.V rfl wu rfl rfl (fad rfl fa51_2) ?_
    refine Go.Sx.V rfl wu rfl rfl (ldB rfl na3 hB) ?_
    refine C rfl wu rfl rfl Try.call28 (tLog P tv b x _ (hT.ext hX)) ?_
    rintro r w6 hE6 hr0
    obtain ⟨i, e, hre, hlx⟩ := hr0.split
    subst hre
    replace hX := hX.trans hE6
    refine Go.Sx.V rfl wu rfl rfl (mv rfl) ?_
    refine Go.Sx.V rfl wu rfl rfl (ext rfl rfl) ?_
    refine Go.Sx.V rfl wu rfl rfl (ext rfl rfl) ?_
    refine Go.Sx.V rfl wu rfl rfl (asg rfl) ?_
    refine Go.Sx.V rfl wu rfl rfl (asg rfl) ?_
    refine wr_nil (post_thenN (wc_seq ?_))
    refine wc_region [0,1,2,3,4,5,6,7,8] rfl ?_
    refine Go.Sx.V rfl wu rfl rfl (mv rfl) ?_
    refine Go.Sx.V rfl wu rfl rfl (fad rfl fa51_3) ?_
    refine Go.Sx.V rfl wu rfl rfl (ldB rfl na3 hB) ?_
    refine C rfl wu rfl rfl Try.call28 (tLog P tv b y _ (hT.ext hX)) ?_
    rintro r w7 hE7 hr1
    obtain ⟨j, f, hre1, hly⟩ := hr1.split
    subst hre1
    replace hX := hX.trans hE7
    refine Go.Sx.V rfl wu rfl rfl (mv rfl) ?_
    refine Go.Sx.V rfl wu rfl rfl (ext rfl rfl) ?_
    refine Go.Sx.V rfl wu rfl rfl (ext rfl rfl) ?_
    refine Go.Sx.V rfl wu rfl rfl (asg rfl) ?_
    refine Go.Sx.V rfl wu rfl rfl (asg rfl) ?_
    refine wr_nil (post_thenN (wc_seq ?_))
    refine wc_region [0,1,2,3,4,5,6,7] rfl ?_
    refine Go.Sx.V rfl wu rfl rfl (mv rfl) ?_
    refine Go.Sx.V rfl wu rfl rfl (mv rfl) ?_
    refine C rfl wu rfl rfl Try.call28 (tLog P tv b _ _ (hT.ext hX)) ?_
    rintro r w8 hE8 hr2
    rw [inK_val] at hr2
    obtain ⟨k, g, hre2, hlz⟩ := hr2.split
    subst hre2
    replace hX := hX.trans hE8
    refine Go.Sx.V rfl wu rfl rfl (mv rfl) ?_
    refine Go.Sx.V rfl wu rfl rfl (ext rfl rfl) ?_
    refine Go.Sx.V rfl wu rfl rfl (ext rfl rfl) ?_
    refine Go.Sx.V rfl wu rfl rfl (asg rfl) ?_
    refine Go.Sx.V rfl wu rfl rfl (asg rfl) ?_
    refine wr_nil (post_thenN (wc_seq (wc_seq ?_)))
    clear hr0 hr1 hr2
    have hi : i < n1 P := by rcases hlx with ⟨_, _, h⟩ | ⟨_, _, h, _⟩ <;> omega
    have hj : j < n1 P := by rcases hly with ⟨_, _, h⟩ | ⟨_, _, h, _⟩ <;> omega
    refine wc_region [0,1,2,3,4,5] rfl ?_
    refine Go.Sx.V rfl wu rfl rfl (mv rfl) ?_
    refine Go.Sx.V rfl wu rfl rfl (neqI rfl rfl) ?_
    refine Go.Sx.V rfl wu rfl rfl (mv rfl) ?_
    refine OR (π1 := [3,4,5]) (π2 := []) (tc := 66) (tp := 69) rfl rfl rfl (by
        intro _
        refine SK rfl rfl rfl rfl rfl ?_
        refine SK rfl rfl rfl rfl rfl ?_
        refine Go.Sx.V rfl wu rfl rfl (pk rfl rfl) ?_
        exact join rfl) (by
        intro hg
        simp at hg
        refine Go.Sx.V rfl (wg rfl rfl) rfl rfl (mv rfl) ?_
        refine Go.Sx.V rfl (wg rfl rfl) rfl rfl (neqI rfl rfl) ?_
        refine Go.Sx.V rfl wu rfl rfl (pk rfl rfl) ?_
        exact join rfl) ?_
    refine wr_nil (post_thenN ?_)
    refine wc_cond rfl ?_ ?_
    · intro hc
      simp at hc
      have hg : g = 7 := by
        have hz : inK P x * inK P y = 0 := by
          rcases hlx with ⟨h1, _⟩ | ⟨_, h1, _⟩
          · rw [h1, zero_mul]
          · rcases hly with ⟨h2, _⟩ | ⟨_, h2, _⟩
            · rw [h2, mul_zero]
            · omega
        rcases hlz with ⟨_, h3, _⟩ | ⟨h3, _⟩
        · exact h3
        · exact absurd hz h3
      have he : e = 0 ∨ e = 7 := by rcases hlx with ⟨_, h, _⟩ | ⟨_, h, _⟩ <;> omega
      have hf : f = 0 ∨ f = 7 := by rcases hly with ⟨_, h, _⟩ | ⟨_, h, _⟩ <;> omega
      refine wc_seq ?_
      subst hg
      clear hlx hly hlz hc
      rcases he with rfl | rfl <;> rcases hf with rfl | rfl
      · skip
        refine wc_region [0,1,2,3,4,5,6,7,8,9,10,11,12,13,14,15,16,17,18] rfl ?_
        refine Go.Sx.V rfl wu rfl rfl (mv rfl) ?_
        refine Go.Sx.V rfl wu rfl rfl (eqlI rfl rfl) ?_
        refine Go.Sx.V rfl wu rfl rfl (mv rfl) ?_
        refine KB 72 true rfl (by simp) ?_
        refine Go.Sx.V rfl (wg rfl rfl) rfl rfl (mv rfl) ?_
        refine Go.Sx.V rfl (wg rfl rfl) rfl rfl (eqlI rfl rfl) ?_
        refine Go.Sx.V rfl (wg rfl rfl) rfl rfl (mv rfl) ?_
        refine KB 75 true rfl (by simp) ?_
        refine SK rfl rfl rfl rfl rfl ?_
        refine SK rfl rfl rfl rfl rfl ?_
        refine Go.Sx.V rfl (wg rfl rfl) rfl rfl (pk rfl rfl) ?_
        refine Go.Sx.V rfl wu rfl rfl (pk rfl rfl) ?_
        refine Go.Sx.V rfl wu rfl rfl (mv rfl) ?_
        refine KB 80 true rfl (by simp) ?_
        refine Go.Sx.V rfl (wg rfl rfl) rfl rfl (mv rfl) ?_
        refine Go.Sx.V rfl (wg rfl rfl) rfl rfl (eqlI rfl rfl) ?_
        refine Go.Sx.V rfl (wg rfl rfl) rfl rfl (mv rfl) ?_
        refine KB 83 true rfl (by simp) ?_
        refine SK rfl rfl rfl rfl rfl ?_
        refine SK rfl rfl rfl rfl rfl ?_
        refine Go.Sx.V rfl (wg rfl rfl) rfl rfl (pk rfl rfl) ?_
        refine Go.Sx.V rfl wu rfl rfl (pk rfl rfl) ?_
        refine Go.Sx.V rfl wu rfl rfl (asg rfl) ?_
        refine wr_nil (post_thenN (wc_ret (post_thenR ?_)))
        refine post_ret1 rfl rfl ?_
        exact ⟨hE.trans hX, by simp⟩
      · skip
        refine wc_region [0,1,2,3,4,5,6,7,8,9,10,11,12,13,14,15,16,17,18] rfl ?_
        refine Go.Sx.V rfl wu rfl rfl (mv rfl) ?_
        refine Go.Sx.V rfl wu rfl rfl (eqlI rfl rfl) ?_
        refine Go.Sx.V rfl wu rfl rfl (mv rfl) ?_
        refine KB 72 true rfl (by simp) ?_
        refine Go.Sx.V rfl (wg rfl rfl) rfl rfl (mv rfl) ?_
        refine Go.Sx.V rfl (wg rfl rfl) rfl rfl (eqlI rfl rfl) ?_
        refine Go.Sx.V rfl (wg rfl rfl) rfl rfl (mv rfl) ?_
        refine KB 75 true rfl (by simp) ?_
        refine SK rfl rfl rfl rfl rfl ?_
        refine SK rfl rfl rfl rfl rfl ?_
        refine Go.Sx.V rfl (wg rfl rfl) rfl rfl (pk rfl rfl) ?_
        refine Go.Sx.V rfl wu rfl rfl (pk rfl rfl) ?_
        refine Go.Sx.V rfl wu rfl rfl (mv rfl) ?_
        refine KB 80 true rfl (by simp) ?_
        refine Go.Sx.V rfl (wg rfl rfl) rfl rfl (mv rfl) ?_
        refine Go.Sx.V rfl (wg rfl rfl) rfl rfl (eqlI rfl rfl) ?_
        refine Go.Sx.V rfl (wg rfl rfl) rfl rfl (mv rfl) ?_
        refine KB 83 false rfl (by simp) ?_
        refine Go.Sx.V rfl (wg rfl rfl) rfl rfl (mv rfl) ?_
        refine Go.Sx.V rfl (wg rfl rfl) rfl rfl (eqlI rfl rfl) ?_
        refine Go.Sx.V rfl (wg rfl rfl) rfl rfl (pk rfl rfl) ?_
        refine Go.Sx.V rfl wu rfl rfl (pk rfl rfl) ?_
        refine Go.Sx.V rfl wu rfl rfl (asg rfl) ?_
        refine wr_nil (post_thenN (wc_ret (post_thenR ?_)))
        refine post_ret1 rfl rfl ?_
        exact ⟨hE.trans hX, by simp⟩
      · skip
        refine wc_region [0,1,2,3,4,5,6,7,8,9,10,11,12,13,14,15,16,17,18] rfl ?_
        refine Go.Sx.V rfl wu rfl rfl (mv rfl) ?_
        refine Go.Sx.V rfl wu rfl rfl (eqlI rfl rfl) ?_
        refine Go.Sx.V rfl wu rfl rfl (mv rfl) ?_
        refine KB 72 true rfl (by simp) ?_
        refine Go.Sx.V rfl (wg rfl rfl) rfl rfl (mv rfl) ?_
        refine Go.Sx.V rfl (wg rfl rfl) rfl rfl (eqlI rfl rfl) ?_
        refine Go.Sx.V rfl (wg rfl rfl) rfl rfl (mv rfl) ?_
        refine KB 75 false rfl (by simp) ?_
        refine Go.Sx.V rfl (wg rfl rfl) rfl rfl (mv rfl) ?_
        refine Go.Sx.V rfl (wg rfl rfl) rfl rfl (eqlI rfl rfl) ?_
        refine Go.Sx.V rfl (wg rfl rfl) rfl rfl (pk rfl rfl) ?_
        refine Go.Sx.V rfl wu rfl rfl (pk rfl rfl) ?_
        refine Go.Sx.V rfl wu rfl rfl (mv rfl) ?_
        refine KB 80 true rfl (by simp) ?_
        refine Go.Sx.V rfl (wg rfl rfl) rfl rfl (mv rfl) ?_
        refine Go.Sx.V rfl (wg rfl rfl) rfl rfl (eqlI rfl rfl) ?_
        refine Go.Sx.V rfl (wg rfl rfl) rfl rfl (mv rfl) ?_
        refine KB 83 true rfl (by simp) ?_
        refine SK rfl rfl rfl rfl rfl ?_
        refine SK rfl rfl rfl rfl rfl ?_
        refine Go.Sx.V rfl (wg rfl rfl) rfl rfl (pk rfl rfl) ?_
        refine Go.Sx.V rfl wu rfl rfl (pk rfl rfl) ?_
        refine Go.Sx.V rfl wu rfl rfl (asg rfl) ?_
        refine wr_nil (post_thenN (wc_ret (post_thenR ?_)))
        refine post_ret1 rfl rfl ?_
        exact ⟨hE.trans hX, by simp⟩
      · skip
        refine wc_region [0,1,2,3,4,5,6,7,8,9,10,11,12,13,14,15,16,17,18] rfl ?_
        refine Go.Sx.V rfl wu rfl rfl (mv rfl) ?_
        refine Go.Sx.V rfl wu rfl rfl (eqlI rfl rfl) ?_
        refine Go.Sx.V rfl wu rfl rfl (mv rfl) ?_
        refine KB 72 true rfl (by simp) ?_
        refine Go.Sx.V rfl (wg rfl rfl) rfl rfl (mv rfl) ?_
        refine Go.Sx.V rfl (wg rfl rfl) rfl rfl (eqlI rfl rfl) ?_
        refine Go.Sx.V rfl (wg rfl rfl) rfl rfl (mv rfl) ?_
        refine KB 75 false rfl (by simp) ?_
        refine Go.Sx.V rfl (wg rfl rfl) rfl rfl (mv rfl) ?_
        refine Go.Sx.V rfl (wg rfl rfl) rfl rfl (eqlI rfl rfl) ?_
        refine Go.Sx.V rfl (wg rfl rfl) rfl rfl (pk rfl rfl) ?_
        refine Go.Sx.V rfl wu rfl rfl (pk rfl rfl) ?_
        refine Go.Sx.V rfl wu rfl rfl (mv rfl) ?_
        refine KB 80 true rfl (by simp) ?_
        refine Go.Sx.V rfl (wg rfl rfl) rfl rfl (mv rfl) ?_
        refine Go.Sx.V rfl (wg rfl rfl) rfl rfl (eqlI rfl rfl) ?_
        refine Go.Sx.V rfl (wg rfl rfl) rfl rfl (mv rfl) ?_
        refine KB 83 false rfl (by simp) ?_
        refine Go.Sx.V rfl (wg rfl rfl) rfl rfl (mv rfl) ?_
        refine Go.Sx.V rfl (wg rfl rfl) rfl rfl (eqlI rfl rfl) ?_
        refine Go.Sx.V rfl (wg rfl rfl) rfl rfl (pk rfl rfl) ?_
        refine Go.Sx.V rfl wu rfl rfl (pk rfl rfl) ?_
        refine Go.Sx.V rfl wu rfl rfl (asg rfl) ?_
        refine wr_nil (post_thenN (wc_ret (post_thenR ?_)))
        refine post_ret1 rfl rfl ?_
        exact ⟨hE.trans hX, by simp⟩
    · intro hc
      simp at hc
      rcases hlx with ⟨_, h, _⟩ | ⟨hx0, _, _, ex⟩
      · omega
      rcases hly with ⟨_, h, _⟩ | ⟨hy0, _, _, ey⟩
      · omega
      have hk : g = 0 ∧ (k : Int) = ((i : Int) + j) % (P.q - 1) := by
        have hz : inK P x * inK P y ≠ 0 := fun hz => by
          rcases no_zero_div hpr hz with h | h
          · exact hx0 h
          · exact hy0 h
        rcases hlz with ⟨h, _⟩ | ⟨_, h2, h3, h4⟩
        · exact absurd h hz
        · refine ⟨h2, ?_⟩
          rw [← ex, ← ey, ← npow_add, npow_mod hpr.2.1 (i + j)] at h4
          have hm := Nat.mod_lt (i + j) hpr.1
          have := pow_inj hpr h3 hm h4
          rw [this, ← hn1, ← Int.natCast_add, ← Int.natCast_emod]
      refine wc_skip (post_thenN (wc_seq ?_))
      refine wc_region [0,1,2,3,4,5,6,7,8,9,10,11] rfl ?_
      refine Go.Sx.V rfl wu rfl rfl (mv rfl) ?_
      refine Go.Sx.V rfl wu rfl rfl (eqlI rfl rfl) ?_
      refine Go.Sx.V rfl wu rfl rfl (mv rfl) ?_
      refine AND (π1 := [3,4,5,6,7,8,9,10]) (π2 := [11]) (tc := 90) (tp := 98) rfl rfl rfl (by
          intro hg
          simp at hg
          refine Go.Sx.V rfl (wg rfl rfl) rfl rfl (mv rfl) ?_
          refine Go.Sx.V rfl (wg rfl rfl) rfl rfl (mv rfl) ?_
          refine Go.Sx.V rfl (wg rfl rfl) rfl rfl (mv rfl) ?_
          refine Go.Sx.V rfl (wg rfl rfl) rfl rfl (addI rfl rfl) ?_
          refine Go.Sx.V rfl (wg rfl rfl) rfl rfl (mv rfl) ?_
          refine Go.Sx.V rfl (wg rfl rfl) rfl rfl (remI rfl rfl) ?_
          refine Go.Sx.V rfl (wg rfl rfl) rfl rfl (eqlI rfl rfl) ?_
          refine Go.Sx.V rfl wu rfl rfl (pk rfl rfl) ?_
          exact join rfl) (by
          intro _
          refine SK rfl rfl rfl rfl rfl ?_
          refine SK rfl rfl rfl rfl rfl ?_
          refine SK rfl rfl rfl rfl rfl ?_
          refine SK rfl rfl rfl rfl rfl ?_
          refine SK rfl rfl rfl rfl rfl ?_
          refine SK rfl rfl rfl rfl rfl ?_
          refine SK rfl rfl rfl rfl rfl ?_
          refine Go.Sx.V rfl wu rfl rfl (pk rfl rfl) ?_
          exact join rfl) ?_
      refine Go.Sx.V rfl wu rfl rfl (asg rfl) ?_
      refine wr_nil (post_thenN (wc_ret ?_))
      refine post_ret1 rfl rfl ?_
      exact ⟨hE.trans hX, by simp [hk.1, hk.2]⟩
namespace FDlogProducts
open Go.ChangeShapes Go.WideShapes Go.ChangeAt Go.RowKit Go.Fr
theorem own : ownKnob Try.prog.godebug = none := by kernel_rfl
theorem laidOut : laidOutB Try.prog = true := by kernel_rfl
set_option maxRecDepth 100000 in
theorem lifted (os : Os) (started : os.Started) (H : Type) (enc : TypeId × Value → H) :
    ReturnsInHanded {} Try.checked os 10 .any (Rows.dlogProductsSpec.pre6 enc Try.prog Try.f10 Rows.dlogProductsRow.domain false) (Rows.dlogProductsSpec.post enc Try.prog Try.f10 false true false false) := by
  refine returnsInHanded_of_change_sized (C := Try.checked) own started (by kernel_rfl) Try.func10
    (ChangeSpec.witness6 (enc := enc) (C := Try.checked) false ⟨#[], #[.agg #[.int .i64 0, .int .i64 0, .slice none 0 0, .int .i64 0, .int .i64 0, .int .i64 0]], []⟩ 8 (by kernel_rfl) (by kernel_rfl) (by kernel_rfl) (by kernel_rfl)) ?_
  intro W base args ds gs before hval0 hW _ hsz0 _
  have hval : ∀ (j : Nat) t v, Try.f10.params[j]? = some t → args[j]? = some v → Value.okWide Try.prog W .any base t v := hval0
  have hW' := hW
  obtain ⟨p, q, hA0, hV, rfl, hfz, hnd⟩ := hW
  have hA : DataW.TrodAll enc Try.prog W 0 (fun _ => true) true Try.f10.params.toList args.toList ds p := hA0
  have hsz : (DataW.weightsEach Try.prog (Try.f10.params.toList ++ Rows.dlogProductsSpec.plain.varTypes Try.prog) (ds ++ gs)).all (· ≤ reachBytes) = true := hsz0
  rw [Try.params10] at hA hval hsz
  obtain ⟨v0, vs0, d0, ds0, p0, q0, hargs, rfl, rfl, h0, r0⟩ := trodAll_cons hA
  obtain ⟨rfl, rfl, rfl⟩ := trodAll_nil r0
  obtain rfl : args = #[v0] := by cases args; simp_all
  obtain ⟨rfl, rfl⟩ := trodVars_none hV
  have k0 := h0
  have lt0 : ∀ x ∈ p0, x.block < W.heap.size := by obtain ⟨m, hm⟩ := k0; exact DataW.trod_lt m _ _ _ hm
  have w0 : WOK Try.prog 51 d0 := wok_arg hsz (j := 0) rfl rfl
  obtain ⟨x0, s0⟩ := op_base (hval 0 51 v0 rfl rfl) h0 w0
  refine (law_DlogProducts (w := W) v0 x0 s0).mono fun e W' he => ?_
  cases e with
  | panicked c => exact he.elim
  | outgrown => exact he.elim
  | returned v =>
    obtain ⟨bel, rfl⟩ := he
    exact ⟨_, rfl, _, _, _, [], _, [], hW', trodAll_mk1 (shut_bool Try.underlying4 _), (trodAll_cons_mk (Below.trod laidOut (by kernel_rfl) (of_decide_eq_true (by kernel_rfl)) k0 bel lt0) trodAll_mk0), rfl, bel.frame _, fun h => by cases h⟩
theorem over : Rows.dlogProductsRow.holds Try.pinned (OpenSpec.ofChange Rows.dlogProductsSpec) :=
  OpenClaim.holds_of_wide 10 Try.f10 rfl rfl rfl rfl rfl rfl rfl ⟨rfl, rfl, rfl, rfl, rfl⟩ rfl rfl rfl rfl rfl (by kernel_rfl) Try.func10 (by kernel_rfl)
    (of_decide_eq_true (by kernel_rfl)) (by unfold Func.isWrapper; first | (rw [if_pos (by decide +kernel)]; kernel_rfl) | (rw [if_neg (by decide +kernel)]; exact ⟨rfl, rfl⟩))
    (fun os started H enc _ => lifted os started H enc)
end FDlogProducts
/-- The statement. -/
theorem dlogProducts_holds : Rows.DlogProductsSaid := FDlogProducts.over

set_option maxRecDepth 10000 in
theorem law_DlogZech {w : World} (v0 : Value) (r : BRec) (s0 : v0 = r.v ∧ BOf w r) :
    Calls Try.prog 12 #[v0] w (RetX w fun v _ => v = .bool true) := by
  obtain ⟨⟨p, M, mo, md⟩, b, x, y⟩ := r
  obtain ⟨rfl, hr, bb, bx, bY⟩ := s0
  dsimp only at hr bb bx bY
  refine calls1 Try.func12 rfl rfl ?_
  refine wc_seq ?_
  refine wc_region [0,1] rfl ?_
  refine BXA rfl wu rfl rfl ?_
  intro fb w1 hE hB hg
  refine Go.Sx.V rfl wu rfl rfl (asg rfl) ?_
  refine wr_nil (post_thenN (wc_seq ?_))
  refine wc_region [0,1,2,3,4,5,6,7,8,9,10,11] rfl ?_
  refine Go.Sx.V rfl wu rfl rfl (fad rfl fa51_0) ?_
  refine Go.Sx.V rfl wu rfl rfl (ldA rfl ag24) ?_
  refine Go.Sx.V rfl wu rfl rfl (fad rfl fa51_1) ?_
  refine Go.Sx.V rfl wu rfl rfl (ldB rfl na3 hB) ?_
  refine C rfl wu rfl rfl Try.call27 (lTable ⟨p, M, mo, md⟩ b _ (hr.ints.ext hE)) ?_
  rintro ov w2 hE2 ht0
  replace hB := hB.ext hE2
  replace hE := hE.trans hE2
  obtain ⟨tv, dn, hte, hcase⟩ := tab_split ht0
  subst hte
  refine Go.Sx.V rfl wu rfl rfl (mv rfl) ?_
  refine Go.Sx.V rfl wu rfl rfl (ext rfl rfl) ?_
  refine Go.Sx.V rfl wu rfl rfl (ext rfl rfl) ?_
  refine Go.Sx.V rfl wu rfl rfl (ext rfl rfl) ?_
  refine Go.Sx.V rfl wu rfl rfl (asg rfl) ?_
  refine Go.Sx.V rfl wu rfl rfl (asg rfl) ?_
  refine Go.Sx.V rfl wu rfl rfl (asg rfl) ?_
  refine wr_nil (post_thenN (wc_seq (wc_seq ?_)))
  have hmi := hr.ints.ext hE
  refine wc_region [0] rfl ?_
  refine Go.Sx.V rfl wu rfl rfl (mv rfl) ?_
  refine wr_nil (post_thenN ?_)
  refine wc_cond rfl ?_ ?_
  · intro _
    refine wc_seq ?_
    refine wc_region [0,1] rfl ?_
    refine Go.Sx.V rfl wu rfl rfl (mv rfl) ?_
    refine Go.Sx.V rfl wu rfl rfl (asg rfl) ?_
    refine wr_nil (post_thenN (wc_ret (post_thenR ?_)))
    refine post_ret1 rfl rfl ?_
    exact ⟨hE, rfl⟩
  · intro h
    rcases hcase with hd | ⟨_, P, hp, hM, hFV, hT⟩
    · rw [hd] at h; cases h
    dsimp only at hB
    subst hp hM
    have hF := hFV _ _ hmi
    have hgen : ∃ g : K P, HasOrder g (n1 P) := ⟨_, hT.prim⟩
    have hX := Ext.refl w2
    have hord := hF.ord
    have hn1 := n1_eq (P := P)
    have h1p := n1_pos (P := P)
    have hpr := hT.prim
    have hq := hF.q
    refine wc_skip (post_thenN (wc_seq ?_))
    refine wc_region [0,1,2,3,4,5,6,7,8] rfl ?_
    refine Go.Sx.V rfl wu rfl rfl (mv rfl) ?_
    refine Go.Sx.V rfl wu rfl rfl (fad rfl fa51_2) ?_
    refine Go.Sx.V rfl wu rfl rfl (ldB rfl na3 hB) ?_
    refine C rfl wu rfl rfl Try.call34 (tZech P tv b x _ (hT.ext hX)) ?_
    rintro r w3 hE3 hr0
    obtain ⟨i, e, hre, hlg⟩ := hr0.split
    subst hre
    replace hX := hX.trans hE3
    refine Go.Sx.V rfl wu rfl rfl (mv rfl) ?_
    refine Go.Sx.V rfl wu rfl rfl (ext rfl rfl) ?_
    refine Go.Sx.V rfl wu rfl rfl (ext rfl rfl) ?_
    refine Go.Sx.V rfl wu rfl rfl (asg rfl) ?_
    refine Go.Sx.V rfl wu rfl rfl (asg rfl) ?_
    refine wr_nil (post_thenN (wc_seq ?_))
    refine wc_region [0,1,2,3,4,5,6,7,8,9,10,11] rfl ?_
    refine Go.Sx.V rfl wu rfl rfl (fad rfl fa51_0) ?_
    refine Go.Sx.V rfl wu rfl rfl (ldA rfl ag24) ?_
    refine Go.Sx.V rfl wu rfl rfl (fad rfl fa51_1) ?_
    refine Go.Sx.V rfl wu rfl rfl (ldB rfl na3 hB) ?_
    refine Go.Sx.V rfl wu rfl rfl (fad rfl fa51_2) ?_
    refine Go.Sx.V rfl wu rfl rfl (ldB rfl na3 hB) ?_
    refine C rfl wu rfl rfl Try.call35 (rZech P mo md b x _ (hF.ext hX) hgen hT.nz) ?_
    rintro r w4 hE4 hs0
    obtain ⟨n, f, hse, hsl⟩ := hs0.split
    subst hse
    replace hX := hX.trans hE4
    refine Go.Sx.V rfl wu rfl rfl (mv rfl) ?_
    refine Go.Sx.V rfl wu rfl rfl (ext rfl rfl) ?_
    refine Go.Sx.V rfl wu rfl rfl (ext rfl rfl) ?_
    refine Go.Sx.V rfl wu rfl rfl (asg rfl) ?_
    refine Go.Sx.V rfl wu rfl rfl (asg rfl) ?_
    refine wr_nil (post_thenN (wc_seq (wc_seq ?_)))
    obtain ⟨rfl, rfl⟩ := log_sol hpr hT.nz hlg hsl
    refine wc_region [0,1,2,3,4,5,6,7] rfl ?_
    refine Go.Sx.V rfl wu rfl rfl (mv rfl) ?_
    refine Go.Sx.V rfl wu rfl rfl (mv rfl) ?_
    refine Go.Sx.V rfl wu rfl rfl (neqI rfl rfl) ?_
    refine Go.Sx.V rfl wu rfl rfl (mv rfl) ?_
    refine OR (π1 := [4,5,6,7]) (π2 := []) (tc := 41) (tp := 45) rfl rfl rfl (by
        intro _
        refine SK rfl rfl rfl rfl rfl ?_
        refine SK rfl rfl rfl rfl rfl ?_
        refine SK rfl rfl rfl rfl rfl ?_
        refine Go.Sx.V rfl wu rfl rfl (pk rfl rfl) ?_
        exact join rfl) (by
        intro hg
        simp at hg
        refine Go.Sx.V rfl (wg rfl rfl) rfl rfl (mv rfl) ?_
        refine Go.Sx.V rfl (wg rfl rfl) rfl rfl (mv rfl) ?_
        refine Go.Sx.V rfl (wg rfl rfl) rfl rfl (neqI rfl rfl) ?_
        refine Go.Sx.V rfl wu rfl rfl (pk rfl rfl) ?_
        exact join rfl) ?_
    refine wr_nil (post_thenN ?_)
    refine wc_condF rfl (by simp) ?_
    refine wc_skip (post_thenN (wc_seq ?_))
    refine wc_draw mixed [0,1,2,3,4,6,7,8,9,10,11,5,12,13,14] (by kernel_rfl) ?_
    intro w5 hd5 _
    replace hX := hX.trans hd5
    refine Go.Sx.V rfl wu rfl rfl (mv rfl) ?_
    refine Go.Sx.V rfl wu rfl rfl (fad rfl fa51_2) ?_
    refine Go.Sx.V rfl wu rfl rfl (ldB rfl na3 hB) ?_
    refine Go.Sx.V rfl wu rfl rfl (fad rfl fa51_3) ?_
    refine Go.Sx.V rfl wu rfl rfl (ldB rfl na3 hB) ?_
    refine Go.Sx.V rfl wu rfl rfl (fad rfl fa51_0) ?_
    refine Go.Sx.V rfl wu rfl rfl (ldA rfl ag24 hB) ?_
    refine Go.Sx.V rfl wu rfl rfl (fad rfl fa51_2) ?_
    refine Go.Sx.V rfl wu rfl rfl (ldB rfl na3 hB) ?_
    refine Go.Sx.V rfl wu rfl rfl (fad rfl fa51_3) ?_
    refine Go.Sx.V rfl wu rfl rfl (ldB rfl na3 hB) ?_
    refine C rfl wu rfl rfl Try.call36 (tAdd P tv b x y _ (hT.ext hX)) ?_
    rintro _ w6 hE6 rfl
    replace hX := hX.trans hE6
    refine C rfl wu rfl rfl Try.call37 (rAdd P mo md x y _ (hF.ext hX)) ?_
    rintro _ w7 hE7 rfl
    replace hX := hX.trans hE7
    refine Go.Sx.V rfl wu rfl rfl (eqlI rfl rfl) ?_
    refine Go.Sx.V rfl wu rfl rfl (asg rfl) ?_
    refine wr_nil (post_thenN (wc_ret ?_))
    refine post_ret1 rfl rfl ?_
    exact ⟨hE.trans hX, by simp⟩
namespace FDlogZech
open Go.ChangeShapes Go.WideShapes Go.ChangeAt Go.RowKit Go.Fr
theorem own : ownKnob Try.prog.godebug = none := by kernel_rfl
theorem laidOut : laidOutB Try.prog = true := by kernel_rfl
set_option maxRecDepth 100000 in
theorem lifted (os : Os) (started : os.Started) (H : Type) (enc : TypeId × Value → H) :
    ReturnsInHanded {} Try.checked os 12 .any (Rows.dlogZechSpec.pre6 enc Try.prog Try.f12 Rows.dlogZechRow.domain false) (Rows.dlogZechSpec.post enc Try.prog Try.f12 false true false false) := by
  refine returnsInHanded_of_change_sized (C := Try.checked) own started (by kernel_rfl) Try.func12
    (ChangeSpec.witness6 (enc := enc) (C := Try.checked) false ⟨#[], #[.agg #[.int .i64 0, .int .i64 0, .slice none 0 0, .int .i64 0, .int .i64 0, .int .i64 0]], []⟩ 8 (by kernel_rfl) (by kernel_rfl) (by kernel_rfl) (by kernel_rfl)) ?_
  intro W base args ds gs before hval0 hW _ hsz0 _
  have hval : ∀ (j : Nat) t v, Try.f12.params[j]? = some t → args[j]? = some v → Value.okWide Try.prog W .any base t v := hval0
  have hW' := hW
  obtain ⟨p, q, hA0, hV, rfl, hfz, hnd⟩ := hW
  have hA : DataW.TrodAll enc Try.prog W 0 (fun _ => true) true Try.f12.params.toList args.toList ds p := hA0
  have hsz : (DataW.weightsEach Try.prog (Try.f12.params.toList ++ Rows.dlogZechSpec.plain.varTypes Try.prog) (ds ++ gs)).all (· ≤ reachBytes) = true := hsz0
  rw [Try.params12] at hA hval hsz
  obtain ⟨v0, vs0, d0, ds0, p0, q0, hargs, rfl, rfl, h0, r0⟩ := trodAll_cons hA
  obtain ⟨rfl, rfl, rfl⟩ := trodAll_nil r0
  obtain rfl : args = #[v0] := by cases args; simp_all
  obtain ⟨rfl, rfl⟩ := trodVars_none hV
  have k0 := h0
  have lt0 : ∀ x ∈ p0, x.block < W.heap.size := by obtain ⟨m, hm⟩ := k0; exact DataW.trod_lt m _ _ _ hm
  have w0 : WOK Try.prog 51 d0 := wok_arg hsz (j := 0) rfl rfl
  obtain ⟨x0, s0⟩ := op_base (hval 0 51 v0 rfl rfl) h0 w0
  refine (law_DlogZech (w := W) v0 x0 s0).mono fun e W' he => ?_
  cases e with
  | panicked c => exact he.elim
  | outgrown => exact he.elim
  | returned v =>
    obtain ⟨bel, rfl⟩ := he
    exact ⟨_, rfl, _, _, _, [], _, [], hW', trodAll_mk1 (shut_bool Try.underlying4 _), (trodAll_cons_mk (Below.trod laidOut (by kernel_rfl) (of_decide_eq_true (by kernel_rfl)) k0 bel lt0) trodAll_mk0), rfl, bel.frame _, fun h => by cases h⟩
theorem over : Rows.dlogZechRow.holds Try.pinned (OpenSpec.ofChange Rows.dlogZechSpec) :=
  OpenClaim.holds_of_wide 12 Try.f12 rfl rfl rfl rfl rfl rfl rfl ⟨rfl, rfl, rfl, rfl, rfl⟩ rfl rfl rfl rfl rfl (by kernel_rfl) Try.func12 (by kernel_rfl)
    (of_decide_eq_true (by kernel_rfl)) (by unfold Func.isWrapper; first | (rw [if_pos (by decide +kernel)]; kernel_rfl) | (rw [if_neg (by decide +kernel)]; exact ⟨rfl, rfl⟩))
    (fun os started H enc _ => lifted os started H enc)
end FDlogZech
/-- The statement. -/
theorem dlogZech_holds : Rows.DlogZechSaid := FDlogZech.over
end Go.Proofs.Ytmookiiehfdloaa
