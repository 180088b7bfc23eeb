/-
  Chapter 8's way into its laws: the arguments' types, and 'open', by contract.
-/
import Derived.Test.YtmookiiehfdloaaFrame2
import Derived.Test.YtmookiiehfdloaaRef4
import Derived.Test.YtmookiiehfdloaaGF1
import Derived.Test.YtmookiiehfdloaaDlog1
namespace Go.Proofs.Ytmookiiehfdloaa
open Go Go.Sx Go.Pl Go.RowKit Go.Fd Go.Alg Go.Fr
theorem ft : FT Try.prog 24 := ⟨⟨_, _, _, 3, Try.underlying24, by kernel_rfl, rfl, rfl, rfl, by kernel_rfl, by kernel_rfl, by kernel_rfl, Try.underlying3, Try.underlying3, Try.underlying22, Try.underlying3, by kernel_rfl, by kernel_rfl⟩⟩
theorem op_field {H : Type} {enc : TypeId × Value → H} {w : World} {base : Nat} {spare : Nat → Bool} {held : Bool} {d : DataW H} {ps : List MemPlace} {r : Reach} {b0 : Nat} {v : Value} (hval : Value.okWide Try.prog w r b0 24 v)
    (hd : DataW.Trod enc Try.prog w base spare held 24 v d ps) (hw : WOK Try.prog 24 d) : ∃ r : FRec, v = r.v ∧ FOf w r := op_fieldT ft hval hd hw
theorem okf_fv {p M : Int} {md : List Int} (h : OkF p M md) {w : World} {mo : Value} (hi : Ints w mo md) : FV w (fpOf p M md h.1.1 h.1.2.1) mo md := by
  have hS := h.1
  obtain ⟨eo, eo0, hp⟩ := ordZ_eq hS.1 hS.2.1 hS.2.2.1 hS.2.2.2.1
  refine ⟨hi, hp, by have := hS.2.2.1; show M.toNat ≤ 8; omega, hS.2.2.2.1, rfl, fun h1 => hS.2.2.2.2.2.1 (by have : M.toNat = 1 := h1; omega), fun h1 => ?_, ?_⟩
  · have h1' : ¬ M.toNat = 1 := h1
    have := (hS.2.2.2.2.2.2 (by omega)).1
    show md.length = M.toNat
    omega
  · show Lo p md
    by_cases h1 : M = 1
    · rw [hS.2.2.2.2.2.1 h1]; intro z hz; cases hz
    · exact (hS.2.2.2.2.2.2 h1).2
theorem new_split {p M : Int} {md : List Int} {w' : World} {v : Value} (h : (v = .tuple #[.pointer none, .int .i64 1] ∧ ¬ OkF p M md) ∨ (∃ h : OkF p M md, ∃ g, v = .tuple #[g, .int .i64 0] ∧ GFV w' (fpOf p M md h.1.1 h.1.2.1) g)) :
    ∃ gv ec, v = .tuple #[gv, .int .i64 ec] ∧ ((ec = 1 ∧ ¬ OkF p M md) ∨ (ec = 0 ∧ ∃ h : OkF p M md, GFV w' (fpOf p M md h.1.1 h.1.2.1) gv)) := by
  rcases h with ⟨h1, h2⟩ | ⟨h, g, h1, h2⟩
  · exact ⟨_, _, h1, .inl ⟨rfl, h2⟩⟩
  · exact ⟨_, _, h1, .inr ⟨rfl, h, h2⟩⟩
theorem chk_split {v : Value} {A : Prop} (h : (v = .int .i64 0 ∧ A) ∨ (v = .int .i64 1 ∧ ¬ A)) : ∃ c, v = .int .i64 c ∧ ((c = 0 ∧ A) ∨ (c = 1 ∧ ¬ A)) := by
  rcases h with ⟨h1, h2⟩ | ⟨h1, h2⟩
  · exact ⟨_, h1, .inl ⟨rfl, h2⟩⟩
  · exact ⟨_, h1, .inr ⟨rfl, h2⟩⟩
/-- What open answers, for a description of a field. -/
def OpenA (w : World) (r : FRec) (v : Value) : Prop :=
  (v = .tuple #[.pointer none, .bool true, .bool true]) ∨ ∃ P : FP, (∀ w' mo', Ints w' mo' r.md → FV w' P mo' r.md) ∧ r.v = fv P r.mo ∧ P.p = r.p ∧ (P.M : Int) = r.M ∧ ∃ g, v = .tuple #[g, .bool false, .bool true] ∧ GFV w P g

theorem open_split {w : World} {p M : Int} {mo : Value} {md : List Int} {v : Value} (h : OpenA w ⟨p, M, mo, md⟩ v) :
    ∃ g d, v = .tuple #[g, .bool d, .bool true] ∧ (d = true ∨ (d = false ∧ ∃ P : FP, P.p = p ∧ (P.M : Int) = M ∧ (∀ w' mo', Ints w' mo' md → FV w' P mo' md) ∧ GFV w P g)) := by
  rcases h with h | ⟨P, h1, _, h3, h4, g, h5, h6⟩
  · exact ⟨_, _, h, .inl rfl⟩
  · exact ⟨_, _, h5, .inr ⟨rfl, P, h3, h4, h1, h6⟩⟩
/-- A claimed order with its proof, and an exponent. -/
structure CRec where
  f : FRec
  x : Int
  o : Int
  s : Value
  l : List Int
  t : Int
def CRec.v (r : CRec) : Value := .agg #[.int .i64 r.f.p, .int .i64 r.f.M, r.f.mo, .int .i64 r.x, .int .i64 r.o, r.s, .int .i64 r.t]
structure COf (w : World) (r : CRec) : Prop where
  f : FOf w r.f
  s : Ints w r.s r.l
  l : LFit r.l
  x : Fits r.x
  o : Fits r.o
  t : Fits r.t
section
variable {H : Type} {enc : TypeId × Value → H} {w : World} {base : Nat} {spare : Nat → Bool} {held : Bool} {d : DataW H} {ps : List MemPlace} {r : Reach} {b0 : Nat} {v : Value}
theorem op_claim (hval : Value.okWide Try.prog w r b0 28 v) (hd : DataW.Trod enc Try.prog w base spare held 28 v d ps) (hw : WOK Try.prog 28 d) : ∃ r : CRec, v = r.v ∧ COf w r := by
  obtain ⟨cs, fuel, rfl, h⟩ := op_struct Try.underlying28 hval hd
  obtain ⟨hl, hf⟩ := cop_struct Try.underlying28 h hw
  rw [show Try.prog.cellsOf 28 = 7 by kernel_rfl] at hl
  have c1 : Try.prog.cellsOf 3 = 1 := by kernel_rfl
  have c2 : Try.prog.cellsOf 26 = 2 := by kernel_rfl
  have c3 : Try.prog.cellsOf 24 = 3 := by kernel_rfl
  have c4 : Try.prog.cellsOf 22 = 1 := by kernel_rfl
  obtain ⟨l⟩ := cs
  simp only at hl h hf
  match l, hl with
  | [a0, a1, a2, a3, a4, a5, a6], _ =>
    obtain ⟨n0, x0, h0, w0⟩ := hf 0 _ rfl
    obtain ⟨n1, x1, h1, w1⟩ := hf 1 _ rfl
    obtain ⟨n2, x2, h2, w2⟩ := hf 2 _ rfl
    obtain ⟨n3, x3, h3, w3⟩ := hf 3 _ rfl
    replace h0 : DataW.trod enc Try.prog w base spare held n0 24 (List.take (Try.prog.cellsOf 24) (List.drop 0 [a0, a1, a2, a3, a4, a5, a6])) = some x0 := h0
    replace h1 : DataW.trod enc Try.prog w base spare held n1 3 (List.take (Try.prog.cellsOf 3) (List.drop 3 [a0, a1, a2, a3, a4, a5, a6])) = some x1 := h1
    replace h2 : DataW.trod enc Try.prog w base spare held n2 26 (List.take (Try.prog.cellsOf 26) (List.drop 4 [a0, a1, a2, a3, a4, a5, a6])) = some x2 := h2
    replace h3 : DataW.trod enc Try.prog w base spare held n3 3 (List.take (Try.prog.cellsOf 3) (List.drop 6 [a0, a1, a2, a3, a4, a5, a6])) = some x3 := h3
    rw [c3] at h0
    rw [c1] at h1
    rw [c2] at h2
    rw [c1] at h3
    obtain ⟨rf, hrf, hof⟩ := cop_field ft (d := x0.1) (ps := x0.2) h0 w0
    obtain ⟨x, hx, bx⟩ := cop_int Try.underlying3 (d := x1.1) (ps := x1.2) h1
    obtain ⟨t, ht, bt⟩ := cop_int Try.underlying3 (d := x3.1) (ps := x3.2) h3
    obtain ⟨_, hf2⟩ := cop_struct Try.underlying26 (d := x2.1) (ps := x2.2) h2 w2
    obtain ⟨n4, x4, h4, w4⟩ := hf2 0 _ rfl
    obtain ⟨n5, x5, h5, w5⟩ := hf2 1 _ rfl
    replace h4 : DataW.trod enc Try.prog w base spare held n4 3 (List.take (Try.prog.cellsOf 3) (List.drop 0 [a4, a5])) = some x4 := h4
    replace h5 : DataW.trod enc Try.prog w base spare held n5 22 (List.take (Try.prog.cellsOf 22) (List.drop 1 [a4, a5])) = some x5 := h5
    rw [c1] at h4
    rw [c4] at h5
    obtain ⟨o, ho, bo⟩ := cop_int Try.underlying3 (d := x4.1) (ps := x4.2) h4
    obtain ⟨s, ll, hs, is, bl⟩ := cop_intsL Try.underlying22 Try.underlying3 (by kernel_rfl) (by kernel_rfl) (d := x5.1) (ps := x5.2) h5 w5
    simp at hrf hx ht ho hs
    subst hx ht ho hs
    refine ⟨⟨rf, x, o, a5, ll, t⟩, ?_, hof, is, bl, bx, bo, bt⟩
    rw [CRec.v, hrf.1, hrf.2.1, hrf.2.2]
end
set_option maxRecDepth 10000 in
theorem lOpen (r : FRec) (w : World) (hr : Ints w r.mo r.md) :
    Calls Try.prog 13 #[r.v] w (RetX w fun v w' => OpenA w' r v) := by
  obtain ⟨p, M, mo, md⟩ := r
  dsimp only at hr
  refine calls1 Try.func13 rfl rfl ?_
  refine wc_seq ?_
  refine wc_region [0,1,2,3] rfl ?_
  refine BXA rfl wu rfl rfl ?_
  intro fb w1 hE hB hg
  refine Go.Sx.V rfl wu rfl rfl (asg rfl) ?_
  refine Go.Sx.V rfl wu rfl rfl (asg rfl) ?_
  refine Go.Sx.V rfl wu rfl rfl (asg rfl) ?_
  refine wr_nil (post_thenN (wc_seq ?_))
  have hi := hr.ext hE
  refine wc_region [0,1,2,3,4,5,6] rfl ?_
  refine Go.Sx.V rfl wu rfl rfl (ldA rfl ag24) ?_
  refine C rfl wu rfl rfl Try.call38 (fNew p M mo md _ hi) ?_
  rintro e w2 hE2 hnew
  replace hB := hB.ext hE2
  replace hE := hE.trans hE2
  replace hi := hi.ext hE2
  obtain ⟨gv, ec, rfl, hres⟩ : ∃ gv ec, e = .tuple #[gv, .int .i64 ec] ∧ ((ec = 1 ∧ ¬ OkF p M md) ∨ (ec = 0 ∧ ∃ h : OkF p M md, GFV w2 (fpOf p M md h.1.1 h.1.2.1) gv)) := new_split hnew
  refine Go.Sx.V rfl wu rfl rfl (mv rfl) ?_
  refine Go.Sx.V rfl wu rfl rfl (ext rfl rfl) ?_
  refine Go.Sx.V rfl wu rfl rfl (ext rfl rfl) ?_
  refine Go.Sx.V rfl wu rfl rfl (asg rfl) ?_
  refine Go.Sx.V rfl wu rfl rfl (asg rfl) ?_
  refine wr_nil (post_thenN (wc_seq (wc_seq ?_)))
  clear hnew
  refine wc_region [0,1,2] rfl ?_
  refine Go.Sx.V rfl wu rfl rfl (ldA rfl ag24) ?_
  refine C rfl wu rfl rfl Try.call39 (rCheck p M mo md _ hi) ?_
  rintro cv w3 hE3 hck
  replace hE := hE.trans hE3
  obtain ⟨cc, rfl, hc2⟩ : ∃ cc, cv = .int .i64 cc ∧ ((cc = 0 ∧ OkF p M md) ∨ (cc = 1 ∧ ¬ OkF p M md)) := chk_split hck
  refine Go.Sx.V rfl wu rfl rfl (neqI rfl rfl) ?_
  refine wr_nil (post_thenN ?_)
  refine wc_cond rfl ?_ ?_
  · intro h
    simp at h
    refine wc_seq ?_
    refine wc_region [0,1,2,3,4] rfl ?_
    refine Go.Sx.V rfl wu rfl rfl (mv rfl) ?_
    refine Go.Sx.V rfl wu rfl rfl (neqI rfl rfl) ?_
    refine Go.Sx.V rfl wu rfl rfl (asg rfl) ?_
    refine Go.Sx.V rfl wu rfl rfl (asg rfl) ?_
    refine Go.Sx.V rfl wu rfl rfl (asg rfl) ?_
    refine wr_nil (post_thenN (wc_ret (post_thenR ?_)))
    refine post_ret3 rfl rfl rfl rfl ?_
    refine ⟨hE, .inl ?_⟩
    have hno : ¬ OkF p M md := by
      rcases hc2 with h1 | h1
      · exact absurd h1.1 h
      · exact h1.2
    rcases hres with h1 | ⟨_, h1, _⟩
    · rw [h1.1]; rfl
    · exact absurd h1 hno
  · intro h
    simp at h
    have hok : OkF p M md := by
      rcases hc2 with h1 | h1
      · exact h1.2
      · omega
    rcases hres with h1 | ⟨rfl, _, hG⟩
    · exact absurd hok h1.2
    · have hpt := hG.ex
      obtain ⟨b, _, _, _, _, _, _, rfl, _⟩ := hpt
      refine wc_skip (post_thenN (wc_seq (wc_seq ?_)))
      refine wc_region [0,1,2,3,4,5] rfl ?_
      refine Go.Sx.V rfl wu rfl rfl (mv rfl) ?_
      refine Go.Sx.V rfl wu rfl rfl (neqI rfl rfl) ?_
      refine Go.Sx.V rfl wu rfl rfl (mv rfl) ?_
      refine OR (π1 := [3,4,5]) (π2 := []) (tc := 18) (tp := 21) rfl rfl rfl (by
          intro _
          refine SK rfl rfl rfl rfl rfl ?_
          refine SK rfl rfl rfl rfl rfl ?_
          refine Go.Sx.V rfl wu rfl rfl (pk rfl rfl) ?_
          exact join rfl) (by
          intro hg
          simp at hg
          refine Go.Sx.V rfl (wg rfl rfl) rfl rfl (mv rfl) ?_
          refine Go.Sx.V rfl (wg rfl rfl) rfl rfl (eqlP rfl rfl Try.underlying29) ?_
          refine Go.Sx.V rfl wu rfl rfl (pk rfl rfl) ?_
          exact join rfl) ?_
      refine wr_nil (post_thenN ?_)
      refine wc_condF rfl (by simp) ?_
      refine wc_skip (post_thenN (wc_seq ?_))
      refine wc_region [0,1,2,3] rfl ?_
      refine Go.Sx.V rfl wu rfl rfl (mv rfl) ?_
      refine Go.Sx.V rfl wu rfl rfl (asg rfl) ?_
      refine Go.Sx.V rfl wu rfl rfl (asg rfl) ?_
      refine Go.Sx.V rfl wu rfl rfl (asg rfl) ?_
      refine wr_nil (post_thenN (wc_ret ?_))
      refine post_ret3 rfl rfl rfl rfl ?_
      refine ⟨hE, .inr ⟨fpOf p M md hok.1.1 hok.1.2.1, fun w' mo' hi' => okf_fv hok hi', ?_, rfl, by show (M.toNat : Int) = M; have := hok.1.2.1; omega, _, rfl, hG.ext hE3⟩⟩
      have := hok.1.2.1
      rw [FRec.v, fv, show ((fpOf p M md hok.1.1 hok.1.2.1).M : Int) = M from by show (M.toNat : Int) = M; omega]
      rfl
end Go.Proofs.Ytmookiiehfdloaa
