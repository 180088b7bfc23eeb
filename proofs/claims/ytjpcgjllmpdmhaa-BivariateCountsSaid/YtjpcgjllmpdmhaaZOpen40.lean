/-
  Chapter 40's way into its laws: the arguments' types; made, small, same and alive, by contract.
-/
import Derived.Test.YtjpcgjllmpdmhaaZMSxa
import Derived.Test.YtjpcgjllmpdmhaaZRef4
import Derived.Test.YtjpcgjllmpdmhaaZBiv2
import Derived.Test.YtjpcgjllmpdmhaaZBiv3
import Derived.Test.YtjpcgjllmpdmhaaZRBiv1
import Derived.Test.YtjpcgjllmpdmhaaZMPa
import Derived.Test.YtjpcgjllmpdmhaaZMTya
namespace Go.Proofs.Ytjpcgjllmpdmhaa
open Go Go.Sx Go.Pl Go.RowKit Go.Fd Go.Alg Go.Fr
theorem ft : FT Try.prog 24 := ⟨⟨_, _, _, 3, Try.underlying24, by kernel_rfl, rfl, rfl, rfl, by kernel_rfl, by kernel_rfl, by kernel_rfl, Try.underlying3, Try.underlying3, Try.underlying22, Try.underlying3, by kernel_rfl, by kernel_rfl⟩⟩
section
variable {H : Type} {enc : TypeId × Value → H} {w : World} {base : Nat} {held : Bool} {d : DataW H} {ps : List MemPlace} {r : Reach} {b0 : Nat} {v : Value}
set_option maxRecDepth 100000 in
theorem op_field {spare : Nat → Bool} (hval : Value.okWide Try.prog w r b0 24 v)
    (hd : DataW.Trod enc Try.prog w base spare held 24 v d ps) (hw : WOK Try.prog 24 d) : ∃ r : FRec, v = r.v ∧ FOf w r := op_fieldT ft hval hd hw
set_option maxRecDepth 100000 in
theorem op_bi (hval : Value.okWide Try.prog w r b0 26 v) (hd : DataW.Trod enc Try.prog w base (fun _ => true) held 26 v d ps) (hw : WOK Try.prog 26 d) : ∃ L, LL w v L ∧ LLFit L :=
  op_intssT Try.underlying26 Try.underlying22 Try.underlying3 (by kernel_rfl) (by kernel_rfl) (by decide +kernel) (by kernel_rfl) hval hd hw
end
theorem ar37 : ArT Try.prog 37 26 2 := ⟨Try.underlying37, ⟨Try.t26, by kernel_rfl, by kernel_rfl⟩⟩
theorem ar61 : ArT Try.prog 61 22 2 := ⟨Try.underlying61, sz22⟩
theorem ar43 : ArT Try.prog 43 3 2 := ⟨Try.underlying43, sz3⟩
theorem ar69 : ArT Try.prog 69 3 4 := ⟨Try.underlying69, sz3⟩
/-- Two polynomials. -/
structure B2Rec where
  u : Value
  v : Value
  A : List (List Int)
  B : List (List Int)
def B2Rec.val (r : B2Rec) : Value := .agg #[r.u, r.v]
/-- Two lists. -/
structure I2Rec where
  u : Value
  v : Value
  a : List Int
  b : List Int
def I2Rec.val (r : I2Rec) : Value := .agg #[r.u, r.v]
/-- A list and a bound. -/
structure RtRec where
  u : Value
  a : List Int
  k : Int
def RtRec.val (r : RtRec) : Value := .agg #[r.u, .int .i64 r.k]
/-- A task. -/
structure TkRec where
  u : Value
  v : Value
  xs : List Int
  ys : List Int
  M : Int
  W : Int
  L : Int
def TkRec.val (r : TkRec) : Value := .agg #[r.u, r.v, .int .i64 r.M, .int .i64 r.W, .int .i64 r.L]
section
variable {H : Type} {enc : TypeId × Value → H} {w : World} {base : Nat} {held : Bool} {d : DataW H} {ps : List MemPlace} {r : Reach} {b0 : Nat} {v : Value}
set_option maxRecDepth 100000 in
theorem op_bi2 (hval : Value.okWide Try.prog w r b0 37 v) (hd : DataW.Trod enc Try.prog w base (fun _ => true) held 37 v d ps) (hw : WOK Try.prog 37 d) :
    ∃ x : B2Rec, v = x.val ∧ LL w x.u x.A ∧ LL w x.v x.B := by
  obtain ⟨cs, fuel, rfl, h⟩ := op_arr Try.underlying37 hval hd
  obtain ⟨hl, hf⟩ := cop_array Try.underlying37 (by kernel_rfl) h hw
  rw [show Try.prog.cellsOf 37 = 2 by kernel_rfl] at hl
  obtain ⟨l⟩ := cs
  simp only at hl h hf
  match l, hl with
  | [a0, a1], _ =>
    obtain ⟨n0, x0, h0, w0⟩ := hf 0 (by decide)
    obtain ⟨n1, x1, h1, w1⟩ := hf 1 (by decide)
    obtain ⟨v0, L0, e0, l0, _⟩ := cop_intss Try.underlying26 Try.underlying22 Try.underlying3 (by kernel_rfl) (by kernel_rfl) (by decide +kernel) (by kernel_rfl) (d := x0.1) (ps := x0.2) h0 w0
    obtain ⟨v1, L1, e1, l1, _⟩ := cop_intss Try.underlying26 Try.underlying22 Try.underlying3 (by kernel_rfl) (by kernel_rfl) (by decide +kernel) (by kernel_rfl) (d := x1.1) (ps := x1.2) h1 w1
    simp at e0 e1
    subst e0 e1
    exact ⟨⟨a0, a1, L0, L1⟩, rfl, l0, l1⟩
set_option maxRecDepth 100000 in
theorem op_ints2 (hval : Value.okWide Try.prog w r b0 61 v) (hd : DataW.Trod enc Try.prog w base (fun _ => true) held 61 v d ps) (hw : WOK Try.prog 61 d) :
    ∃ x : I2Rec, v = x.val ∧ Ints w x.u x.a ∧ Ints w x.v x.b := by
  obtain ⟨cs, fuel, rfl, h⟩ := op_arr Try.underlying61 hval hd
  obtain ⟨hl, hf⟩ := cop_array Try.underlying61 (by kernel_rfl) h hw
  rw [show Try.prog.cellsOf 61 = 2 by kernel_rfl] at hl
  obtain ⟨l⟩ := cs
  simp only at hl h hf
  match l, hl with
  | [a0, a1], _ =>
    obtain ⟨n0, x0, h0, w0⟩ := hf 0 (by decide)
    obtain ⟨n1, x1, h1, w1⟩ := hf 1 (by decide)
    obtain ⟨v0, L0, e0, l0, _⟩ := cop_intsL Try.underlying22 Try.underlying3 (by kernel_rfl) (by kernel_rfl) (d := x0.1) (ps := x0.2) h0 w0
    obtain ⟨v1, L1, e1, l1, _⟩ := cop_intsL Try.underlying22 Try.underlying3 (by kernel_rfl) (by kernel_rfl) (d := x1.1) (ps := x1.2) h1 w1
    simp at e0 e1
    subst e0 e1
    exact ⟨⟨a0, a1, L0, L1⟩, rfl, l0, l1⟩
set_option maxRecDepth 100000 in
theorem op_int2 (hval : Value.okWide Try.prog w r b0 43 v) (hd : DataW.Trod enc Try.prog w base (fun _ => true) held 43 v d ps) (hw : WOK Try.prog 43 d) :
    ∃ x : Int × Int, v = .agg #[.int .i64 x.1, .int .i64 x.2] := by
  obtain ⟨cs, fuel, rfl, h⟩ := op_arr Try.underlying43 hval hd
  obtain ⟨hl, hf⟩ := cop_array Try.underlying43 (by kernel_rfl) h hw
  rw [show Try.prog.cellsOf 43 = 2 by kernel_rfl] at hl
  obtain ⟨l⟩ := cs
  simp only at hl h hf
  match l, hl with
  | [a0, a1], _ =>
    obtain ⟨n0, x0, h0, w0⟩ := hf 0 (by decide)
    obtain ⟨n1, x1, h1, w1⟩ := hf 1 (by decide)
    obtain ⟨y0, e0, _⟩ := cop_int Try.underlying3 (d := x0.1) (ps := x0.2) h0
    obtain ⟨y1, e1, _⟩ := cop_int Try.underlying3 (d := x1.1) (ps := x1.2) h1
    simp at e0 e1
    subst e0 e1
    exact ⟨(y0, y1), rfl⟩
set_option maxRecDepth 100000 in
theorem op_int4 (hval : Value.okWide Try.prog w r b0 69 v) (hd : DataW.Trod enc Try.prog w base (fun _ => true) held 69 v d ps) (hw : WOK Try.prog 69 d) :
    ∃ x : (Int × Int) × (Int × Int), v = .agg #[.int .i64 x.1.1, .int .i64 x.1.2, .int .i64 x.2.1, .int .i64 x.2.2] := by
  obtain ⟨cs, fuel, rfl, h⟩ := op_arr Try.underlying69 hval hd
  obtain ⟨hl, hf⟩ := cop_array Try.underlying69 (by kernel_rfl) h hw
  rw [show Try.prog.cellsOf 69 = 4 by kernel_rfl] at hl
  obtain ⟨l⟩ := cs
  simp only at hl h hf
  match l, hl with
  | [a0, a1, a2, a3], _ =>
    obtain ⟨n0, x0, h0, w0⟩ := hf 0 (by decide)
    obtain ⟨n1, x1, h1, w1⟩ := hf 1 (by decide)
    obtain ⟨n2, x2, h2, w2⟩ := hf 2 (by decide)
    obtain ⟨n3, x3, h3, w3⟩ := hf 3 (by decide)
    obtain ⟨y0, e0, _⟩ := cop_int Try.underlying3 (d := x0.1) (ps := x0.2) h0
    obtain ⟨y1, e1, _⟩ := cop_int Try.underlying3 (d := x1.1) (ps := x1.2) h1
    obtain ⟨y2, e2, _⟩ := cop_int Try.underlying3 (d := x2.1) (ps := x2.2) h2
    obtain ⟨y3, e3, _⟩ := cop_int Try.underlying3 (d := x3.1) (ps := x3.2) h3
    simp at e0 e1 e2 e3
    subst e0 e1 e2 e3
    exact ⟨((y0, y1), (y2, y3)), rfl⟩
set_option maxRecDepth 100000 in
theorem op_root (hval : Value.okWide Try.prog w r b0 55 v) (hd : DataW.Trod enc Try.prog w base (fun _ => true) held 55 v d ps) (hw : WOK Try.prog 55 d) :
    ∃ x : RtRec, v = x.val ∧ Ints w x.u x.a := by
  obtain ⟨cs, fuel, rfl, h⟩ := op_struct Try.underlying55 hval hd
  obtain ⟨hl, hf⟩ := cop_struct Try.underlying55 h hw
  rw [show Try.prog.cellsOf 55 = 2 by kernel_rfl] at hl
  have c1 : Try.prog.cellsOf 3 = 1 := by kernel_rfl
  have c4 : Try.prog.cellsOf 22 = 1 := by kernel_rfl
  obtain ⟨l⟩ := cs
  simp only at hl h hf
  match l, hl with
  | [a0, a1], _ =>
    obtain ⟨n0, x0, h0, w0⟩ := hf 0 _ rfl
    obtain ⟨n1, x1, h1, w1⟩ := hf 1 _ rfl
    replace h0 : DataW.trod enc Try.prog w base (fun _ => true) held n0 22 (List.take (Try.prog.cellsOf 22) (List.drop 0 [a0, a1])) = some x0 := h0
    replace h1 : DataW.trod enc Try.prog w base (fun _ => true) held n1 3 (List.take (Try.prog.cellsOf 3) (List.drop 1 [a0, a1])) = some x1 := h1
    rw [c4] at h0
    rw [c1] at h1
    obtain ⟨v0, L0, e0, l0, _⟩ := cop_intsL Try.underlying22 Try.underlying3 (by kernel_rfl) (by kernel_rfl) (d := x0.1) (ps := x0.2) h0 w0
    obtain ⟨y1, e1, _⟩ := cop_int Try.underlying3 (d := x1.1) (ps := x1.2) h1
    simp at e0 e1
    subst e0 e1
    exact ⟨⟨a0, L0, y1⟩, rfl, l0⟩
set_option maxRecDepth 100000 in
theorem op_task (hval : Value.okWide Try.prog w r b0 73 v) (hd : DataW.Trod enc Try.prog w base (fun _ => true) held 73 v d ps) (hw : WOK Try.prog 73 d) :
    ∃ x : TkRec, v = x.val ∧ Ints w x.u x.xs ∧ Ints w x.v x.ys ∧ Go.Fr.Fits x.M ∧ Go.Fr.Fits x.W ∧ Go.Fr.Fits x.L := by
  obtain ⟨cs, fuel, rfl, h⟩ := op_struct Try.underlying73 hval hd
  obtain ⟨hl, hf⟩ := cop_struct Try.underlying73 h hw
  rw [show Try.prog.cellsOf 73 = 5 by kernel_rfl] at hl
  have c1 : Try.prog.cellsOf 3 = 1 := by kernel_rfl
  have c4 : Try.prog.cellsOf 22 = 1 := by kernel_rfl
  obtain ⟨l⟩ := cs
  simp only at hl h hf
  match l, hl with
  | [a0, a1, a2, a3, a4], _ =>
    obtain ⟨n0, x0, h0, w0⟩ := hf 0 _ rfl
    obtain ⟨n1, x1, h1, w1⟩ := hf 1 _ rfl
    obtain ⟨n2, x2, h2, w2⟩ := hf 2 _ rfl
    obtain ⟨n3, x3, h3, w3⟩ := hf 3 _ rfl
    obtain ⟨n4, x4, h4, w4⟩ := hf 4 _ rfl
    replace h0 : DataW.trod enc Try.prog w base (fun _ => true) held n0 22 (List.take (Try.prog.cellsOf 22) (List.drop 0 [a0, a1, a2, a3, a4])) = some x0 := h0
    replace h1 : DataW.trod enc Try.prog w base (fun _ => true) held n1 22 (List.take (Try.prog.cellsOf 22) (List.drop 1 [a0, a1, a2, a3, a4])) = some x1 := h1
    replace h2 : DataW.trod enc Try.prog w base (fun _ => true) held n2 3 (List.take (Try.prog.cellsOf 3) (List.drop 2 [a0, a1, a2, a3, a4])) = some x2 := h2
    replace h3 : DataW.trod enc Try.prog w base (fun _ => true) held n3 3 (List.take (Try.prog.cellsOf 3) (List.drop 3 [a0, a1, a2, a3, a4])) = some x3 := h3
    replace h4 : DataW.trod enc Try.prog w base (fun _ => true) held n4 3 (List.take (Try.prog.cellsOf 3) (List.drop 4 [a0, a1, a2, a3, a4])) = some x4 := h4
    rw [c4] at h0 h1
    rw [c1] at h2 h3 h4
    obtain ⟨v0, L0, e0, l0, _⟩ := cop_intsL Try.underlying22 Try.underlying3 (by kernel_rfl) (by kernel_rfl) (d := x0.1) (ps := x0.2) h0 w0
    obtain ⟨v1, L1, e1, l1, _⟩ := cop_intsL Try.underlying22 Try.underlying3 (by kernel_rfl) (by kernel_rfl) (d := x1.1) (ps := x1.2) h1 w1
    obtain ⟨y2, e2, b2⟩ := cop_int Try.underlying3 (d := x2.1) (ps := x2.2) h2
    obtain ⟨y3, e3, b3⟩ := cop_int Try.underlying3 (d := x3.1) (ps := x3.2) h3
    obtain ⟨y4, e4, b4⟩ := cop_int Try.underlying3 (d := x4.1) (ps := x4.2) h4
    simp at e0 e1 e2 e3 e4
    subst e0 e1 e2 e3 e4
    exact ⟨⟨a0, a1, L0, L1, y2, y3, y4⟩, rfl, l0, l1, b2, b3, b4⟩
end
theorem okf_fv {p M : Int} {md : List Int} (h : OkF p M md) {w : World} {mo : Value} (hi : Ints w mo md) : FV w (fpOf p M md h.1.1 h.1.2.1) mo md := by
  have hS := h.1
  obtain ⟨eo, eo0, hp⟩ := ordZ_eq hS.1 hS.2.1 hS.2.2.1 hS.2.2.2.1
  refine ⟨hi, hp, by have := hS.2.2.1; show M.toNat ≤ 8; omega, hS.2.2.2.1, rfl, fun h1 => hS.2.2.2.2.2.1 (by have : M.toNat = 1 := h1; omega), fun h1 => ?_, ?_⟩
  · have h1' : ¬ M.toNat = 1 := h1
    have := (hS.2.2.2.2.2.2 (by omega)).1
    show md.length = M.toNat
    omega
  · show Lo p md
    by_cases h1 : M = 1
    · rw [hS.2.2.2.2.2.1 h1]; intro z hz; cases hz
    · exact (hS.2.2.2.2.2.2 h1).2
theorem new_split {p M : Int} {md : List Int} {w' : World} {v : Value} (h : (v = .tuple #[.pointer none, .int .i64 1] ∧ ¬ OkF p M md) ∨ (∃ h : OkF p M md, ∃ g, v = .tuple #[g, .int .i64 0] ∧ GFV w' (fpOf p M md h.1.1 h.1.2.1) g)) :
    ∃ gv ec, v = .tuple #[gv, .int .i64 ec] ∧ ((ec = 1 ∧ gv = .pointer none ∧ ¬ OkF p M md) ∨ (ec = 0 ∧ ∃ h : OkF p M md, GFV w' (fpOf p M md h.1.1 h.1.2.1) gv)) := by
  rcases h with ⟨h1, h2⟩ | ⟨h, g, h1, h2⟩
  · exact ⟨_, _, h1, .inl ⟨rfl, rfl, h2⟩⟩
  · exact ⟨_, _, h1, .inr ⟨rfl, h, h2⟩⟩
theorem chk_split {v : Value} {A : Prop} (h : (v = .int .i64 0 ∧ A) ∨ (v = .int .i64 1 ∧ ¬ A)) : ∃ c, v = .int .i64 c ∧ ((c = 0 ∧ A) ∨ (c = 1 ∧ ¬ A)) := by
  rcases h with ⟨h1, h2⟩ | ⟨h1, h2⟩
  · exact ⟨_, h1, .inl ⟨rfl, h2⟩⟩
  · exact ⟨_, h1, .inr ⟨rfl, h2⟩⟩
/-- What made answers. -/
def MadeA (w : World) (p M : Int) (md : List Int) (v : Value) : Prop := (v = .pointer none ∧ ¬ OkF p M md) ∨ ∃ h : OkF p M md, GFV w (fpOf p M md h.1.1 h.1.2.1) v

set_option maxRecDepth 10000 in
theorem lMade (p M : Int) (mo : Value) (md : List Int) (w : World) (hr : Ints w mo md) :
    Calls Try.prog 17 #[fv0 p M mo] w (RetX w fun v w' => MadeA w' p M md v) := by
  refine calls1 Try.func17 rfl rfl ?_
  refine wc_seq ?_
  refine wc_region [0,1] rfl ?_
  refine BXA rfl wu rfl rfl ?_
  intro fb w1 hE hB hg
  refine Go.Sx.V rfl wu rfl rfl (asg rfl) ?_
  refine wr_nil (post_thenN (wc_seq (wc_seq ?_)))
  have hi := hr.ext hE
  refine wc_region [0,1,2] rfl ?_
  refine Go.Sx.V rfl wu rfl rfl (ldA rfl ag24) ?_
  refine C rfl wu rfl rfl Try.call54 (rCheck p M mo md _ hi) ?_
  rintro cv w2 hE2 hck
  replace hB := hB.ext hE2
  replace hi := hi.ext hE2
  replace hE := hE.trans hE2
  obtain ⟨cc, rfl, hc2⟩ : ∃ cc, cv = .int .i64 cc ∧ ((cc = 0 ∧ OkF p M md) ∨ (cc = 1 ∧ ¬ OkF p M md)) := chk_split hck
  refine Go.Sx.V rfl wu rfl rfl (neqI rfl rfl) ?_
  refine wr_nil (post_thenN ?_)
  refine wc_cond rfl ?_ ?_
  · intro h
    simp at h
    refine wc_seq ?_
    refine wc_region [0] rfl ?_
    refine Go.Sx.V rfl wu rfl rfl (asg rfl) ?_
    refine wr_nil (post_thenN (wc_ret (post_thenR ?_)))
    refine post_ret1 rfl rfl ?_
    refine ⟨hE, .inl ⟨rfl, ?_⟩⟩
    rcases hc2 with h1 | h1
    · exact absurd h1.1 h
    · exact h1.2
  · intro h
    simp at h
    have hok : OkF p M md := by
      rcases hc2 with h1 | h1
      · exact h1.2
      · omega
    refine wc_skip (post_thenN (wc_seq ?_))
    refine wc_region [0,1,2,3,4,5,6] rfl ?_
    refine Go.Sx.V rfl wu rfl rfl (ldA rfl ag24) ?_
    refine C rfl wu rfl rfl Try.call55 (fNew p M mo md _ hi) ?_
    rintro e w3 hE3 hnew
    obtain ⟨gv, ec, rfl, hres⟩ := new_split hnew
    refine Go.Sx.V rfl wu rfl rfl (mv rfl) ?_
    refine Go.Sx.V rfl wu rfl rfl (ext rfl rfl) ?_
    refine Go.Sx.V rfl wu rfl rfl (ext rfl rfl) ?_
    refine Go.Sx.V rfl wu rfl rfl (asg rfl) ?_
    refine Go.Sx.V rfl wu rfl rfl (asg rfl) ?_
    refine wr_nil (post_thenN (wc_seq (wc_seq ?_)))
    rcases hres with ⟨rfl, rfl, hno⟩ | ⟨rfl, hok2, hG⟩
    · exact absurd hok hno
    · skip
      refine wc_region [0,1] rfl ?_
      refine Go.Sx.V rfl wu rfl rfl (mv rfl) ?_
      refine Go.Sx.V rfl wu rfl rfl (neqI rfl rfl) ?_
      refine wr_nil (post_thenN ?_)
      refine wc_condF rfl (by simp) ?_
      refine wc_skip (post_thenN (wc_seq ?_))
      refine wc_region [0,1] rfl ?_
      refine Go.Sx.V rfl wu rfl rfl (mv rfl) ?_
      refine Go.Sx.V rfl wu rfl rfl (asg rfl) ?_
      refine wr_nil (post_thenN (wc_ret ?_))
      refine post_ret1 rfl rfl ?_
      exact ⟨hE.trans hE3, .inr ⟨hok2, hG⟩⟩
theorem made_split {w : World} {p M : Int} {mo : Value} {md : List Int} {v : Value} (h : MadeA w p M md v) (hi : Ints w mo md) :
    v = .pointer none ∨ ∃ P : FP, P.p = p ∧ (P.M : Int) = M ∧ FV w P mo md ∧ GFV w P v := by
  rcases h with ⟨h, _⟩ | ⟨hok, hG⟩
  · exact .inl h
  · exact .inr ⟨_, rfl, by show (M.toNat : Int) = M; have := hok.1.2.1; omega, okf_fv hok hi, hG⟩
theorem GFV.ptr {w : World} {P : FP} {g : Value} (h : GFV w P g) : ∃ ga, g = .pointer (some ga) := by
  obtain ⟨gb, _, _, _, _, _, _, rfl, _⟩ := h.ex
  exact ⟨_, rfl⟩
/-- The sizes that the laws go through. -/
def smallB (L : List (List Int)) : Bool := decide (L.length ≤ 6) && L.all fun z => decide (z.length ≤ 12)
theorem smallB_iff {L : List (List Int)} : smallB L = true ↔ L.length ≤ 6 ∧ RB 12 L := by
  rw [smallB, Bool.and_eq_true, decide_eq_true_eq, List.all_eq_true]
  refine and_congr Iff.rfl ⟨fun h j => ?_, fun h z hz => ?_⟩
  · rcases Nat.lt_or_ge j L.length with e | e
    · rw [List.getD_eq_getElem?_getD, List.getElem?_eq_getElem e]
      simpa using h _ (List.getElem_mem e)
    · rw [List.getD_eq_getElem?_getD, List.getElem?_eq_none e]; simp
  · obtain ⟨j, hj, rfl⟩ := List.getElem_of_mem hz
    have := h j
    rw [List.getD_eq_getElem?_getD, List.getElem?_eq_getElem hj] at this
    simpa using this
/-- A list of values that read as lists of lists. -/
def BisOk (w : World) (us : List Value) (Ls : List (List (List Int))) : Prop := us.length = Ls.length ∧ ∀ (i : Nat) v L, us[i]? = some v → Ls[i]? = some L → LL w v L
theorem bis1 {w : World} {a : Value} {A : List (List Int)} (h : LL w a A) : BisOk w [a] [A] := ⟨rfl, fun i v L x y => by
  match i with
  | 0 => cases x; cases y; exact h
  | i + 1 => simp at x⟩
theorem bis2 {w : World} {a b : Value} {A B : List (List Int)} (h : LL w a A) (k : LL w b B) : BisOk w [a, b] [A, B] := ⟨rfl, fun i v L x y => by
  match i with
  | 0 => cases x; cases y; exact h
  | 1 => cases x; cases y; exact k
  | i + 2 => simp at x⟩
theorem BisOk.ext {w w' : World} {us : List Value} {Ls : List (List (List Int))} (h : BisOk w us Ls) (hE : Ext w w') : BisOk w' us Ls := ⟨h.1, fun i v L a b => (h.2 i v L a b).ext hE⟩

set_option maxRecDepth 10000 in
theorem lSmall (u : Value) (us : List Value) (Ls : List (List (List Int))) (w : World) (hs : Sl w u us) (hb : BisOk w us Ls) :
    Calls Try.prog 18 #[u] w (RetX w fun v _ => v = .bool (Ls.all smallB)) := by
  have hle := hs.le
  have hl := hb.1
  refine calls1 Try.func18 rfl rfl ?_
  refine wc_seq ?_
  refine wc_region [0] rfl ?_
  refine Go.Sx.V rfl wu rfl rfl (asg rfl) ?_
  refine wr_nil (post_thenN (wc_seq (wc_seq ?_)))
  refine wc_region [0,1,2] rfl ?_
  refine Go.Sx.V rfl wu rfl rfl (mv rfl) ?_
  refine Go.Sx.V rfl wu rfl rfl (lenS rfl ty86 hs) ?_
  refine Go.Sx.V rfl wu rfl rfl (mv rfl) ?_
  refine wr_nil (post_thenN (wc_block ?_))
  rw [hl]
  refine wc_loop (fun i : Nat => [(7, u), (8, .int .i64 Ls.length), (9, .int .i64 i)])
    (fun i w' => i ≤ Ls.length ∧ w' = w ∧ (Ls.take i).all smallB = true) (fun i => Ls.length - i) 0 ⟨rfl, rfl, rfl, trivial⟩ ⟨by omega, rfl, rfl⟩ ?_
  rintro i w1 ⟨i1, rfl, hall⟩
  try dsimp only
  refine wc_seq ?_
  refine wc_region [0] rfl ?_
  refine Go.Sx.V rfl wu rfl rfl (lssI rfl rfl) ?_
  refine wr_nil (post_thenN (wc_seq ?_))
  refine wc_cond rfl ?_ ?_
  · intro hc
    simp at hc
    obtain ⟨L, hL⟩ : ∃ L, Ls[i]? = some L := ⟨_, List.getElem?_eq_getElem hc⟩
    have hr : us[i]? = some (us[i]'(by omega)) := List.getElem?_eq_getElem (by omega)
    have hLL := hb.2 i _ _ hr hL
    have hmem : L ∈ Ls := List.mem_of_getElem? hL
    have htk : Ls.take (i + 1) = Ls.take i ++ [L] := by rw [List.take_add_one, hL]; rfl
    generalize us[i]'(by omega) = a at *
    obtain ⟨rows, hsr, hrl, hrr⟩ := hLL.row
    have hlr := hsr.le
    have hfalse : smallB L = false → Ls.all smallB = false := fun h => by
      rw [List.all_eq_false]
      exact ⟨L, hmem, by simp [h]⟩
    refine wc_skip (post_thenN (wc_seq (wc_block (wc_seq ?_))))
    refine wc_region [0,1,2] rfl ?_
    refine Go.Sx.V rfl wu rfl rfl (iad rfl rfl ty86 hs (by omega) (by omega)) ?_
    refine Go.Sx.V rfl wu rfl rfl (ldE rfl na26 hs hr) ?_
    refine Go.Sx.V rfl wu rfl rfl (asg rfl) ?_
    refine wr_nil (post_thenN (wc_seq (wc_seq ?_)))
    refine wc_region [0,1,2] rfl ?_
    refine Go.Sx.V rfl wu rfl rfl (mv rfl) ?_
    refine Go.Sx.V rfl wu rfl rfl (lenS rfl ty26 hsr) ?_
    refine Go.Sx.V rfl wu rfl rfl (gtrI rfl rfl) ?_
    refine wr_nil (post_thenN ?_)
    rw [hrl]
    refine wc_cond rfl ?_ ?_
    · intro h1
      simp at h1
      refine wc_seq ?_
      refine wc_region [0] rfl ?_
      refine Go.Sx.V rfl wu rfl rfl (asg rfl) ?_
      refine wr_nil (post_thenN (wc_ret (post_thenR (post_blockR (post_thenR (post_loopR (post_blockR (post_thenR ?_))))))))
      refine post_ret1 rfl rfl ?_
      exact ⟨Ext.refl _, by rw [hfalse (by rw [smallB, decide_eq_false (by omega)]; rfl)]⟩
    · intro h1
      simp at h1
      refine wc_skip (post_thenN (wc_seq ?_))
      refine wc_region [0,1,2] rfl ?_
      refine Go.Sx.V rfl wu rfl rfl (mv rfl) ?_
      refine Go.Sx.V rfl wu rfl rfl (lenS rfl ty26 hsr) ?_
      refine Go.Sx.V rfl wu rfl rfl (mv rfl) ?_
      refine wr_nil (post_thenN (wc_block ?_))
      rw [hrl]
      refine wc_loop (fun j : Nat => [(7, u), (8, .int .i64 Ls.length), (9, .int .i64 i), (16, a), (17, .int .i64 L.length), (18, .int .i64 j)])
        (fun j w' => j ≤ L.length ∧ w' = w1 ∧ (L.take j).all (fun z => decide (z.length ≤ 12)) = true) (fun j => L.length - j) 0 ⟨rfl, rfl, rfl, rfl, rfl, rfl, trivial⟩ ⟨by omega, rfl, rfl⟩ ?_
      rintro j w2 ⟨j1, rfl, hrow⟩
      try dsimp only
      refine wc_seq ?_
      refine wc_region [0] rfl ?_
      refine Go.Sx.V rfl wu rfl rfl (lssI rfl rfl) ?_
      refine wr_nil (post_thenN (wc_seq ?_))
      refine wc_cond rfl ?_ ?_
      · intro hc2
        simp at hc2
        obtain ⟨r, hr2, hri⟩ := hrr j hc2
        have hz : L[j]? = some (L.getD j []) := by simp [List.getD_eq_getElem?_getD, hc2]
        generalize L.getD j [] = z at *
        have hzm : z ∈ L := List.mem_of_getElem? hz
        refine wc_skip (post_thenN (wc_seq (wc_block (wc_seq ?_))))
        refine wc_region [0,1,2] rfl ?_
        refine Go.Sx.V rfl wu rfl rfl (iad rfl rfl ty26 hsr (by omega) (by omega)) ?_
        refine Go.Sx.V rfl wu rfl rfl (ldE rfl na22 hsr hr2) ?_
        refine Go.Sx.V rfl wu rfl rfl (asg rfl) ?_
        refine wr_nil (post_thenN (wc_seq ?_))
        refine wc_region [0,1,2] rfl ?_
        refine Go.Sx.V rfl wu rfl rfl (mv rfl) ?_
        refine Go.Sx.V rfl wu rfl rfl (lenI rfl ty22 hri) ?_
        refine Go.Sx.V rfl wu rfl rfl (gtrI rfl rfl) ?_
        refine wr_nil (post_thenN ?_)
        refine wc_cond rfl ?_ ?_
        · intro h3
          simp at h3
          refine wc_seq ?_
          refine wc_region [0] rfl ?_
          refine Go.Sx.V rfl wu rfl rfl (asg rfl) ?_
          refine wr_nil (post_thenN (wc_ret (post_blockR (post_thenR (post_loopR (post_blockR (post_blockR (post_thenR (post_loopR (post_blockR (post_thenR ?_)))))))))))
          refine post_ret1 rfl rfl ?_
          have hsf : smallB L = false := by
            rw [smallB, Bool.and_eq_false_iff, List.all_eq_false]
            exact .inr ⟨z, hzm, by simp; omega⟩
          exact ⟨Ext.refl _, by rw [hfalse hsf]⟩
        · intro h3
          simp at h3
          refine wc_skip (post_blockN (post_thenN ?_))
          refine wc_region [0,1] rfl ?_
          refine Go.Sx.V rfl wu rfl rfl (addI rfl rfl) ?_
          refine Go.Sx.V rfl wu rfl rfl (mv rfl) ?_
          refine wr_nil ?_
          exact post_loopN (j + 1) ⟨rfl, rfl, rfl, rfl, rfl, rfl, trivial⟩ ⟨by omega, rfl, by rw [List.take_add_one, hz, List.all_append, hrow]; simp; omega⟩ (by omega)
      · intro hc2
        simp at hc2
        rw [List.take_of_length_le (by omega)] at hrow
        refine wc_exit (post_thenE (post_loopE (post_blockX (post_blockN (post_thenN ?_)))))
        refine wc_region [0,1] rfl ?_
        refine Go.Sx.V rfl wu rfl rfl (addI rfl rfl) ?_
        refine Go.Sx.V rfl wu rfl rfl (mv rfl) ?_
        refine wr_nil ?_
        exact post_loopN (i + 1) ⟨rfl, rfl, rfl, trivial⟩ ⟨by omega, rfl, by rw [htk, List.all_append, hall]; simp [smallB, hrow, show L.length ≤ 6 by omega]⟩ (by omega)
  · intro hc
    simp at hc
    rw [List.take_of_length_le (by omega)] at hall
    refine wc_exit (post_thenE (post_loopE (post_blockX (post_thenN (wc_seq ?_)))))
    refine wc_region [0] rfl ?_
    refine Go.Sx.V rfl wu rfl rfl (asg rfl) ?_
    refine wr_nil (post_thenN (wc_ret ?_))
    refine post_ret1 rfl rfl ?_
    exact ⟨Ext.refl _, by rw [hall]⟩

set_option maxRecDepth 10000 in
theorem lSame (u v : Value) (a b : List Int) (w : World) (hu : Ints w u a) (hv : Ints w v b) :
    Calls Try.prog 31 #[u, v] w (RetX w fun r _ => r = .bool (decide (a = b))) := by
  have hle := hu.le
  refine calls2 Try.func31 rfl rfl ?_
  refine wc_seq ?_
  refine wc_region [0] rfl ?_
  refine Go.Sx.V rfl wu rfl rfl (asg rfl) ?_
  refine wr_nil (post_thenN (wc_seq (wc_seq ?_)))
  refine wc_region [0,1,2,3,4] rfl ?_
  refine Go.Sx.V rfl wu rfl rfl (mv rfl) ?_
  refine Go.Sx.V rfl wu rfl rfl (lenI rfl ty22) ?_
  refine Go.Sx.V rfl wu rfl rfl (mv rfl) ?_
  refine Go.Sx.V rfl wu rfl rfl (lenI rfl ty22) ?_
  refine Go.Sx.V rfl wu rfl rfl (neqI rfl rfl) ?_
  refine wr_nil (post_thenN ?_)
  refine wc_cond rfl ?_ ?_
  · intro h
    simp at h
    refine wc_seq ?_
    refine wc_region [0] rfl ?_
    refine Go.Sx.V rfl wu rfl rfl (asg rfl) ?_
    refine wr_nil (post_thenN (wc_ret (post_thenR ?_)))
    refine post_ret1 rfl rfl ?_
    exact ⟨Ext.refl _, by rw [decide_eq_false (fun e => by rw [e] at h; omega)]⟩
  · intro h
    simp at h
    refine wc_skip (post_thenN (wc_seq (wc_seq ?_)))
    refine wc_region [0,1,2] rfl ?_
    refine Go.Sx.V rfl wu rfl rfl (mv rfl) ?_
    refine Go.Sx.V rfl wu rfl rfl (lenI rfl ty22) ?_
    refine Go.Sx.V rfl wu rfl rfl (mv rfl) ?_
    refine wr_nil (post_thenN (wc_block ?_))
    refine wc_loop (fun i : Nat => [(0, u), (1, v), (11, u), (12, .int .i64 a.length), (13, .int .i64 i)])
      (fun i w' => i ≤ a.length ∧ Ext w w' ∧ ∀ t : Nat, t < i → gi a t = gi b t) (fun i => a.length - i) 0 ⟨rfl, rfl, rfl, rfl, rfl, trivial⟩ ⟨by omega, Ext.refl _, fun t ht => by omega⟩ ?_
    rintro i w4 ⟨i1, hE, hent⟩
    have hui := hu.ext hE
    have hvi := hv.ext hE
    try dsimp only
    refine wc_seq ?_
    refine wc_region [0] rfl ?_
    refine Go.Sx.V rfl wu rfl rfl (lssI rfl rfl) ?_
    refine wr_nil (post_thenN (wc_seq ?_))
    refine wc_cond rfl ?_ ?_
    · intro hc
      simp at hc
      refine wc_skip (post_thenN (wc_seq (wc_block (wc_seq ?_))))
      refine wc_region [0,1] rfl ?_
      refine Go.Sx.V rfl wu rfl rfl (mv rfl) ?_
      refine Go.Sx.V rfl wu rfl rfl (asg rfl) ?_
      refine wr_nil (post_thenN (wc_seq ?_))
      refine wc_draw mixed [0,1,2,3,4,5,6,7,8] (by kernel_rfl) ?_
      intro w5 hd _
      replace hE := hE.trans hd
      replace hui := hui.ext hd
      replace hvi := hvi.ext hd
      refine Go.Sx.V rfl wu rfl rfl (mv rfl) ?_
      refine Go.Sx.V rfl wu rfl rfl (mv rfl) ?_
      refine Go.Sx.V rfl wu rfl rfl (iadI rfl rfl ty22 hui (by omega) (by omega)) ?_
      refine Go.Sx.V rfl wu rfl rfl (ldI rfl na3 hui) ?_
      refine Go.Sx.V rfl wu rfl rfl (mv rfl) ?_
      refine Go.Sx.V rfl wu rfl rfl (mv rfl) ?_
      refine Go.Sx.V rfl wu rfl rfl (iadI rfl rfl ty22 hvi (by omega) (by omega)) ?_
      refine Go.Sx.V rfl wu rfl rfl (ldI rfl na3 hvi) ?_
      refine Go.Sx.V rfl wu rfl rfl (neqI rfl rfl) ?_
      refine wr_nil (post_thenN ?_)
      refine wc_cond rfl ?_ ?_
      · intro hx
        simp at hx
        refine wc_seq ?_
        refine wc_region [0] rfl ?_
        refine Go.Sx.V rfl wu rfl rfl (asg rfl) ?_
        refine wr_nil (post_thenN (wc_ret (post_blockR (post_thenR (post_loopR (post_blockR (post_thenR ?_)))))))
        refine post_ret1 rfl rfl ?_
        exact ⟨hE, by rw [decide_eq_false (fun e => hx (by rw [e]))]⟩
      · intro hx
        simp at hx
        refine wc_skip (post_blockN (post_thenN ?_))
        refine wc_region [0,1] rfl ?_
        refine Go.Sx.V rfl wu rfl rfl (addI rfl rfl) ?_
        refine Go.Sx.V rfl wu rfl rfl (mv rfl) ?_
        refine wr_nil ?_
        exact post_loopN (i + 1) ⟨rfl, rfl, rfl, rfl, rfl, trivial⟩ ⟨by omega, hE, fun t ht => by
          rcases Nat.lt_or_ge t i with h1 | h1
          · exact hent t h1
          · obtain rfl : t = i := by omega
            exact hx⟩ (by omega)
    · intro hc
      simp at hc
      refine wc_exit (post_thenE (post_loopE (post_blockX (post_thenN (wc_seq ?_)))))
      refine wc_region [0] rfl ?_
      refine Go.Sx.V rfl wu rfl rfl (asg rfl) ?_
      refine wr_nil (post_thenN (wc_ret ?_))
      refine post_ret1 rfl rfl ?_
      exact ⟨hE, by rw [decide_eq_true (row_ext (by omega) (fun t ht => hent t (by omega)))]⟩

theorem bdF2 (p M : Int) : ∀ w, (Instr.build 24 #[(0, .int .i64 p), (1, .int .i64 M)]).run Try.prog w = .ok (.agg #[.int .i64 p, .int .i64 M, .slice none 0 0]) w := fun w => by
  obtain ⟨zv, h1, h2⟩ := zeroF w
  simp [Instr.build, h1, h2, run_underlying Try.underlying24, szInt, szSl, Instr.fill, cells_i]
theorem pair_inj {a b c d : Value} (h : Value.tuple #[a, b] = .tuple #[c, d]) : a = c ∧ b = d := by
  have h1 := Value.tuple.inj h
  simp at h1
  exact h1

set_option maxRecDepth 10000 in
theorem lAlive (w : World) : Calls Try.prog 16 #[] w (RetX w fun v _ => v = .bool true) := by
  have rb2 : RB 2 exL := fun j => by
    match j with
    | 0 => simp [exL]
    | 1 => simp [exL]
    | 2 => simp [exL]
    | j + 3 => simp [exL]
  refine calls0 Try.func16 rfl ?_
  refine wc_seq ?_
  refine wc_region [0] rfl ?_
  refine Go.Sx.V rfl wu rfl rfl (asg rfl) ?_
  refine wr_nil (post_thenN (wc_seq ?_))
  refine wc_region [0,1,2] rfl ?_
  refine Go.Sx.V rfl wu rfl rfl (bld (us := [.int .i64 2, .int .i64 1]) (r := [.int .i64 2, .int .i64 1, .slice none 0 0]) rfl (bdF2 2 1)) ?_
  refine C rfl wu rfl rfl Try.call17 (lMade 2 1 (.slice none 0 0) [] _ (Ints.nil _)) ?_
  rintro g w1 hE hm
  refine Go.Sx.V rfl wu rfl rfl (asg rfl) ?_
  refine wr_nil (post_thenN (wc_seq (wc_seq ?_)))
  rcases hm with ⟨_, hno⟩ | ⟨hok, hG⟩
  · exact absurd okF2 hno
  obtain ⟨P, hP⟩ : ∃ P, P = fpOf 2 1 [] hok.1.1 hok.1.2.1 := ⟨_, rfl⟩
  have hp2 : P.p = 2 := by rw [hP]; rfl
  rw [← hP] at hG
  have hK := hG.nzd
  obtain ⟨ga, hga⟩ : ∃ ga, g = .pointer (some ga) := by
    obtain ⟨gb, _, _, _, _, _, _, rfl, _⟩ := hG.ex
    exact ⟨_, rfl⟩
  refine wc_region [0,1] rfl ?_
  refine Go.Sx.V rfl wu rfl rfl (mv rfl) ?_
  rw [hga]
  refine Go.Sx.V rfl wu rfl rfl (eqlPn rfl rfl Try.underlying28) ?_
  rw [← hga]
  refine wr_nil (post_thenN ?_)
  refine wc_condF rfl (by simp) ?_
  refine wc_skip (post_thenN (wc_seq ?_))
  refine wc_region [0,1,2,3] rfl ?_
  refine BSI (zs := [0, 1]) rfl wu rfl rfl rfl rfl ty22 ?_
  intro a1 w2 hE2 _ h1 _
  replace hG := hG.ext hE2
  replace hE := hE.trans hE2
  refine BSI (zs := [1]) rfl wu rfl rfl rfl rfl ty22 ?_
  intro a2 w3 hE3 _ h2 _
  replace hG := hG.ext hE3
  replace hE := hE.trans hE3
  replace h1 := h1.ext hE3
  refine BSL (us := [.slice none 0 0, a1, a2]) (L := exL) rfl wu rfl rfl rfl rfl ty26 (rows3 (Ints.nil _) h1 h2) ?_
  intro pv w4 hE4 hpv
  replace hG := hG.ext hE4
  replace hE := hE.trans hE4
  refine Go.Sx.V rfl wu rfl rfl (asg rfl) ?_
  refine wr_nil (post_thenN (wc_seq ?_))
  refine wc_region [0,1,2,3,4,5,6,7] rfl ?_
  refine Go.Sx.V rfl wu rfl rfl (mv rfl) ?_
  refine Go.Sx.V rfl wu rfl rfl (mv rfl) ?_
  refine C rfl wu rfl rfl Try.call30 (bRoots P g pv exL 2 2 _ hG hpv rb2 (by decide) (by decide)) ?_
  rintro _ w5 hE5 ⟨s, e, L, rfl, hL, hres⟩
  replace hG := hG.ext hE5
  replace hE := hE.trans hE5
  replace hpv := hpv.ext hE5
  refine Go.Sx.V rfl wu rfl rfl (mv rfl) ?_
  refine Go.Sx.V rfl wu rfl rfl (ext rfl rfl) ?_
  refine Go.Sx.V rfl wu rfl rfl (ext rfl rfl) ?_
  refine Go.Sx.V rfl wu rfl rfl (asg rfl) ?_
  refine Go.Sx.V rfl wu rfl rfl (asg rfl) ?_
  refine wr_nil (post_thenN (wc_seq ?_))
  have hL2 : e = 0 ∧ L = [[], [0, 1]] := by
    rcases hres with ⟨h, _⟩ | ⟨_, h, _⟩ | ⟨_, _, h1, h2⟩
    · exact absurd h ex_ne
    · exact absurd (by omega) h
    · refine ⟨h1, ?_⟩
      rw [h2]
      exact ex_found hK hp2
  obtain ⟨rfl, rfl⟩ := hL2
  obtain ⟨rows, hs, hrl, hrr⟩ := hL.row
  obtain ⟨r0, hr0, hi0⟩ := hrr 0 (by decide)
  obtain ⟨r1, hr1, hi1⟩ := hrr 1 (by decide)
  have hrl2 : rows.length = 2 := hrl
  refine wc_region [0,1,2,3,4,5,6,7] rfl ?_
  refine Go.Sx.V rfl wu rfl rfl (mv rfl) ?_
  refine Go.Sx.V rfl wu rfl rfl (mv rfl) ?_
  refine C rfl wu rfl rfl Try.call26 (bDegree P g pv exL 3 2 _ hG hpv rb2 (by decide) (by decide)) ?_
  rintro dv w6 hE6 hdg
  replace hG := hG.ext hE6
  replace hE := hE.trans hE6
  replace hpv := hpv.ext hE6
  replace hs := hs.ext hE6
  replace hi0 := hi0.ext hE6
  replace hi1 := hi1.ext hE6
  rw [ex_deg] at hdg
  obtain rfl : dv = .tuple #[.int .i64 6, .int .i64 0] := hdg.elim (fun h => absurd (by omega) h.1) (·.2)
  refine Go.Sx.V rfl wu rfl rfl (mv rfl) ?_
  refine Go.Sx.V rfl wu rfl rfl (ext rfl rfl) ?_
  refine Go.Sx.V rfl wu rfl rfl (ext rfl rfl) ?_
  refine Go.Sx.V rfl wu rfl rfl (asg rfl) ?_
  refine Go.Sx.V rfl wu rfl rfl (asg rfl) ?_
  refine wr_nil (post_thenN (wc_seq ?_))
  refine wc_region [0,1,2,3,4,5,6,7,8,9,10,11,12,13,14,15,16,17,18,19,20,21,22,23,24,25,26,27,28,29,30,31,32,33,34,35] rfl ?_
  refine Go.Sx.V rfl wu rfl rfl (mv rfl) ?_
  refine Go.Sx.V rfl wu rfl rfl (eqlI rfl rfl) ?_
  refine Go.Sx.V rfl wu rfl rfl (mv rfl) ?_
  refine KB 28 true rfl (by rfl) ?_
  refine Go.Sx.V rfl (wg rfl rfl) rfl rfl (mv rfl) ?_
  refine Go.Sx.V rfl (wg rfl rfl) rfl rfl (lenS rfl ty25 hs) ?_
  refine Go.Sx.V rfl (wg rfl rfl) rfl rfl (eqlI rfl rfl) ?_
  refine Go.Sx.V rfl wu rfl rfl (pk rfl rfl) ?_
  refine Go.Sx.V rfl wu rfl rfl (mv rfl) ?_
  refine KB 33 true rfl (by first | rfl | (rw [hrl2]; rfl)) ?_
  refine Go.Sx.V rfl (wg rfl rfl) rfl rfl (mv rfl) ?_
  refine Go.Sx.V rfl (wg rfl rfl) rfl rfl (iad rfl rfl ty25 hs (by omega) (by omega)) ?_
  refine Go.Sx.V rfl (wg rfl rfl) rfl rfl (ldE rfl na22 hs hr0) ?_
  refine Go.Sx.V rfl (wg rfl rfl) rfl rfl (lenI rfl ty22 hi0) ?_
  refine Go.Sx.V rfl (wg rfl rfl) rfl rfl (eqlI rfl rfl) ?_
  refine Go.Sx.V rfl wu rfl rfl (pk rfl rfl) ?_
  refine Go.Sx.V rfl wu rfl rfl (mv rfl) ?_
  refine KB 40 true rfl (by first | rfl | (rw [hrl2]; rfl)) ?_
  refine Go.Sx.V rfl (wg rfl rfl) rfl rfl (mv rfl) ?_
  refine Go.Sx.V rfl (wg rfl rfl) rfl rfl (iad rfl rfl ty25 hs (by omega) (by omega)) ?_
  refine Go.Sx.V rfl (wg rfl rfl) rfl rfl (ldE rfl na22 hs hr1) ?_
  refine BSI (zs := [0, 1]) rfl (wg rfl rfl) rfl rfl rfl rfl ty22 ?_
  intro a3 w7 hE7 _ h3 _
  replace hG := hG.ext hE7
  replace hE := hE.trans hE7
  replace hpv := hpv.ext hE7
  replace hi1 := hi1.ext hE7
  refine C rfl (wg rfl rfl) rfl rfl Try.call31 (lSame r1 a3 _ _ _ hi1 h3) ?_
  rintro _ w8 hE8 rfl
  replace hG := hG.ext hE8
  replace hE := hE.trans hE8
  replace hpv := hpv.ext hE8
  refine Go.Sx.V rfl wu rfl rfl (pk rfl rfl) ?_
  refine Go.Sx.V rfl wu rfl rfl (mv rfl) ?_
  refine KB 47 true rfl (by first | rfl | (rw [hrl2]; rfl)) ?_
  refine Go.Sx.V rfl (wg rfl rfl) rfl rfl (mv rfl) ?_
  refine Go.Sx.V rfl (wg rfl rfl) rfl rfl (eqlI rfl rfl) ?_
  refine Go.Sx.V rfl wu rfl rfl (pk rfl rfl) ?_
  refine Go.Sx.V rfl wu rfl rfl (mv rfl) ?_
  refine KB 51 true rfl (by first | rfl | (rw [hrl2]; rfl)) ?_
  refine Go.Sx.V rfl (wg rfl rfl) rfl rfl (mv rfl) ?_
  refine Go.Sx.V rfl (wg rfl rfl) rfl rfl (eqlI rfl rfl) ?_
  refine Go.Sx.V rfl wu rfl rfl (pk rfl rfl) ?_
  refine Go.Sx.V rfl wu rfl rfl (mv rfl) ?_
  refine KB 55 true rfl (by first | rfl | (rw [hrl2]; rfl)) ?_
  refine Go.Sx.V rfl (wg rfl rfl) rfl rfl (mv rfl) ?_
  refine Go.Sx.V rfl (wg rfl rfl) rfl rfl (mv rfl) ?_
  refine C rfl (wg rfl rfl) rfl rfl Try.call28 (bMultiplicity P g pv exL 0 0 2 _ hG hpv rb2 (by decide) (by decide)) ?_
  rintro _ w9 hE9 ⟨mv, rfl, hm⟩
  rw [inK0] at hm
  obtain rfl := ex_mult hm
  refine Go.Sx.V rfl (wg rfl rfl) rfl rfl (eqlI rfl rfl) ?_
  refine Go.Sx.V rfl wu rfl rfl (pk rfl rfl) ?_
  refine Go.Sx.V rfl wu rfl rfl (asg rfl) ?_
  refine wr_nil (post_thenN (wc_ret ?_))
  refine post_ret1 rfl rfl ?_
  exact ⟨hE.trans hE9, by first | rfl | (rw [hrl2]; rfl)⟩
end Go.Proofs.Ytjpcgjllmpdmhaa
