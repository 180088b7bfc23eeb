/-
  Chapter 41's way into its laws: the arguments' types.
-/
import Derived.Test.YtmnojknfjbimdaaGreatWMSxa
import Derived.Test.YtmnojknfjbimdaaGreatWMTya
import Derived.Test.YtmnojknfjbimdaaGreatWMRfa
namespace Go.Proofs.YtmnojknfjbimdaaGreat
open Go Go.Sx Go.Pl Go.RowKit Go.Fd Go.Alg Go.Fr
theorem ft : FT Tryz.prog 24 := ⟨⟨_, _, _, 3, Tryz.underlying24, by kernel_rfl, rfl, rfl, rfl, by kernel_rfl, by kernel_rfl, by kernel_rfl, Tryz.underlying3, Tryz.underlying3, Tryz.underlying22, Tryz.underlying3, by kernel_rfl, by kernel_rfl⟩⟩
structure GRec where
  f : FRec
  k : Int
  pu : Value
  xs : List Int
  mu : Value
  ms : List Int
def GRec.val (r : GRec) : Value := .agg #[.int .i64 r.f.p, .int .i64 r.f.M, r.f.mo, .int .i64 r.k, r.pu, r.mu]
structure GOf (w : World) (r : GRec) : Prop where
  f : FOf w r.f
  k : Go.Fr.Fits r.k
  xs : Ints w r.pu r.xs
  ms : Ints w r.mu r.ms
structure CRec where
  s : GRec
  wu : Value
  ws : List Int
  t : Int
def CRec.val (r : CRec) : Value := .agg #[.int .i64 r.s.f.p, .int .i64 r.s.f.M, r.s.f.mo, .int .i64 r.s.k, r.s.pu, r.s.mu, r.wu, .int .i64 r.t]
structure COf (w : World) (r : CRec) : Prop where
  s : GOf w r.s
  ws : Ints w r.wu r.ws
  t : Go.Fr.Fits r.t
structure PRec where
  pu : Value
  A : List (List Int)
  lu : Value
  L : List (List Int)
  mu : Value
  ms : List Int
def PRec.val (r : PRec) : Value := .agg #[r.pu, r.lu, r.mu]
structure POf (w : World) (r : PRec) : Prop where
  A : LL w r.pu r.A
  L : LL w r.lu r.L
  ms : Ints w r.mu r.ms
section
variable {H : Type} {enc : TypeId × Value → H} {w : World} {base : Nat} {held : Bool} {d : DataW H} {ps : List MemPlace} {r : Reach} {b0 : Nat} {v : Value} {fuel : Nat} {cs : List Value}
set_option maxRecDepth 100000 in
theorem cop_grs (h : DataW.trod enc Tryz.prog w base (fun _ => true) held fuel 26 cs = some (d, ps)) (hw : WOK Tryz.prog 26 d) :
    ∃ x : GRec, cs = [.int .i64 x.f.p, .int .i64 x.f.M, x.f.mo, .int .i64 x.k, x.pu, x.mu] ∧ GOf w x := by
  obtain ⟨hl, hf⟩ := cop_struct Tryz.underlying26 h hw
  rw [show Tryz.prog.cellsOf 26 = 6 by kernel_rfl] at hl
  have c1 : Tryz.prog.cellsOf 3 = 1 := by kernel_rfl
  have c3 : Tryz.prog.cellsOf 24 = 3 := by kernel_rfl
  have c4 : Tryz.prog.cellsOf 22 = 1 := by kernel_rfl
  match cs, hl with
  | [a0, a1, a2, a3, a4, a5], _ =>
    obtain ⟨n0, x0, h0, w0⟩ := hf 0 _ rfl
    obtain ⟨n1, x1, h1, w1⟩ := hf 1 _ rfl
    obtain ⟨n2, x2, h2, w2⟩ := hf 2 _ rfl
    obtain ⟨n3, x3, h3, w3⟩ := hf 3 _ rfl
    replace h0 : DataW.trod enc Tryz.prog w base (fun _ => true) held n0 24 (List.take (Tryz.prog.cellsOf 24) (List.drop 0 [a0, a1, a2, a3, a4, a5])) = some x0 := h0
    replace h1 : DataW.trod enc Tryz.prog w base (fun _ => true) held n1 3 (List.take (Tryz.prog.cellsOf 3) (List.drop 3 [a0, a1, a2, a3, a4, a5])) = some x1 := h1
    replace h2 : DataW.trod enc Tryz.prog w base (fun _ => true) held n2 22 (List.take (Tryz.prog.cellsOf 22) (List.drop 4 [a0, a1, a2, a3, a4, a5])) = some x2 := h2
    replace h3 : DataW.trod enc Tryz.prog w base (fun _ => true) held n3 22 (List.take (Tryz.prog.cellsOf 22) (List.drop 5 [a0, a1, a2, a3, a4, a5])) = some x3 := h3
    rw [c3] at h0
    rw [c1] at h1
    rw [c4] at h2 h3
    obtain ⟨rf, erf, hrf⟩ := cop_field ft (d := x0.1) (ps := x0.2) h0 w0
    obtain ⟨y1, e1, b1⟩ := cop_int Tryz.underlying3 (d := x1.1) (ps := x1.2) h1
    obtain ⟨v2, L2, e2, l2, _⟩ := cop_intsL Tryz.underlying22 Tryz.underlying3 (by kernel_rfl) (by kernel_rfl) (d := x2.1) (ps := x2.2) h2 w2
    obtain ⟨v3, L3, e3, l3, _⟩ := cop_intsL Tryz.underlying22 Tryz.underlying3 (by kernel_rfl) (by kernel_rfl) (d := x3.1) (ps := x3.2) h3 w3
    simp at erf e1 e2 e3
    subst e1 e2 e3
    obtain ⟨ea, eb, ec⟩ := erf
    exact ⟨⟨rf, y1, a4, L2, a5, L3⟩, by rw [ea, eb, ec], hrf, b1, l2, l3⟩
set_option maxRecDepth 100000 in
theorem op_case (hval : Value.okWide Tryz.prog w r b0 28 v) (hd : DataW.Trod enc Tryz.prog w base (fun _ => true) held 28 v d ps) (hw : WOK Tryz.prog 28 d) :
    ∃ x : CRec, v = x.val ∧ COf w x := by
  obtain ⟨cs, fuel, rfl, h⟩ := op_struct Tryz.underlying28 hval hd
  obtain ⟨hl, hf⟩ := cop_struct Tryz.underlying28 h hw
  rw [show Tryz.prog.cellsOf 28 = 8 by kernel_rfl] at hl
  have c1 : Tryz.prog.cellsOf 3 = 1 := by kernel_rfl
  have c6 : Tryz.prog.cellsOf 26 = 6 := by kernel_rfl
  have c4 : Tryz.prog.cellsOf 22 = 1 := by kernel_rfl
  obtain ⟨l⟩ := cs
  simp only at hl h hf
  match l, hl with
  | [a0, a1, a2, a3, a4, a5, a6, a7], _ =>
    obtain ⟨n0, x0, h0, w0⟩ := hf 0 _ rfl
    obtain ⟨n1, x1, h1, w1⟩ := hf 1 _ rfl
    obtain ⟨n2, x2, h2, w2⟩ := hf 2 _ rfl
    replace h0 : DataW.trod enc Tryz.prog w base (fun _ => true) held n0 26 (List.take (Tryz.prog.cellsOf 26) (List.drop 0 [a0, a1, a2, a3, a4, a5, a6, a7])) = some x0 := h0
    replace h1 : DataW.trod enc Tryz.prog w base (fun _ => true) held n1 22 (List.take (Tryz.prog.cellsOf 22) (List.drop 6 [a0, a1, a2, a3, a4, a5, a6, a7])) = some x1 := h1
    replace h2 : DataW.trod enc Tryz.prog w base (fun _ => true) held n2 3 (List.take (Tryz.prog.cellsOf 3) (List.drop 7 [a0, a1, a2, a3, a4, a5, a6, a7])) = some x2 := h2
    rw [c6] at h0
    rw [c4] at h1
    rw [c1] at h2
    obtain ⟨rg, erg, hrg⟩ := cop_grs (d := x0.1) (ps := x0.2) h0 w0
    obtain ⟨v1, L1, e1, l1, _⟩ := cop_intsL Tryz.underlying22 Tryz.underlying3 (by kernel_rfl) (by kernel_rfl) (d := x1.1) (ps := x1.2) h1 w1
    obtain ⟨y2, e2, b2⟩ := cop_int Tryz.underlying3 (d := x2.1) (ps := x2.2) h2
    simp at erg e1 e2
    subst e1 e2
    obtain ⟨ea, eb, ec, ed, ee, ef⟩ := erg
    exact ⟨⟨rg, a6, L1, y2⟩, by rw [CRec.val, ea, eb, ec, ed, ee, ef], hrg, l1, b2⟩
set_option maxRecDepth 100000 in
theorem op_proof (hval : Value.okWide Tryz.prog w r b0 32 v) (hd : DataW.Trod enc Tryz.prog w base (fun _ => true) held 32 v d ps) (hw : WOK Tryz.prog 32 d) :
    ∃ x : PRec, v = x.val ∧ POf w x := by
  obtain ⟨cs, fuel, rfl, h⟩ := op_struct Tryz.underlying32 hval hd
  obtain ⟨hl, hf⟩ := cop_struct Tryz.underlying32 h hw
  rw [show Tryz.prog.cellsOf 32 = 3 by kernel_rfl] at hl
  have c1 : Tryz.prog.cellsOf 30 = 1 := by kernel_rfl
  have c2 : Tryz.prog.cellsOf 29 = 1 := by kernel_rfl
  have c4 : Tryz.prog.cellsOf 22 = 1 := by kernel_rfl
  obtain ⟨l⟩ := cs
  simp only at hl h hf
  match l, hl with
  | [a0, a1, a2], _ =>
    obtain ⟨n0, x0, h0, w0⟩ := hf 0 _ rfl
    obtain ⟨n1, x1, h1, w1⟩ := hf 1 _ rfl
    obtain ⟨n2, x2, h2, w2⟩ := hf 2 _ rfl
    replace h0 : DataW.trod enc Tryz.prog w base (fun _ => true) held n0 30 (List.take (Tryz.prog.cellsOf 30) (List.drop 0 [a0, a1, a2])) = some x0 := h0
    replace h1 : DataW.trod enc Tryz.prog w base (fun _ => true) held n1 29 (List.take (Tryz.prog.cellsOf 29) (List.drop 1 [a0, a1, a2])) = some x1 := h1
    replace h2 : DataW.trod enc Tryz.prog w base (fun _ => true) held n2 22 (List.take (Tryz.prog.cellsOf 22) (List.drop 2 [a0, a1, a2])) = some x2 := h2
    rw [c1] at h0
    rw [c2] at h1
    rw [c4] at h2
    obtain ⟨v0, L0, e0, l0, _⟩ := cop_intss Tryz.underlying30 Tryz.underlying22 Tryz.underlying3 (by kernel_rfl) (by kernel_rfl) (by decide +kernel) (by kernel_rfl) (d := x0.1) (ps := x0.2) h0 w0
    obtain ⟨v1, L1, e1, l1, _⟩ := cop_intss Tryz.underlying29 Tryz.underlying22 Tryz.underlying3 (by kernel_rfl) (by kernel_rfl) (by decide +kernel) (by kernel_rfl) (d := x1.1) (ps := x1.2) h1 w1
    obtain ⟨v2, L2, e2, l2, _⟩ := cop_intsL Tryz.underlying22 Tryz.underlying3 (by kernel_rfl) (by kernel_rfl) (d := x2.1) (ps := x2.2) h2 w2
    simp at e0 e1 e2
    subst e0 e1 e2
    exact ⟨⟨a0, L0, a1, L1, a2, L2⟩, rfl, l0, l1, l2⟩
end
end Go.Proofs.YtmnojknfjbimdaaGreat

