/-
  From the rows' data to the framework's words: arguments of struct types, a field's description, lists of lists.
-/
import Derived.Test.YtlcokneidokfnaaFrame
namespace Go.Fr
open Go Go.Sx Go.Pl Go.RowKit Go.ChangeShapes Go.WideShapes
section
variable {H : Type} {enc : TypeId × Value → H} {P : Program} {w : World} {base : Nat} {spare : Nat → Bool} {held : Bool} {t e : TypeId} {fuel : Nat} {cs : List Value} {d : DataW H} {ps : List MemPlace}
theorem cop_struct {fs : Array Field} (ht : P.underlying t = some (.struct fs)) (h : DataW.trod enc P w base spare held fuel t cs = some (d, ps)) (hw : WOK P t d) :
    cs.length = P.cellsOf t ∧ ∀ (i : Nat) (f : Field), fs[i]? = some f → ∃ n x, DataW.trod enc P w base spare held n f.type ((cs.drop f.offset).take (P.cellsOf f.type)) = some x ∧ WOK P f.type x.1 := by
  obtain ⟨xs, n, _, hx, hl, hxl, hf⟩ := DataW.trod_struct ht h
  obtain ⟨rfl, _⟩ := Prod.mk.inj hx
  refine ⟨hl, fun i f hi => ?_⟩
  have hlt : i < xs.length := by
    rw [hxl]
    exact (Array.getElem?_eq_some_iff.1 hi).1
  refine ⟨n, xs[i], by rw [hf i f hi]; simp [hlt], ?_⟩
  have hw' : (DataW.weightsEach P (fs.toList.map (·.type)) (xs.map (·.1))).all (· ≤ reachBytes) = true := by
    have := hw
    simpa [WOK, DataW.weights, ht] using this
  exact wok_arg hw' (j := i) (by simp [hi]) (by simp [hlt])
/-- A field's description. -/
structure FRec where
  p : Int
  M : Int
  mo : Value
  md : List Int
def FRec.v (r : FRec) : Value := .agg #[.int .i64 r.p, .int .i64 r.M, r.mo]
structure FOf (w : World) (r : FRec) : Prop where
  ints : Ints w r.mo r.md
  p : Fits r.p
  M : Fits r.M
  md : LFit r.md
/-- What the type of a description is. -/
structure FT (P : Program) (t : TypeId) : Prop where
  ex : ∃ (f0 f1 f2 : Field) (e : TypeId), P.underlying t = some (.struct #[f0, f1, f2]) ∧ P.cellsOf t = 3 ∧ f0.offset = 0 ∧ f1.offset = 1 ∧ f2.offset = 2 ∧ P.cellsOf f0.type = 1 ∧ P.cellsOf f1.type = 1 ∧ P.cellsOf f2.type = 1 ∧
    P.underlying f0.type = some (.int .i64) ∧ P.underlying f1.type = some (.int .i64) ∧ P.underlying f2.type = some (.slice e) ∧ P.underlying e = some (.int .i64) ∧ P.cellsOf e = 1 ∧ P.bytesOf e = 8
theorem cop_field (hT : FT P t) (h : DataW.trod enc P w base spare held fuel t cs = some (d, ps)) (hw : WOK P t d) :
    ∃ r : FRec, cs = [.int .i64 r.p, .int .i64 r.M, r.mo] ∧ FOf w r := by
  obtain ⟨f0, f1, f2, e, ht, hC, o0, o1, o2, c0, c1, c2, u0, u1, u2, ue, ce, be⟩ := hT.ex
  obtain ⟨hl, hf⟩ := cop_struct ht h hw
  rw [hC] at hl
  match cs, hl with
  | [a, b, c], _ =>
    obtain ⟨n0, x0, h0, w0⟩ := hf 0 f0 rfl
    obtain ⟨n1, x1, h1, w1⟩ := hf 1 f1 rfl
    obtain ⟨n2, x2, h2, w2⟩ := hf 2 f2 rfl
    rw [o0, c0] at h0
    rw [o1, c1] at h1
    rw [o2, c2] at h2
    obtain ⟨p, hp, bp⟩ := cop_int u0 (d := x0.1) (ps := x0.2) h0
    obtain ⟨M, hM, bM⟩ := cop_int u1 (d := x1.1) (ps := x1.2) h1
    obtain ⟨mo, md, hm, hi, bm⟩ := cop_intsL u2 ue ce be (d := x2.1) (ps := x2.2) h2 w2
    simp at hp hM hm
    subst hp hM hm
    exact ⟨⟨p, M, c, md⟩, rfl, hi, bp, bM, bm⟩
theorem op_struct {fs : Array Field} {r : Reach} {b0 : Nat} {v : Value} (ht : P.underlying t = some (.struct fs)) (hval : Value.okWide P w r b0 t v) (hd : DataW.Trod enc P w base spare held t v d ps) :
    ∃ (cs : Array Value) (fuel : Nat), v = .agg cs ∧ DataW.trod enc P w base spare held fuel t cs.toList = some (d, ps) := by
  obtain ⟨cs, rfl, _⟩ := okWide_struct ht hval
  obtain ⟨fuel, hf⟩ := hd
  exact ⟨cs, fuel, rfl, hf⟩
theorem op_fieldT {r : Reach} {b0 : Nat} {v : Value} (hT : FT P t) (hval : Value.okWide P w r b0 t v) (hd : DataW.Trod enc P w base spare held t v d ps) (hw : WOK P t d) : ∃ r : FRec, v = r.v ∧ FOf w r := by
  obtain ⟨f0, f1, f2, e, ht, _⟩ := hT.ex
  obtain ⟨cs, fuel, rfl, hf⟩ := op_struct ht hval hd
  obtain ⟨r, hr, ho⟩ := cop_field hT hf hw
  refine ⟨r, ?_, ho⟩
  rw [FRec.v, ← hr]
/-- A field with three lists. -/
structure LRec where
  f : FRec
  A : Value
  B : Value
  C : Value
  a : List Int
  b : List Int
  c : List Int
def LRec.v (r : LRec) : Value := .agg #[.int .i64 r.f.p, .int .i64 r.f.M, r.f.mo, r.A, r.B, r.C]
structure LOf (w : World) (r : LRec) : Prop where
  f : FOf w r.f
  A : Ints w r.A r.a
  B : Ints w r.B r.b
  C : Ints w r.C r.c
  a : LFit r.a
  b : LFit r.b
  c : LFit r.c
structure LT (P : Program) (t : TypeId) : Prop where
  ex : ∃ (f0 f1 f2 f3 : Field) (e : TypeId), P.underlying t = some (.struct #[f0, f1, f2, f3]) ∧ P.cellsOf t = 6 ∧ f0.offset = 0 ∧ f1.offset = 3 ∧ f2.offset = 4 ∧ f3.offset = 5 ∧ P.cellsOf f0.type = 3 ∧ P.cellsOf f1.type = 1 ∧ P.cellsOf f2.type = 1 ∧ P.cellsOf f3.type = 1 ∧
    FT P f0.type ∧ P.underlying f1.type = some (.slice e) ∧ P.underlying f2.type = some (.slice e) ∧ P.underlying f3.type = some (.slice e) ∧ P.underlying e = some (.int .i64) ∧ P.cellsOf e = 1 ∧ P.bytesOf e = 8
theorem op_listsT {r : Reach} {b0 : Nat} {v : Value} (hT : LT P t) (hval : Value.okWide P w r b0 t v) (hd : DataW.Trod enc P w base spare held t v d ps) (hw : WOK P t d) : ∃ r : LRec, v = r.v ∧ LOf w r := by
  obtain ⟨f0, f1, f2, f3, e, ht, hC, o0, o1, o2, o3, c0, c1, c2, c3, u0, u1, u2, u3, ue, ce, be⟩ := hT.ex
  obtain ⟨cs, fuel, rfl, h⟩ := op_struct ht hval hd
  obtain ⟨hl, hf⟩ := cop_struct ht h hw
  rw [hC] at hl
  obtain ⟨l⟩ := cs
  simp only at hl h hf
  match l, hl with
  | [a0, a1, a2, a3, a4, a5], _ =>
    obtain ⟨n0, x0, h0, w0⟩ := hf 0 f0 rfl
    obtain ⟨n1, x1, h1, w1⟩ := hf 1 f1 rfl
    obtain ⟨n2, x2, h2, w2⟩ := hf 2 f2 rfl
    obtain ⟨n3, x3, h3, w3⟩ := hf 3 f3 rfl
    rw [o0, c0] at h0
    rw [o1, c1] at h1
    rw [o2, c2] at h2
    rw [o3, c3] at h3
    obtain ⟨rf, hrf, hof⟩ := cop_field u0 (d := x0.1) (ps := x0.2) h0 w0
    obtain ⟨va, la, ea, ia, ba⟩ := cop_intsL u1 ue ce be (d := x1.1) (ps := x1.2) h1 w1
    obtain ⟨vb, lb, eb, ib, bb⟩ := cop_intsL u2 ue ce be (d := x2.1) (ps := x2.2) h2 w2
    obtain ⟨vc, lc, ec, ic, bc⟩ := cop_intsL u3 ue ce be (d := x3.1) (ps := x3.2) h3 w3
    simp at hrf ea eb ec
    subst ea eb ec
    refine ⟨⟨rf, a3, a4, a5, la, lb, lc⟩, ?_, hof, ia, ib, ic, ba, bb, bc⟩
    rw [LRec.v, hrf.1, hrf.2.1, hrf.2.2]
end
end Go.Fr
