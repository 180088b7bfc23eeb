/-
  Statement ListdecodeSound: for every case the law returns true. No condition.
-/
import Derived.Test.YtmnojknfjbimdaaGreatWLaw41p
import Derived.Test.YtmnojknfjbimdaaGreatWListdLaws
import Derived.Test.YtmnojknfjbimdaaGreatWRLin4
import Derived.Test.YtmnojknfjbimdaaGreatWCompare
namespace Go.Proofs.YtmnojknfjbimdaaGreat
open Go Go.Sx Go.Pl Go.RowKit Go.Fd Go.Alg Go.Ld Go.Fr
theorem okF_fp {P : FP} {p M : Int} {md : List Int} (h : OkF p M md) (e : P = fpOf p M md h.1.1 h.1.2.1) : OkF P.p P.M md := by
  have h1 := h.1.2.1
  rw [e]
  show OkF p ((M.toNat : Nat) : Int) md
  rw [show ((M.toNat : Nat) : Int) = M by omega]
  exact h
theorem asc_at {R : List (List Int)} (h : Asc R) {i j : Nat} (hij : i < j) (hj : j < R.length) : cmpL (R.getD i []) (R.getD j []) < 0 := by
  have := List.pairwise_iff_getElem.1 h i j (by omega) hj hij
  rw [List.getD_eq_getElem?_getD, List.getD_eq_getElem?_getD, List.getElem?_eq_getElem hj, List.getElem?_eq_getElem (show i < R.length by omega)]
  exact this
theorem mem_at {R : List (List Int)} {i : Nat} (hi : i < R.length) : R.getD i [] ∈ R := by
  rw [List.getD_eq_getElem?_getD, List.getElem?_eq_getElem hi]
  exact List.getElem_mem hi
def LdCase (x : CRec) (w : World) (lv : Value) : Prop := (errC x ≠ 0 ∧ lv = .slice none 0 0) ∨ (errC x = 0 ∧ ∃ P m D L R Q, TkP P x m D L ∧ par x.s.xs.length x.s.k x.t = ([m, D, L], 0) ∧ LL w lv R ∧ (∃ gv, GFV w P gv) ∧ IsNear P x.s.xs x.s.ms x.ws x.s.k x.t Q R ∧ R.length ≤ L.toNat)
end Go.Proofs.YtmnojknfjbimdaaGreat

