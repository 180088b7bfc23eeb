/-
  The reference's polynomials in two variables, by contract: Canon, Same, At, Add, Mul, Eval, Substitute, Degree, Less.
-/
import Derived.Test.YtmnojknfjbimdaaGreatURPoly
namespace Go.Fd
open Go.Pl Go.Alg
variable {P : FP}
theorem YB.npow {R : Type} [CR R] {n : Nat} {f : Pol R} (h : YB (n + 1) f) : ∀ i, YB (i * n + 1) (npow f i)
  | 0 => by rw [npow_zero]; exact fun i hi => by rw [co_one, if_neg (by omega)]
  | i + 1 => by
    rw [npow_succ]
    have := YB.mul' (YB.npow h i) h
    refine this.mono ?_
    rw [Nat.add_mul]; omega
def LessP (f g : Pol (K P)) (k : Nat) : Prop := ∃ i, i < k ∧ (∀ t, t < i → f.co t = g.co t) ∧ (f.co i).1 < (g.co i).1
end Go.Fd
namespace Go.Proofs.YtmnojknfjbimdaaGreat
open Go Go.Sx Go.Pl Go.RowKit Go.Fd Go.Alg
end Go.Proofs.YtmnojknfjbimdaaGreat

