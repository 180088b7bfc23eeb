/-
  RBiv1
-/
import Derived.Test.YtmnojknfjbimdaaGreatZRPoly
namespace Go.Fd
open Go.Pl Go.Alg
variable {P : FP}
def LessP (f g : Pol (K P)) (k : Nat) : Prop := ∃ i, i < k ∧ (∀ t, t < i → f.co t = g.co t) ∧ (f.co i).1 < (g.co i).1
end Go.Fd
namespace Go.Proofs.YtmnojknfjbimdaaGreat
open Go Go.Sx Go.Pl Go.RowKit Go.Fd Go.Alg
end Go.Proofs.YtmnojknfjbimdaaGreat

