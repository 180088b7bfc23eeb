/-
  The reference's polynomials in two variables, by contract, part 2: Eval, Substitute, Degree, Less.
-/
import Derived.Test.YtmnojknfjbimdaaGreatURBiv1
namespace Go.Proofs.YtmnojknfjbimdaaGreat
open Go Go.Sx Go.Pl Go.RowKit Go.Fd Go.Alg
end Go.Proofs.YtmnojknfjbimdaaGreat

