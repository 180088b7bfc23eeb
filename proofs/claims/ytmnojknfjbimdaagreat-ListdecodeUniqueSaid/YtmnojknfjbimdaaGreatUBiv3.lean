/-
  The package bivariate, by contract, part 2: weighted, Degree, shift, Multiplicity.
-/
import Derived.Test.YtmnojknfjbimdaaGreatUBiv1
import Derived.Test.YtmnojknfjbimdaaGreatUMPa
namespace Go.Proofs.YtmnojknfjbimdaaGreat
open Go Go.Sx Go.Pl Go.RowKit Go.Fd Go.Alg
end Go.Proofs.YtmnojknfjbimdaaGreat

