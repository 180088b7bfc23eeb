/-
  The reference's polynomials, by contract: Canon, Degree, At, Add, Mul, Eval, Scale. Each answers the canonical list of the polynomial that is meant.
-/
import Derived.Test.YtmnojknfjbimdaaGreatUMPa
import Derived.Test.YtmnojknfjbimdaaGreatURef6
import Derived.Test.YtmnojknfjbimdaaGreatUMTya
namespace Go.Fd
open Go.Pl Go.Alg
variable {P : FP}
end Go.Fd
namespace Go.Proofs.YtmnojknfjbimdaaGreat
open Go Go.Sx Go.Pl Go.RowKit Go.Fd Go.Alg
end Go.Proofs.YtmnojknfjbimdaaGreat

