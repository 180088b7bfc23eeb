/-
  RBiv2
-/
import Derived.Test.YtmnojknfjbimdaaGreatZRBiv1
namespace Go.Proofs.YtmnojknfjbimdaaGreat
open Go Go.Sx Go.Pl Go.RowKit Go.Fd Go.Alg
end Go.Proofs.YtmnojknfjbimdaaGreat

