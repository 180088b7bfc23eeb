/-
  Biv3
-/
import Derived.Test.YtmnojknfjbimdaaZBiv1
import Derived.Test.YtmnojknfjbimdaaZMPa
namespace Go.Proofs.Ytmnojknfjbimdaa
open Go Go.Sx Go.Pl Go.RowKit Go.Fd Go.Alg
end Go.Proofs.Ytmnojknfjbimdaa

