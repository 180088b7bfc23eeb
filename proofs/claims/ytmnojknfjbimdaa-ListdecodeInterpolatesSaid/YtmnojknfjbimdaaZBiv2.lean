/-
  Biv2
-/
import Derived.Test.YtmnojknfjbimdaaZBiv1
import Derived.Test.YtmnojknfjbimdaaZPoly2
import Derived.Test.YtmnojknfjbimdaaZMSxa
import Derived.Test.YtmnojknfjbimdaaZMPa
namespace Go.Proofs.Ytmnojknfjbimdaa
open Go Go.Sx Go.Pl Go.RowKit Go.Fd Go.Alg
end Go.Proofs.Ytmnojknfjbimdaa

