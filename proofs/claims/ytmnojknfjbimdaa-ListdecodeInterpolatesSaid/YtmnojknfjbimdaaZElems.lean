/-
  Elems
-/
import Derived.Test.YtmnojknfjbimdaaZMSya
import Derived.Test.YtmnojknfjbimdaaZMSxa
import Derived.Test.YtmnojknfjbimdaaZGF2
import Derived.Test.YtmnojknfjbimdaaZMPa
namespace Go.Sx
open Go Go.RowKit Go.Pl
end Go.Sx
namespace Go.Proofs.Ytmnojknfjbimdaa
open Go Go.Sx Go.Pl Go.RowKit Go.Fd Go.Alg
theorem naE63 : NA Try.prog 63 := fun w => Try.isAgg63 w
end Go.Proofs.Ytmnojknfjbimdaa

