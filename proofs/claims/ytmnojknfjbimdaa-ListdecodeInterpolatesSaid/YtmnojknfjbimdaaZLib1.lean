/-
  Lib1
-/
import Derived.Test.YtmnojknfjbimdaaZMSxa
import Derived.Test.YtmnojknfjbimdaaZCompare
import Derived.Test.YtmnojknfjbimdaaZMPa
import Derived.Test.YtmnojknfjbimdaaZMTya
namespace Go.Proofs.Ytmnojknfjbimdaa
open Go Go.Sx Go.Pl Go.RowKit Go.Fd
end Go.Proofs.Ytmnojknfjbimdaa

