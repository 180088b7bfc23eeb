/-
  Compare
-/
import Derived.Test.YtmnojknfjbimdaaZMTya
namespace Go.Proofs.Ytmnojknfjbimdaa
open Go Go.Sx Go.Pl Go.RowKit
end Go.Proofs.Ytmnojknfjbimdaa

