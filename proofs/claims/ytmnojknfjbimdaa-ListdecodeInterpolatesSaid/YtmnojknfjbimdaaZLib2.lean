/-
  Lib2
-/
import Derived.Test.YtmnojknfjbimdaaZLib1
namespace Go.Sx
open Go Go.RowKit Go.Pl
def Sorts (B : Nat) (w w' : World) : Prop := ∀ w0 : World, w0.heap.size ≤ B → Ext w0 w → Ext w0 w'
end Go.Sx
namespace Go.Proofs.Ytmnojknfjbimdaa
open Go Go.Sx Go.Pl Go.RowKit Go.Fd
end Go.Proofs.Ytmnojknfjbimdaa

