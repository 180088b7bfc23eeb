/-
  The reference's product of two elements, by contract: it is that of the ring of residues; and its sum of products.
-/
import Derived.Test.YtmnojknfjbimdaaGreatURef5
namespace Go.Proofs.YtmnojknfjbimdaaGreat
open Go Go.Sx Go.Pl Go.RowKit Go.Fd Go.Alg
def pl (P : FP) (l : List Int) (n : Nat) : K P := pe P (fun t => l.getD t 0) n
end Go.Proofs.YtmnojknfjbimdaaGreat

