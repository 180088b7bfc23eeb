/-
  The package bivariate, by contract, part 4: inverse, choose, Hasse; the description of a field.
-/
import Derived.Test.YtmnojknfjbimdaaGreatWBiv1
import Derived.Test.YtmnojknfjbimdaaGreatWMPa
import Derived.Test.YtmnojknfjbimdaaGreatWRPoly
import Derived.Test.YtmnojknfjbimdaaGreatWMSxa
namespace Go.Sx
open Go Go.Pl Go.RowKit
section
variable {P : Program} {N : Nat} {T : TypeId} {w : World} {l : List (Tmp × Value)}
end
end Go.Sx
namespace Go.Proofs.YtmnojknfjbimdaaGreat
open Go Go.Sx Go.Pl Go.RowKit Go.Fd Go.Alg
theorem zv24 : ZV Tryz.prog 24 [.int .i64 0, .int .i64 0, .slice none 0 0] := zeroF
theorem sv24 : ∀ w, (sizeOf 24).run Tryz.prog w = .ok 3 w := szF
end Go.Proofs.YtmnojknfjbimdaaGreat

