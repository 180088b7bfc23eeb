/-
  The reference's linear algebra, by contract: powers, rows, copies, multiples, sums.
-/
import Derived.Test.YtmnojknfjbimdaaGreatURGrs
import Derived.Test.YtmnojknfjbimdaaGreatUMPa
import Derived.Test.YtmnojknfjbimdaaGreatUMSxa
import Derived.Test.YtmnojknfjbimdaaGreatULib2
namespace Go.Proofs.YtmnojknfjbimdaaGreat
open Go Go.Sx Go.Pl Go.RowKit Go.Fd Go.Alg Go.Ld
theorem NB.nil (v : Value) : NB [] v := fun _ _ h => by cases h
end Go.Proofs.YtmnojknfjbimdaaGreat

