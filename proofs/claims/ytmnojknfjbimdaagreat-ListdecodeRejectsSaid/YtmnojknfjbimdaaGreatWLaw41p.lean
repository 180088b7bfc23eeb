/-
  What the laws of the list decoder lean on: the interpolation polynomial's degree, completeness, the list does not hang on the polynomial.
-/
import Derived.Test.YtmnojknfjbimdaaGreatWLd3
import Derived.Test.YtmnojknfjbimdaaGreatWRGrs
namespace Go.Proofs.YtmnojknfjbimdaaGreat
open Go Go.Sx Go.Pl Go.RowKit Go.Fd Go.Alg Go.Ld
theorem COf.cints {w : World} {x : CRec} (h : COf w x) : CInts w x := ⟨h.s.f.ints, h.s.xs, h.s.ms, h.ws⟩
end Go.Proofs.YtmnojknfjbimdaaGreat

