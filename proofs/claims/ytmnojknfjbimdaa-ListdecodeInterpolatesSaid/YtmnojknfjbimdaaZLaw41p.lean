/-
  Law41p
-/
import Derived.Test.YtmnojknfjbimdaaZLd3
import Derived.Test.YtmnojknfjbimdaaZRGrs
namespace Go.Proofs.Ytmnojknfjbimdaa
open Go Go.Sx Go.Pl Go.RowKit Go.Fd Go.Alg Go.Ld
theorem COf.cints {w : World} {x : CRec} (h : COf w x) : CInts w x := ⟨h.s.f.ints, h.s.xs, h.s.ms, h.ws⟩
end Go.Proofs.Ytmnojknfjbimdaa

