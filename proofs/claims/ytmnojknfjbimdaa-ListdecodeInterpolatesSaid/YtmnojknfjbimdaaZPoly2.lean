/-
  Poly2
-/
import Derived.Test.YtmnojknfjbimdaaZPoly1
import Derived.Test.YtmnojknfjbimdaaZElems
namespace Go.Proofs.Ytmnojknfjbimdaa
open Go Go.Sx Go.Pl Go.RowKit Go.Fd Go.Alg
theorem infoS2 : Try.prog.info? 31 = some Try.t31 := by kernel_rfl
theorem zv31 : ZV Try.prog 31 [.slice none 0 0] := fun w => ⟨_, by simp [zeroValue, typeInfo, infoS2]; rfl, rfl⟩
theorem sv31 : ∀ w, (sizeOf 31).run Try.prog w = .ok 1 w := szSl
end Go.Proofs.Ytmnojknfjbimdaa

