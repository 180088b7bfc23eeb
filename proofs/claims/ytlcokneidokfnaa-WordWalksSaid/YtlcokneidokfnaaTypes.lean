/-
  Closed facts of this translation: its types, as the walking framework asks for them.
-/
import Derived.Test.YtlcokneidokfnaaSxMore
import Derived.Test.YtlcokneidokfnaaProg
import Derived.KernelRfl
namespace Go.Proofs.Ytlcokneidokfnaa
open Go Go.Sx Go.Pl Go.RowKit
theorem mixed : Try.prog.follows .mixedOrders = true := by kernel_rfl
theorem ty26 : SlT Try.prog 26 3 (.int .i64 0) 1 8 := ⟨by kernel_rfl, by kernel_rfl⟩
theorem na3 : NA Try.prog 3 := fun w => Try.isAgg3 w
theorem sz3 : ∃ j, Try.prog.info? 3 = some j ∧ j.size = 1 := ⟨Try.t3, by kernel_rfl, by kernel_rfl⟩
end Go.Proofs.Ytlcokneidokfnaa
