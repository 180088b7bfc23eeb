import Derived.Test.YteheedbhcfllfaaGreatDoorRows
import Derived.Test.YteheedbhcfllfaaGreatDoorTie
import Derived.JoinedOf
import Derived.KernelRfl
import Derived.SevenTiedAt
namespace Go.Proofs.YteheedbhcfllfaaGreatDoor
open Go
namespace FactsT
set_option maxRecDepth 100000
theorem k23 : (Rows.wholeTrellisesRow.plainKeys == Tryz.pinned.checked.prog.plainKeys) = true := by kernel_rfl
theorem k24 : (Rows.wholeTrellisesRow.shortTexts.isNone) = true := by kernel_rfl
theorem k25 : (Tryz.pinned.checked.prog.stopsHeard) = true := by kernel_rfl
theorem k26 : (Tryz.pinned.checked.prog.mayEnter) = true := by kernel_rfl
theorem k27 : (Rows.wholeTrellisesRow.lifted == Tryz.pinned.checked.prog.liftsFinal) = true := by kernel_rfl
theorem k28 : (Tryz.pinned.checked.prog.make == some Rows.wholeTrellisesRow.make) = true := by kernel_rfl
theorem k29 : (Rows.wholeTrellisesRow.kinds == (if Rows.wholeTrellisesRow.domain.isEmpty then [] else Tryz.f3.params.toList.map fun t => match Tryz.pinned.checked.prog.underlying t with | some (.int k) => some k | _ => none)) = true := by kernel_rfl
theorem k30 : (Rows.wholeTrellisesRow.pinned == Rows.wholeTrellisesRow.pinnedBy) = true := by kernel_rfl
theorem k31 : (Rows.wholeTrellisesRow.veiled == (Tryz.f3.params.toList ++ Rows.wholeTrellisesSpec.plain.varTypes Tryz.pinned.checked.prog ++ Tryz.f3.resultTypes.toList).any (Tryz.pinned.checked.prog.veiledRec ·)) = true := by kernel_rfl
theorem k32 : (Rows.wholeTrellisesRow.veiledFits Tryz.pinned.checked.prog Tryz.f3.params.toList (Tryz.f3.params.toList ++ Rows.wholeTrellisesSpec.plain.varTypes Tryz.pinned.checked.prog ++ Tryz.f3.resultTypes.toList)) = true := by kernel_rfl
theorem named : Tryz.pinned.checked.prog.funcNamed Rows.wholeTrellisesRow.func = some 3 := by kernel_rfl
theorem inst : Tryz.f3.isInstance Tryz.pinned.checked.prog Rows.wholeTrellisesRow.origin Rows.wholeTrellisesRow.targs := of_decide_eq_true (by kernel_rfl)
theorem wrapper : Tryz.f3.isWrapper Tryz.pinned.checked.prog Rows.wholeTrellisesRow.wrapper Rows.wholeTrellisesRow.mainSum := by unfold Func.isWrapper; first | (rw [if_pos (by decide +kernel)]; kernel_rfl) | (rw [if_neg (by decide +kernel)]; exact ⟨rfl, rfl⟩)
theorem wf : Rows.wholeTrellisesRow.wfByText (OpenSpec.ofChange Rows.wholeTrellisesSpec) = true := by kernel_rfl
theorem main : Tryz.pinned.checked.prog.mainIs = some (true, "1fb6ec7921bf9436f80090e87aa7c026b36d28d102c1c52b8b394c1d584c6759".toList) := by kernel_rfl
theorem looks : true = Tryz.pinned.checked.prog.looks [] := by kernel_rfl
theorem goes : false = Rows.wholeTrellisesRow.goesBy Tryz.pinned.checked.prog := by kernel_rfl
end FactsT
end Go.Proofs.YteheedbhcfllfaaGreatDoor
