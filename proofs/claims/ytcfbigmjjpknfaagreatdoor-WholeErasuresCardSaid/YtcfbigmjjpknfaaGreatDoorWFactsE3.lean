import Derived.Test.YtcfbigmjjpknfaaGreatDoorRows
import Derived.Test.YtcfbigmjjpknfaaGreatDoorTie
import Derived.JoinedOf
import Derived.KernelRfl
import Derived.SevenTiedAt
namespace Go.Proofs.YtcfbigmjjpknfaaGreatDoor
open Go
namespace FactsT
set_option maxRecDepth 100000
theorem k23 : (Rows.wholeErasuresRow.plainKeys == Tryz.pinned.checked.prog.plainKeys) = true := by kernel_rfl
theorem k24 : (Rows.wholeErasuresRow.shortTexts.isNone) = true := by kernel_rfl
theorem k25 : (Tryz.pinned.checked.prog.stopsHeard) = true := by kernel_rfl
theorem k26 : (Tryz.pinned.checked.prog.mayEnter) = true := by kernel_rfl
theorem k27 : (Rows.wholeErasuresRow.lifted == Tryz.pinned.checked.prog.liftsFinal) = true := by kernel_rfl
theorem k28 : (Tryz.pinned.checked.prog.make == some Rows.wholeErasuresRow.make) = true := by kernel_rfl
theorem k29 : (Rows.wholeErasuresRow.kinds == (if Rows.wholeErasuresRow.domain.isEmpty then [] else Tryz.f3.params.toList.map fun t => match Tryz.pinned.checked.prog.underlying t with | some (.int k) => some k | _ => none)) = true := by kernel_rfl
theorem k30 : (Rows.wholeErasuresRow.pinned == Rows.wholeErasuresRow.pinnedBy) = true := by kernel_rfl
theorem k31 : (Rows.wholeErasuresRow.veiled == (Tryz.f3.params.toList ++ Rows.wholeErasuresSpec.plain.varTypes Tryz.pinned.checked.prog ++ Tryz.f3.resultTypes.toList).any (Tryz.pinned.checked.prog.veiledRec ·)) = true := by kernel_rfl
theorem k32 : (Rows.wholeErasuresRow.veiledFits Tryz.pinned.checked.prog Tryz.f3.params.toList (Tryz.f3.params.toList ++ Rows.wholeErasuresSpec.plain.varTypes Tryz.pinned.checked.prog ++ Tryz.f3.resultTypes.toList)) = true := by kernel_rfl
theorem named : Tryz.pinned.checked.prog.funcNamed Rows.wholeErasuresRow.func = some 3 := by kernel_rfl
theorem inst : Tryz.f3.isInstance Tryz.pinned.checked.prog Rows.wholeErasuresRow.origin Rows.wholeErasuresRow.targs := of_decide_eq_true (by kernel_rfl)
theorem wrapper : Tryz.f3.isWrapper Tryz.pinned.checked.prog Rows.wholeErasuresRow.wrapper Rows.wholeErasuresRow.mainSum := by unfold Func.isWrapper; first | (rw [if_pos (by decide +kernel)]; kernel_rfl) | (rw [if_neg (by decide +kernel)]; exact ⟨rfl, rfl⟩)
theorem wf : Rows.wholeErasuresRow.wfByText (OpenSpec.ofChange Rows.wholeErasuresSpec) = true := by kernel_rfl
theorem main : Tryz.pinned.checked.prog.mainIs = some (true, "2676827f84a690ad04ddcfffebe67f6f8af1b61aab911d1c2132617faca72c4a".toList) := by kernel_rfl
theorem looks : true = Tryz.pinned.checked.prog.looks [] := by kernel_rfl
theorem goes : false = Rows.wholeErasuresRow.goesBy Tryz.pinned.checked.prog := by kernel_rfl
end FactsT
end Go.Proofs.YtcfbigmjjpknfaaGreatDoor
