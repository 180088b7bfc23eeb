import Derived.Test.YtcfbigmjjpknfaaGreatDoorRows
import Derived.Test.YtcfbigmjjpknfaaGreatDoorTie
import Derived.JoinedOf
import Derived.KernelRfl
import Derived.SevenTiedAt
namespace Go.Proofs.YtcfbigmjjpknfaaGreatDoor
open Go
namespace FactsT
set_option maxRecDepth 100000
theorem k1 : (Rows.wholeErasuresRow.wf (OpenSpec.ofChange Rows.wholeErasuresSpec)) = true := by kernel_rfl
theorem k2 : (laidOutB Tryz.pinned.checked.prog) = true := by kernel_rfl
theorem k3 : (mapsRowed Tryz.pinned.checked.prog) = true := by kernel_rfl
theorem k4 : (Tryz.f3.params.all (Tryz.pinned.checked.prog.readableRec ·)) = true := by kernel_rfl
theorem k5 : (namedTie Tryz.pinned.checked.prog Rows.wholeErasuresRow.named Rows.wholeErasuresSpec.vars) = true := by kernel_rfl
theorem k6 : (Rows.wholeErasuresRow.stops == []) = true := by kernel_rfl
theorem k7 : (Tryz.pinned.checked.prog.stops == []) = true := by kernel_rfl
theorem k8 : (Rows.wholeErasuresRow.knobs == []) = true := by kernel_rfl
theorem k9 : (Tryz.pinned.checked.prog.stopKnobs == []) = true := by kernel_rfl
theorem k10 : (Rows.wholeErasuresRow.inPlace == Tryz.pinned.checked.prog.inPlace 3) = true := by kernel_rfl
theorem k11 : (Rows.wholeErasuresRow.unfollowed == Tryz.pinned.checked.prog.unfollowed 3) = true := by kernel_rfl
end FactsT
end Go.Proofs.YtcfbigmjjpknfaaGreatDoor
