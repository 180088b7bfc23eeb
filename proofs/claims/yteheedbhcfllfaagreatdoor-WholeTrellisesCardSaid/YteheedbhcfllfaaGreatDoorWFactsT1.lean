import Derived.Test.YteheedbhcfllfaaGreatDoorRows
import Derived.Test.YteheedbhcfllfaaGreatDoorTie
import Derived.JoinedOf
import Derived.KernelRfl
import Derived.SevenTiedAt
namespace Go.Proofs.YteheedbhcfllfaaGreatDoor
open Go
namespace FactsT
set_option maxRecDepth 100000
theorem k1 : (Rows.wholeTrellisesRow.wf (OpenSpec.ofChange Rows.wholeTrellisesSpec)) = true := by kernel_rfl
theorem k2 : (laidOutB Tryz.pinned.checked.prog) = true := by kernel_rfl
theorem k3 : (mapsRowed Tryz.pinned.checked.prog) = true := by kernel_rfl
theorem k4 : (Tryz.f3.params.all (Tryz.pinned.checked.prog.readableRec ·)) = true := by kernel_rfl
theorem k5 : (namedTie Tryz.pinned.checked.prog Rows.wholeTrellisesRow.named Rows.wholeTrellisesSpec.vars) = true := by kernel_rfl
theorem k6 : (Rows.wholeTrellisesRow.stops == []) = true := by kernel_rfl
theorem k7 : (Tryz.pinned.checked.prog.stops == []) = true := by kernel_rfl
theorem k8 : (Rows.wholeTrellisesRow.knobs == []) = true := by kernel_rfl
theorem k9 : (Tryz.pinned.checked.prog.stopKnobs == []) = true := by kernel_rfl
theorem k10 : (Rows.wholeTrellisesRow.inPlace == Tryz.pinned.checked.prog.inPlace 3) = true := by kernel_rfl
theorem k11 : (Rows.wholeTrellisesRow.unfollowed == Tryz.pinned.checked.prog.unfollowed 3) = true := by kernel_rfl
end FactsT
end Go.Proofs.YteheedbhcfllfaaGreatDoor
