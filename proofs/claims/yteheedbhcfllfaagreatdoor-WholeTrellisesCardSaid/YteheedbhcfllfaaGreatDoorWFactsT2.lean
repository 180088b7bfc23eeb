import Derived.Test.YteheedbhcfllfaaGreatDoorRows
import Derived.Test.YteheedbhcfllfaaGreatDoorTie
import Derived.JoinedOf
import Derived.KernelRfl
import Derived.SevenTiedAt
namespace Go.Proofs.YteheedbhcfllfaaGreatDoor
open Go
namespace FactsT
set_option maxRecDepth 100000
theorem k12 : (Rows.wholeTrellisesRow.recurses == Tryz.pinned.checked.prog.recurses 3) = true := by kernel_rfl
theorem k13 : (Rows.wholeTrellisesRow.named == Tryz.pinned.checked.prog.varsNamed 3) = true := by kernel_rfl
theorem k14 : (Rows.wholeTrellisesRow.maps == (Tryz.f3.params.toList ++ Rows.wholeTrellisesSpec.plain.varTypes Tryz.pinned.checked.prog).any (Tryz.pinned.checked.prog.mapsRec ·)) = true := by kernel_rfl
theorem k15 : (Rows.wholeTrellisesRow.ifaces == (Tryz.f3.params.toList ++ Rows.wholeTrellisesSpec.plain.varTypes Tryz.pinned.checked.prog).any (Tryz.pinned.checked.prog.ifacesRec ·)) = true := by kernel_rfl
theorem k16 : (Rows.wholeTrellisesRow.mapsOut == Tryz.pinned.checked.prog.mapsAmong Tryz.f3.resultTypes.toList) = true := by kernel_rfl
theorem k17 : (Rows.wholeTrellisesRow.loops == (Tryz.f3.params.toList ++ Rows.wholeTrellisesSpec.plain.varTypes Tryz.pinned.checked.prog).any (Tryz.pinned.checked.prog.loopsFrom ·)) = true := by kernel_rfl
theorem k18 : (Rows.wholeTrellisesRow.wideKeys == (Tryz.f3.params.toList ++ Rows.wholeTrellisesSpec.plain.varTypes Tryz.pinned.checked.prog ++ Tryz.f3.resultTypes.toList).any (Tryz.pinned.checked.prog.wideKeysFrom ·)) = true := by kernel_rfl
theorem k19 : (Rows.wholeTrellisesSpec.vars.all (Tryz.pinned.checked.prog.varReadable ·)) = true := by kernel_rfl
theorem k20 : (Tryz.f3.resultTypes.all (fun t => Tryz.pinned.checked.prog.readableRec t && decide (t < Tryz.pinned.checked.prog.types.size))) = true := by kernel_rfl
theorem k21 : (Rows.wholeTrellisesRow.ifacesOut == Tryz.f3.resultTypes.toList.any (Tryz.pinned.checked.prog.ifacesRec ·)) = true := by kernel_rfl
theorem k22 : (Rows.wholeTrellisesRow.loopsOut == Tryz.f3.resultTypes.toList.any (Tryz.pinned.checked.prog.loopsFrom ·)) = true := by kernel_rfl
end FactsT
end Go.Proofs.YteheedbhcfllfaaGreatDoor
