import Derived.Test.YteheedbhcfllfaaGreatDoorWFactsT1
import Derived.Test.YteheedbhcfllfaaGreatDoorWFactsT2
import Derived.Test.YteheedbhcfllfaaGreatDoorWFactsT3
import Derived.Test.YteheedbhcfllfaaGreatDoorRows
import Derived.Test.YteheedbhcfllfaaGreatDoorTie
import Derived.JoinedOf
import Derived.KernelRfl
import Derived.SevenTiedAt
namespace Go.Proofs.YteheedbhcfllfaaGreatDoor
open Go
namespace FactsT
set_option maxRecDepth 100000
theorem ba {a b : Bool} (ha : a = true) (hb : b = true) : (a && b) = true := by rw [ha, hb]; rfl
theorem closed : joinedFacts Tryz.pinned.checked.prog 3 Tryz.f3 Rows.wholeTrellisesSpec Rows.wholeTrellisesRow = true := (ba (ba (ba (ba (ba (ba (ba (ba (ba (ba (ba (ba (ba (ba (ba (ba (ba (ba (ba (ba (ba (ba (ba (ba (ba (ba (ba (ba (ba (ba (ba k1 k2) k3) k4) k5) k6) k7) k8) k9) k10) k11) k12) k13) k14) k15) k16) k17) k18) k19) k20) k21) k22) k23) k24) k25) k26) k27) k28) k29) k30) k31) k32)
end FactsT
end Go.Proofs.YteheedbhcfllfaaGreatDoor
