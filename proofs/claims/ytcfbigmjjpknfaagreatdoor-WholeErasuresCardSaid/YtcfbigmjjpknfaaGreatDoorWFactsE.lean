import Derived.Test.YtcfbigmjjpknfaaGreatDoorWFactsE1
import Derived.Test.YtcfbigmjjpknfaaGreatDoorWFactsE2
import Derived.Test.YtcfbigmjjpknfaaGreatDoorWFactsE3
import Derived.Test.YtcfbigmjjpknfaaGreatDoorRows
import Derived.Test.YtcfbigmjjpknfaaGreatDoorTie
import Derived.JoinedOf
import Derived.KernelRfl
import Derived.SevenTiedAt
namespace Go.Proofs.YtcfbigmjjpknfaaGreatDoor
open Go
namespace FactsT
set_option maxRecDepth 100000
theorem ba {a b : Bool} (ha : a = true) (hb : b = true) : (a && b) = true := by rw [ha, hb]; rfl
theorem closed : joinedFacts Tryz.pinned.checked.prog 3 Tryz.f3 Rows.wholeErasuresSpec Rows.wholeErasuresRow = true := (ba (ba (ba (ba (ba (ba (ba (ba (ba (ba (ba (ba (ba (ba (ba (ba (ba (ba (ba (ba (ba (ba (ba (ba (ba (ba (ba (ba (ba (ba (ba k1 k2) k3) k4) k5) k6) k7) k8) k9) k10) k11) k12) k13) k14) k15) k16) k17) k18) k19) k20) k21) k22) k23) k24) k25) k26) k27) k28) k29) k30) k31) k32)
end FactsT
end Go.Proofs.YtcfbigmjjpknfaaGreatDoor
