/- Lemmas and walks. -/
import Derived.Test.YtgoeedohgomodaaGreatDoorPk18
import Derived.Test.YtgoeedohgomodaaGreatDoorPk19
import Derived.Lib.SlBytesConst
import Derived.Test.YtgoeedohgomodaaGreatDoorPk07
import Derived.Test.YtgoeedohgomodaaGreatDoorPk11
import Derived.Test.YtgoeedohgomodaaGreatDoorPk14
import Derived.Test.YtgoeedohgomodaaGreatDoorPk20
set_option linter.unusedSimpArgs false
set_option linter.unusedVariables false
namespace Go.Proofs.YtgoeedohgomodaaGreatDoor
open Go.RowKit Go.Sort
set_option maxRecDepth 100000
theorem run_bleg3 (w : World) (t : Int) (f : List UInt8) (a b : Int) : (bleg #[(0, .int .u8 t), (1, .string ⟨f.toArray⟩), (9, .agg (Win.arr ⟨a, b⟩))]).run Tryz.prog w = .ok (.agg (⟨t, f, [], 0, false, 0, 0, 0, 0, a, b, 0, 0⟩ : Leg).arr) w := run_build w _ _ _ (by kernel_rfl)
attribute [local go_sem ↓] bleg_fold 
attribute [local go_sem] run_bleg3 
end Go.Proofs.YtgoeedohgomodaaGreatDoor
namespace Go.Proofs.YtgoeedohgomodaaGreatDoor
open Go.RowKit Go.Sort
set_option maxRecDepth 100000
attribute [local go_sem ↓] bleg_fold 
end Go.Proofs.YtgoeedohgomodaaGreatDoor
