/- Lemmas and walks. -/
import Derived.Test.YtgoeedohgomodaaGreatDoorQk18
import Derived.Test.YtgoeedohgomodaaGreatDoorQk19
import Derived.Lib.SlBytesConst
import Derived.Test.YtgoeedohgomodaaGreatDoorQk07
import Derived.Test.YtgoeedohgomodaaGreatDoorQk11
import Derived.Test.YtgoeedohgomodaaGreatDoorQk14
import Derived.Test.YtgoeedohgomodaaGreatDoorQk20
set_option linter.unusedSimpArgs false
set_option linter.unusedVariables false
namespace Go.Proofs.YtgoeedohgomodaaGreatDoor
open Go.RowKit Go.Sort
set_option maxRecDepth 100000
theorem zi5 (w:World) (t:Int) (f:List UInt8) (a b:Int):(zx8 #[(0, .int .u8 t),(1, .string ⟨f.toArray⟩),(9, .agg (Win.arr ⟨a,b⟩))]).run Tryz.prog w=.ok (.agg (⟨t,f,[],0,false,0,0,0,0,a,b,0,0⟩:Leg).arr) w:=run_build w _ _ _ (by kernel_rfl)
attribute [local go_sem ↓] zeM
attribute [local go_sem] zi5
end Go.Proofs.YtgoeedohgomodaaGreatDoor
namespace Go.Proofs.YtgoeedohgomodaaGreatDoor
open Go.RowKit Go.Sort
set_option maxRecDepth 100000
attribute [local go_sem ↓] zeM
end Go.Proofs.YtgoeedohgomodaaGreatDoor
