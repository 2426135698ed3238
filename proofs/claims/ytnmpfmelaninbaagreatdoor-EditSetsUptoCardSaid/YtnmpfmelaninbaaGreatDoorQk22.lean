/- Lemmas and walks. -/
import Derived.Test.YtnmpfmelaninbaaGreatDoorQk19
import Derived.Test.YtnmpfmelaninbaaGreatDoorQk12
import Derived.Test.YtnmpfmelaninbaaGreatDoorQk21
import Derived.Test.YtnmpfmelaninbaaGreatDoorQk07
set_option linter.unusedSimpArgs false
set_option linter.unusedVariables false
namespace Go.Proofs.YtnmpfmelaninbaaGreatDoor
open Go.RowKit Go.Sort
/- '++' under a name that the walk does not open. -/
attribute [local go_sem] ba_cat cat_len
end Go.Proofs.YtnmpfmelaninbaaGreatDoor
