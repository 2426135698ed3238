/- procedure.checkPart; walk. Printed by wip/mkgdj.py. procedure.Check; walk. procedure.Missed; walk. Legs of a call's own result; legs chosen by kind. procedure.Expand; walk. Printed by wip/mkgdo.py. -/
import Derived.Test.YtlggdgpdfepppaaGreatDoorPk39
import Derived.Test.YtlggdgpdfepppaaGreatDoorPk05
import Derived.Lib.BufferMore
import Derived.Test.YtlggdgpdfepppaaGreatDoorPk19
import Derived.Maps.OwnOps
import Derived.Maps.Views
namespace Go.Proofs.YtlggdgpdfepppaaGreatDoor
open Go.RowKit Go.Sort
set_option linter.unusedVariables false
set_option linter.unusedSimpArgs false
set_option maxRecDepth 100000
attribute [local go_sem] prtArr_splice
end Go.Proofs.YtlggdgpdfepppaaGreatDoor
namespace Go.Proofs.YtlggdgpdfepppaaGreatDoor
open Go.RowKit Go.Sort
set_option linter.unusedVariables false
set_option linter.unusedSimpArgs false
set_option maxRecDepth 100000
attribute [local go_sem] prtArr_splice
end Go.Proofs.YtlggdgpdfepppaaGreatDoor
namespace Go.Proofs.YtlggdgpdfepppaaGreatDoor
open Go.RowKit Go.Sort
set_option linter.unusedVariables false
set_option linter.unusedSimpArgs false
set_option maxRecDepth 100000
attribute [local go_sem] prtArr_splice
end Go.Proofs.YtlggdgpdfepppaaGreatDoor
namespace Go.Proofs.YtlggdgpdfepppaaGreatDoor
open Go.RowKit Go.Sort
set_option linter.unusedVariables false
set_option linter.unusedSimpArgs false
set_option maxRecDepth 100000
attribute [local go_sem] prtArr_splice
end Go.Proofs.YtlggdgpdfepppaaGreatDoor
