/- navdb.Procedure; walk. Printed by wip/mkgdi.py out of procedure.Find's. -/
import Derived.Test.YtlggdgpdfepppaaGreatDoorPk39
namespace Go.Proofs.YtlggdgpdfepppaaGreatDoor
open Go.RowKit Go.Sort
set_option linter.unusedVariables false
set_option linter.unusedSimpArgs false
set_option maxRecDepth 100000
attribute [local go_sem] prcArr_splice
end Go.Proofs.YtlggdgpdfepppaaGreatDoor
