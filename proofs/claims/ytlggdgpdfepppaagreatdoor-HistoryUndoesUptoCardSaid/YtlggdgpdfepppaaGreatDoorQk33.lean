/- The reference's Join: the same entries. -/
import Derived.Test.YtlggdgpdfepppaaGreatDoorQk31
import Derived.Test.YtlggdgpdfepppaaGreatDoorQk17
namespace Go.Proofs.YtlggdgpdfepppaaGreatDoor
open Go.RowKit
set_option linter.unusedVariables false
set_option linter.unusedSimpArgs false
attribute [local go_sem] run_bs2
end Go.Proofs.YtlggdgpdfepppaaGreatDoor
