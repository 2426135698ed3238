/- airway.Check, navdb.Airway; walks. -/
import Derived.Test.YtlggdgpdfepppaaGreatDoorPk30
import Derived.Test.YtlggdgpdfepppaaGreatDoorPk05
namespace Go.Proofs.YtlggdgpdfepppaaGreatDoor
open Go.RowKit Go.Sort
set_option linter.unusedVariables false
set_option linter.unusedSimpArgs false
set_option maxRecDepth 100000
theorem awyArr_splice (a b : AwyV) (A B : Option Addr) (c d : Nat) : splice (awyArr a A c) 0 (awyArr b B d) = awyArr b B d := rfl
attribute [local go_sem] awyArr_splice
end Go.Proofs.YtlggdgpdfepppaaGreatDoor
