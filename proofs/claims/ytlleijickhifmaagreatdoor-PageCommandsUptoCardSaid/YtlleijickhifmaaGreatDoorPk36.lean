/- Layer 58: the reference's Press: signs, CLR, UP, DOWN Layer 58: the reference's Press: the other function keys, the line select keys Layer 58: the reference's Press: the line select keys -/
import Derived.Test.YtlleijickhifmaaGreatDoorPk34
import Derived.Test.YtlleijickhifmaaGreatDoorPk30
import Derived.Test.YtlleijickhifmaaGreatDoorPk13
namespace Go.Proofs.YtlleijickhifmaaGreatDoor
open Go.RowKit
set_option linter.unusedVariables false
set_option linter.unusedSimpArgs false
attribute [local go_sem] run_storeB_term SzIs_term Fits_term Ones_term splice_term ba_append run_field_es
end Go.Proofs.YtlleijickhifmaaGreatDoor
namespace Go.Proofs.YtlleijickhifmaaGreatDoor
open Go.RowKit
set_option linter.unusedVariables false
set_option linter.unusedSimpArgs false
attribute [local go_sem] run_storeB_term SzIs_term Fits_term Ones_term splice_term ba_append run_field_es
end Go.Proofs.YtlleijickhifmaaGreatDoor
namespace Go.Proofs.YtlleijickhifmaaGreatDoor
open Go.RowKit
set_option linter.unusedVariables false
set_option linter.unusedSimpArgs false
attribute [local go_sem] run_storeB_term SzIs_term Fits_term Ones_term splice_term ba_append run_field_es
end Go.Proofs.YtlleijickhifmaaGreatDoor
