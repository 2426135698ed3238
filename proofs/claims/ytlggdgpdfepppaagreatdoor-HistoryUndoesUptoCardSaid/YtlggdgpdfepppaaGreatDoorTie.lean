/-
  DERIVED. GIVEN WITH THE SEED: THE PROGRAM's TIES (one call each: nine closed facts by the kernel) AND EACH ROW's TIE, after the 31st guide's Derived/Test/Toyas{Tie, Card}.lean. No idea stands in it: it is a product of the set-up. Laid BY PROGRAM, IN A SANDBOX (cutbox-door.mjs). By AI agents, Wed Nov 11 2026. No macro, syntax, notation, axiom, sorry.
-/
import Derived.Test.YtlggdgpdfepppaaGreatDoorRows
import Derived.LaidByTextLater
import Derived.SevenTiedAt
import Derived.LaidSub
import Derived.LaidOnce
namespace Go.Proofs.YtlggdgpdfepppaaGreatDoor
open Go
set_option maxRecDepth 100000
theorem seatTie1 : Tryz.prog.laidByTextLater [("math/bits.deBruijn32tab", Rows.laid_math_bits_deBruijn32tab), ("math/bits.deBruijn64tab", Rows.laid_math_bits_deBruijn64tab), ("internal/strconv.uint64pow10", Rows.laid_internal_strconv_uint64pow10), ("flightdeck/leg.names", Rows.laid_flightdeck_leg_names), ("flightdeck/leg.uses", Rows.laid_flightdeck_leg_uses), ("flightdeck/edit.forms", Rows.laid_flightdeck_edit_forms), ("flightdeck/edit.gap", Rows.laid_flightdeck_edit_gap), ("flightdeck/edit.free", Rows.laid_flightdeck_edit_free)] [.data, .data, .data, .data, .data, .data, .data, .data] true :=
  Program.laidByTextLater_by_one 61 8 65 (by kernel_rfl) (by kernel_rfl) (by kernel_rfl) (by kernel_rfl) (by kernel_rfl) (by kernel_rfl) (fun _ _ => by kernel_rfl)
theorem noOwnUnsafe : Tryz.pinned.checked.prog.headLifts.contains "ownunsafe" = false := by kernel_rfl
theorem tie : Tryz.prog.laidByTextLater [("flightdeck/leg.uses", Rows.laid_flightdeck_leg_uses), ("flightdeck/edit.forms", Rows.laid_flightdeck_edit_forms), ("flightdeck/edit.gap", Rows.laid_flightdeck_edit_gap), ("flightdeck/edit.free", Rows.laid_flightdeck_edit_free)] [.data, .data, .data, .data] true :=
  Program.laidByTextLater.sub seatTie1 ["flightdeck/leg.uses", "flightdeck/edit.forms", "flightdeck/edit.gap", "flightdeck/edit.free"] (by kernel_rfl) (by kernel_rfl)
theorem historyNews_row_tie : Rows.historyNewsRow.laidByTextAt .later Tryz.pinned [.data, .data, .data, .data] true :=
  OpenClaim.laidByTextAt_later rfl rfl tie noOwnUnsafe
theorem historyUndoes_row_tie : Rows.historyUndoesRow.laidByTextAt .later Tryz.pinned [.data, .data, .data, .data] true :=
  OpenClaim.laidByTextAt_later rfl rfl tie noOwnUnsafe
theorem historyValid_row_tie : Rows.historyValidRow.laidByTextAt .later Tryz.pinned [.data, .data, .data, .data] true :=
  OpenClaim.laidByTextAt_later rfl rfl tie noOwnUnsafe
theorem historyActive_row_tie : Rows.historyActiveRow.laidByTextAt .later Tryz.pinned [.data, .data, .data, .data] true :=
  OpenClaim.laidByTextAt_later rfl rfl tie noOwnUnsafe
theorem tie2 : Tryz.prog.laidByTextLater [("math/bits.deBruijn32tab", Rows.laid_math_bits_deBruijn32tab), ("math/bits.deBruijn64tab", Rows.laid_math_bits_deBruijn64tab), ("internal/strconv.uint64pow10", Rows.laid_internal_strconv_uint64pow10), ("flightdeck/leg.names", Rows.laid_flightdeck_leg_names), ("flightdeck/leg.uses", Rows.laid_flightdeck_leg_uses), ("flightdeck/edit.forms", Rows.laid_flightdeck_edit_forms), ("flightdeck/edit.gap", Rows.laid_flightdeck_edit_gap), ("flightdeck/edit.free", Rows.laid_flightdeck_edit_free)] [.data, .data, .data, .data, .data, .data, .data, .data] true :=
  Program.laidByTextLater.sub seatTie1 ["math/bits.deBruijn32tab", "math/bits.deBruijn64tab", "internal/strconv.uint64pow10", "flightdeck/leg.names", "flightdeck/leg.uses", "flightdeck/edit.forms", "flightdeck/edit.gap", "flightdeck/edit.free"] (by kernel_rfl) (by kernel_rfl)
theorem historyNil_row_tie : Rows.historyNilRow.laidByTextAt .later Tryz.pinned [.data, .data, .data, .data, .data, .data, .data, .data] true :=
  OpenClaim.laidByTextAt_later rfl rfl tie2 noOwnUnsafe
theorem historyNewsUpto_row_tie : Rows.historyNewsUptoRow.laidByTextAt .later Tryz.pinned [.data, .data, .data, .data] true :=
  OpenClaim.laidByTextAt_later rfl rfl tie noOwnUnsafe
theorem historyUndoesUpto_row_tie : Rows.historyUndoesUptoRow.laidByTextAt .later Tryz.pinned [.data, .data, .data, .data] true :=
  OpenClaim.laidByTextAt_later rfl rfl tie noOwnUnsafe
theorem historyValidUpto_row_tie : Rows.historyValidUptoRow.laidByTextAt .later Tryz.pinned [.data, .data, .data, .data] true :=
  OpenClaim.laidByTextAt_later rfl rfl tie noOwnUnsafe
theorem historyActiveUpto_row_tie : Rows.historyActiveUptoRow.laidByTextAt .later Tryz.pinned [.data, .data, .data, .data] true :=
  OpenClaim.laidByTextAt_later rfl rfl tie noOwnUnsafe
theorem historyNilUpto_row_tie : Rows.historyNilUptoRow.laidByTextAt .later Tryz.pinned [.data, .data, .data, .data, .data, .data, .data, .data] true :=
  OpenClaim.laidByTextAt_later rfl rfl tie2 noOwnUnsafe
end Go.Proofs.YtlggdgpdfepppaaGreatDoor
