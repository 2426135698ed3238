/-
  NARROWER THAN 'FOR EVERY INPUT', by the rows' own cells (each row's printed sentence says how): HistoryNews: laid · HistoryUndoes: laid · HistoryValid: laid · HistoryActive: laid · HistoryNil: laid.
  DERIVED. THE GIVEN ROWS OF THIS SEAT. 5 by the template 'for every input the law returns true; each argument reads behind the call as it read before'; 0 by the template 'total and deterministic' (their statements: YtlggdgpdfepppaaGreatDoorTotals.lean).
  GIVEN WITH THE SEED: the statements are not yours to turn. If you find one false, say at which input.
  Laid BY PROGRAM, IN A SANDBOX (cutbox-rows.mjs): the forced cells as the released guide's own fill.sh prints them over the translation 358b7161f72dbe3c… (all of the seat's roots in one cut). By AI agents, Wed Nov 11 2026. No macro, syntax, notation, axiom, sorry.
-/
import Derived.Test.YtlggdgpdfepppaaGreatDoorChecked
import GoSem.Claim
import GoSem.ClaimJoined
import GoSem.ClaimMapViews
import Derived.JoinedTies
import Derived.KernelRfl
namespace Go.Proofs.YtlggdgpdfepppaaGreatDoor
/- THE CELL 'sum', in the pinned program and in every row, IS THE sha256 OF THE DUMP (.gsa) THAT YtlggdgpdfepppaaGreatDoorProg.lean LOADS. Nothing in Lean hashes anything: it is a label: what it is worth is what the hold of that sum in a sandbox is worth. -/
noncomputable def Tryz.pinned : Pinned := { name := "ytlggdgpdfepppaagreatdoor", sum := "358b7161f72dbe3c60c0dc533e87801af5f7a2a453fc4a2a9588382b2543b9e3", checked := Tryz.checked }
namespace Rows
def none {H : Type} : Left H := { results := [], args := [] }

/- WHAT THE LISTED PACKAGE-LEVEL VARIABLES READ AS WHEN THE CALL BEGINS. Each datum BY PROGRAM (the guide's laid-datum.mjs) off the statement by which the dump's own 'gosem.cut.vars' lays the variable. In a bare row this is a premise. The card (YtlggdgpdfepppaaGreatDoorCards.lean) ties it to the program's text. -/
def laid_flightdeck_leg_uses {H : Type} : DataW H := .agg [.lit (.int .u16 0), .lit (.int .u16 1), .lit (.int .u16 9), .lit (.int .u16 25), .lit (.int .u16 9), .lit (.int .u16 71), .lit (.int .u16 71), .lit (.int .u16 16), .lit (.int .u16 50), .lit (.int .u16 16), .lit (.int .u16 146), .lit (.int .u16 17), .lit (.int .u16 49), .lit (.int .u16 17), .lit (.int .u16 53), .lit (.int .u16 53), .lit (.int .u16 53), .lit (.int .u16 53)]
def laid_flightdeck_edit_forms {H : Type} : DataW H := .agg [.agg [.lit (.string []), .lit (.string [])], .agg [.lit (.string [73, 78, 83, 69, 82, 84]), .lit (.string [97, 114])], .agg [.lit (.string [68, 69, 76, 69, 84, 69]), .lit (.string [97])], .agg [.lit (.string [68, 73, 82, 69, 67, 84]), .lit (.string [97])], .agg [.lit (.string [65, 76, 84]), .lit (.string [97, 104])], .agg [.lit (.string [83, 80, 68]), .lit (.string [97, 115])], .agg [.lit (.string [82, 78, 80]), .lit (.string [97, 100])], .agg [.lit (.string [72, 79, 76, 68]), .lit (.string [97, 99, 100, 117])], .agg [.lit (.string [65, 73, 82, 87, 65, 89]), .lit (.string [97, 114, 110])], .agg [.lit (.string [68, 69, 80, 65, 82, 84, 85, 82, 69]), .lit (.string [110, 119, 116])], .agg [.lit (.string [65, 82, 82, 73, 86, 65, 76]), .lit (.string [110, 119, 116])], .agg [.lit (.string [65, 80, 80, 82, 79, 65, 67, 72]), .lit (.string [110, 116])], .agg [.lit (.string [68, 73, 86, 69, 82, 84]), .lit (.string [97, 110])]]
def laid_flightdeck_edit_gap {H : Type} : DataW H := .agg [.lit (.bool true), .agg [.lit (.int .u8 0), .lit (.string []), .lit (.string []), .lit (.int .u8 0), .lit (.bool false), .lit (.int .i64 0), .lit (.int .i64 0), .lit (.int .i64 0), .lit (.int .i64 0), .agg [.lit (.int .i64 0), .lit (.int .i64 0)], .lit (.int .i64 0), .lit (.int .i64 0)], .agg [.lit (.int .i64 0), .lit (.int .i64 0)], .agg [.lit (.int .i64 0), .lit (.int .i64 0)], .lit (.int .u8 0), .lit (.string [])]
def laid_flightdeck_edit_free {H : Type} : DataW H := .agg [.lit (.int .i64 (-200000)), .lit (.int .i64 6000000)]
def laid_math_bits_deBruijn32tab {H : Type} : DataW H := .agg [.lit (.int .u8 0), .lit (.int .u8 1), .lit (.int .u8 28), .lit (.int .u8 2), .lit (.int .u8 29), .lit (.int .u8 14), .lit (.int .u8 24), .lit (.int .u8 3), .lit (.int .u8 30), .lit (.int .u8 22), .lit (.int .u8 20), .lit (.int .u8 15), .lit (.int .u8 25), .lit (.int .u8 17), .lit (.int .u8 4), .lit (.int .u8 8), .lit (.int .u8 31), .lit (.int .u8 27), .lit (.int .u8 13), .lit (.int .u8 23), .lit (.int .u8 21), .lit (.int .u8 19), .lit (.int .u8 16), .lit (.int .u8 7), .lit (.int .u8 26), .lit (.int .u8 12), .lit (.int .u8 18), .lit (.int .u8 6), .lit (.int .u8 11), .lit (.int .u8 5), .lit (.int .u8 10), .lit (.int .u8 9)]
def laid_math_bits_deBruijn64tab {H : Type} : DataW H := .agg [.lit (.int .u8 0), .lit (.int .u8 1), .lit (.int .u8 56), .lit (.int .u8 2), .lit (.int .u8 57), .lit (.int .u8 49), .lit (.int .u8 28), .lit (.int .u8 3), .lit (.int .u8 61), .lit (.int .u8 58), .lit (.int .u8 42), .lit (.int .u8 50), .lit (.int .u8 38), .lit (.int .u8 29), .lit (.int .u8 17), .lit (.int .u8 4), .lit (.int .u8 62), .lit (.int .u8 47), .lit (.int .u8 59), .lit (.int .u8 36), .lit (.int .u8 45), .lit (.int .u8 43), .lit (.int .u8 51), .lit (.int .u8 22), .lit (.int .u8 53), .lit (.int .u8 39), .lit (.int .u8 33), .lit (.int .u8 30), .lit (.int .u8 24), .lit (.int .u8 18), .lit (.int .u8 12), .lit (.int .u8 5), .lit (.int .u8 63), .lit (.int .u8 55), .lit (.int .u8 48), .lit (.int .u8 27), .lit (.int .u8 60), .lit (.int .u8 41), .lit (.int .u8 37), .lit (.int .u8 16), .lit (.int .u8 46), .lit (.int .u8 35), .lit (.int .u8 44), .lit (.int .u8 21), .lit (.int .u8 52), .lit (.int .u8 32), .lit (.int .u8 23), .lit (.int .u8 11), .lit (.int .u8 54), .lit (.int .u8 26), .lit (.int .u8 40), .lit (.int .u8 15), .lit (.int .u8 34), .lit (.int .u8 20), .lit (.int .u8 31), .lit (.int .u8 10), .lit (.int .u8 25), .lit (.int .u8 14), .lit (.int .u8 19), .lit (.int .u8 9), .lit (.int .u8 13), .lit (.int .u8 8), .lit (.int .u8 7), .lit (.int .u8 6)]
def laid_internal_strconv_uint64pow10 {H : Type} : DataW H := .agg [.lit (.int .u64 1), .lit (.int .u64 10), .lit (.int .u64 100), .lit (.int .u64 1000), .lit (.int .u64 10000), .lit (.int .u64 100000), .lit (.int .u64 1000000), .lit (.int .u64 10000000), .lit (.int .u64 100000000), .lit (.int .u64 1000000000), .lit (.int .u64 10000000000), .lit (.int .u64 100000000000), .lit (.int .u64 1000000000000), .lit (.int .u64 10000000000000), .lit (.int .u64 100000000000000), .lit (.int .u64 1000000000000000), .lit (.int .u64 10000000000000000), .lit (.int .u64 100000000000000000), .lit (.int .u64 1000000000000000000), .lit (.int .u64 10000000000000000000)]
def laid_flightdeck_leg_names {H : Type} : DataW H := .agg [.lit (.string []), .lit (.string [73, 70]), .lit (.string [84, 70]), .lit (.string [67, 70]), .lit (.string [68, 70]), .lit (.string [82, 70]), .lit (.string [65, 70]), .lit (.string [67, 65]), .lit (.string [67, 68]), .lit (.string [67, 73]), .lit (.string [67, 82]), .lit (.string [70, 65]), .lit (.string [70, 67]), .lit (.string [70, 77]), .lit (.string [72, 65]), .lit (.string [72, 70]), .lit (.string [72, 77]), .lit (.string [80, 73])]

/-- 'flightdecklaw24.HistoryNews': WHATEVER THE INPUT: true; the input reads as it did. -/
def historyNewsSpec : ChangeSpec := { name := "historyNews", fn := fun _ => fun
  | [d] => { results := [.lit (.bool true)], args := [d] }
  | _ => none }
def historyNewsRow : OpenClaim := { program := "ytlggdgpdfepppaagreatdoor", sum := "358b7161f72dbe3c60c0dc533e87801af5f7a2a453fc4a2a9588382b2543b9e3", func := "flightdeck/flightdecklaw24.HistoryNews", spec := "historyNews", inPlace := ["internal/bytealg.IndexByteString", "internal/bytealg.IndexString"], unfollowed := true, recurses := true, named := ["internal/bytealg.MaxLen", "flightdeck/leg.uses", "flightdeck/edit.forms", "flightdeck/edit.gap", "flightdeck/edit.free", "math/bits.divideError", "math/bits.overflowError"], apart := false, laid := [("flightdeck/leg.uses", laid_flightdeck_leg_uses), ("flightdeck/edit.forms", laid_flightdeck_edit_forms), ("flightdeck/edit.gap", laid_flightdeck_edit_gap), ("flightdeck/edit.free", laid_flightdeck_edit_free)] }
def HistoryNewsSaid : Prop := historyNewsRow.holds Tryz.pinned (OpenSpec.ofChange historyNewsSpec)

/-- ITS FALSE NEIGHBOUR: 'it returns false'. Refute it at one input. -/
def historyNewsWrong : ChangeSpec := { name := "historyNews", fn := fun _ => fun
  | [d] => { results := [.lit (.bool false)], args := [d] }
  | _ => none }
def HistoryNewsWrongFalsely : Prop := historyNewsRow.holds Tryz.pinned (OpenSpec.ofChange historyNewsWrong)

/-- 'flightdecklaw24.HistoryUndoes': WHATEVER THE INPUT: true; the input reads as it did. -/
def historyUndoesSpec : ChangeSpec := { name := "historyUndoes", fn := fun _ => fun
  | [d1, d2, d3] => { results := [.lit (.bool true)], args := [d1, d2, d3] }
  | _ => none }
def historyUndoesRow : OpenClaim := { program := "ytlggdgpdfepppaagreatdoor", sum := "358b7161f72dbe3c60c0dc533e87801af5f7a2a453fc4a2a9588382b2543b9e3", func := "flightdeck/flightdecklaw24.HistoryUndoes", spec := "historyUndoes", inPlace := ["internal/bytealg.IndexByteString", "internal/bytealg.IndexString"], unfollowed := true, recurses := true, named := ["internal/bytealg.MaxLen", "flightdeck/leg.uses", "flightdeck/edit.forms", "flightdeck/edit.gap", "flightdeck/edit.free", "math/bits.divideError", "math/bits.overflowError"], apart := false, laid := [("flightdeck/leg.uses", laid_flightdeck_leg_uses), ("flightdeck/edit.forms", laid_flightdeck_edit_forms), ("flightdeck/edit.gap", laid_flightdeck_edit_gap), ("flightdeck/edit.free", laid_flightdeck_edit_free)] }
def HistoryUndoesSaid : Prop := historyUndoesRow.holds Tryz.pinned (OpenSpec.ofChange historyUndoesSpec)

/-- ITS FALSE NEIGHBOUR: 'it returns false'. Refute it at one input. -/
def historyUndoesWrong : ChangeSpec := { name := "historyUndoes", fn := fun _ => fun
  | [d1, d2, d3] => { results := [.lit (.bool false)], args := [d1, d2, d3] }
  | _ => none }
def HistoryUndoesWrongFalsely : Prop := historyUndoesRow.holds Tryz.pinned (OpenSpec.ofChange historyUndoesWrong)

/-- 'flightdecklaw24.HistoryValid': WHATEVER THE INPUT: true; the input reads as it did. -/
def historyValidSpec : ChangeSpec := { name := "historyValid", fn := fun _ => fun
  | [d1, d2, d3] => { results := [.lit (.bool true)], args := [d1, d2, d3] }
  | _ => none }
def historyValidRow : OpenClaim := { program := "ytlggdgpdfepppaagreatdoor", sum := "358b7161f72dbe3c60c0dc533e87801af5f7a2a453fc4a2a9588382b2543b9e3", func := "flightdeck/flightdecklaw24.HistoryValid", spec := "historyValid", inPlace := ["internal/bytealg.IndexByteString", "internal/bytealg.IndexString"], unfollowed := true, recurses := true, named := ["internal/bytealg.MaxLen", "flightdeck/leg.uses", "flightdeck/edit.forms", "flightdeck/edit.gap", "flightdeck/edit.free", "math/bits.divideError", "math/bits.overflowError"], apart := false, laid := [("flightdeck/leg.uses", laid_flightdeck_leg_uses), ("flightdeck/edit.forms", laid_flightdeck_edit_forms), ("flightdeck/edit.gap", laid_flightdeck_edit_gap), ("flightdeck/edit.free", laid_flightdeck_edit_free)] }
def HistoryValidSaid : Prop := historyValidRow.holds Tryz.pinned (OpenSpec.ofChange historyValidSpec)

/-- ITS FALSE NEIGHBOUR: 'it returns false'. Refute it at one input. -/
def historyValidWrong : ChangeSpec := { name := "historyValid", fn := fun _ => fun
  | [d1, d2, d3] => { results := [.lit (.bool false)], args := [d1, d2, d3] }
  | _ => none }
def HistoryValidWrongFalsely : Prop := historyValidRow.holds Tryz.pinned (OpenSpec.ofChange historyValidWrong)

/-- 'flightdecklaw24.HistoryActive': WHATEVER THE INPUT: true; the input reads as it did. -/
def historyActiveSpec : ChangeSpec := { name := "historyActive", fn := fun _ => fun
  | [d1, d2, d3] => { results := [.lit (.bool true)], args := [d1, d2, d3] }
  | _ => none }
def historyActiveRow : OpenClaim := { program := "ytlggdgpdfepppaagreatdoor", sum := "358b7161f72dbe3c60c0dc533e87801af5f7a2a453fc4a2a9588382b2543b9e3", func := "flightdeck/flightdecklaw24.HistoryActive", spec := "historyActive", inPlace := ["internal/bytealg.IndexByteString", "internal/bytealg.IndexString"], unfollowed := true, recurses := true, named := ["internal/bytealg.MaxLen", "flightdeck/leg.uses", "flightdeck/edit.forms", "flightdeck/edit.gap", "flightdeck/edit.free", "math/bits.divideError", "math/bits.overflowError"], apart := false, laid := [("flightdeck/leg.uses", laid_flightdeck_leg_uses), ("flightdeck/edit.forms", laid_flightdeck_edit_forms), ("flightdeck/edit.gap", laid_flightdeck_edit_gap), ("flightdeck/edit.free", laid_flightdeck_edit_free)] }
def HistoryActiveSaid : Prop := historyActiveRow.holds Tryz.pinned (OpenSpec.ofChange historyActiveSpec)

/-- ITS FALSE NEIGHBOUR: 'it returns false'. Refute it at one input. -/
def historyActiveWrong : ChangeSpec := { name := "historyActive", fn := fun _ => fun
  | [d1, d2, d3] => { results := [.lit (.bool false)], args := [d1, d2, d3] }
  | _ => none }
def HistoryActiveWrongFalsely : Prop := historyActiveRow.holds Tryz.pinned (OpenSpec.ofChange historyActiveWrong)

/-- 'flightdecklaw24.HistoryNil': WHATEVER THE INPUT: true; the input reads as it did. -/
def historyNilSpec : ChangeSpec := { name := "historyNil", fn := fun _ => fun
  | [d1, d2] => { results := [.lit (.bool true)], args := [d1, d2] }
  | _ => none }
def historyNilRow : OpenClaim := { program := "ytlggdgpdfepppaagreatdoor", sum := "358b7161f72dbe3c60c0dc533e87801af5f7a2a453fc4a2a9588382b2543b9e3", func := "flightdeck/flightdecklaw24.HistoryNil", spec := "historyNil", inPlace := ["internal/bytealg.IndexByteString", "internal/bytealg.IndexString", "internal/abi.NoEscape", "internal/bytealg.MakeNoZero"], unfollowed := true, recurses := true, named := ["internal/bytealg.MaxLen", "flightdeck/leg.uses", "flightdeck/edit.forms", "flightdeck/edit.gap", "flightdeck/edit.free", "math/bits.divideError", "math/bits.overflowError", "internal/strconv.uint64pow10", "math/bits.deBruijn32tab", "math/bits.deBruijn64tab", "flightdeck/leg.names"], apart := false, laid := [("math/bits.deBruijn32tab", laid_math_bits_deBruijn32tab), ("math/bits.deBruijn64tab", laid_math_bits_deBruijn64tab), ("internal/strconv.uint64pow10", laid_internal_strconv_uint64pow10), ("flightdeck/leg.names", laid_flightdeck_leg_names), ("flightdeck/leg.uses", laid_flightdeck_leg_uses), ("flightdeck/edit.forms", laid_flightdeck_edit_forms), ("flightdeck/edit.gap", laid_flightdeck_edit_gap), ("flightdeck/edit.free", laid_flightdeck_edit_free)] }
def HistoryNilSaid : Prop := historyNilRow.holds Tryz.pinned (OpenSpec.ofChange historyNilSpec)

/-- ITS FALSE NEIGHBOUR: 'it returns false'. Refute it at one input. -/
def historyNilWrong : ChangeSpec := { name := "historyNil", fn := fun _ => fun
  | [d1, d2] => { results := [.lit (.bool false)], args := [d1, d2] }
  | _ => none }
def HistoryNilWrongFalsely : Prop := historyNilRow.holds Tryz.pinned (OpenSpec.ofChange historyNilWrong)

/- THE SECOND FORM. 'bulk': how many values and letters a reading holds, each counted each time it is reached (what is shared counts as often as it is met; a slice's spare places count too). A statement '..UptoSaid' is the law's where the arguments, and the package variables that the reading takes, are together of bulk at most 1048576: NARROWER than '..Said'. Prove '..Said' where nothing that the law and all that it calls make is longer than what came in: it says more and counts as full. Else prove '..UptoSaid'. A law counts once. -/
mutual
def uptoBulk {H : Type} : DataW H → Nat
  | .lit (.string bytes) => bytes.length + 1
  | .lit _ => 1
  | .nil => 1
  | .ptr d => uptoBulk d + 1
  | .slice elems spare => uptoBulkAll elems + uptoBulkAll spare + 1
  | .agg parts => uptoBulkAll parts + 1
  | .iface _ d => uptoBulk d + 1
  | .map entries => uptoBulkEntries entries + 1
  | .held _ => 1
def uptoBulkAll {H : Type} : List (DataW H) → Nat
  | [] => 0
  | d :: r => uptoBulk d + uptoBulkAll r
def uptoBulkEntries {H : Type} : List (Lit × DataW H) → Nat
  | [] => 0
  | x :: r => uptoBulkEntry x + uptoBulkEntries r
def uptoBulkEntry {H : Type} : Lit × DataW H → Nat
  | (.string bytes, d) => bytes.length + uptoBulk d + 1
  | (_, d) => uptoBulk d + 1
 end
def uptoSmall : (H : Type) → List (DataW H) → Bool := fun _ ds => decide (uptoBulkAll ds ≤ 1048576)
def OpenSpec.upto (s : _root_.Go.ChangeSpec) : _root_.Go.OpenSpec := { _root_.Go.OpenSpec.ofChange s with cond := some uptoSmall }

/-- 'flightdecklaw24.HistoryNews', WHERE WHAT IT READS IS OF BULK AT MOST 1048576: true; the input reads as it did. -/
def historyNewsUptoRow : OpenClaim := { program := "ytlggdgpdfepppaagreatdoor", sum := "358b7161f72dbe3c60c0dc533e87801af5f7a2a453fc4a2a9588382b2543b9e3", func := "flightdeck/flightdecklaw24.HistoryNews", spec := "historyNews", inPlace := ["internal/bytealg.IndexByteString", "internal/bytealg.IndexString"], unfollowed := true, recurses := true, named := ["internal/bytealg.MaxLen", "flightdeck/leg.uses", "flightdeck/edit.forms", "flightdeck/edit.gap", "flightdeck/edit.free", "math/bits.divideError", "math/bits.overflowError"], apart := false, laid := [("flightdeck/leg.uses", laid_flightdeck_leg_uses), ("flightdeck/edit.forms", laid_flightdeck_edit_forms), ("flightdeck/edit.gap", laid_flightdeck_edit_gap), ("flightdeck/edit.free", laid_flightdeck_edit_free)], narrowed := true }
def HistoryNewsUptoSaid : Prop := historyNewsUptoRow.holds Tryz.pinned (OpenSpec.upto historyNewsSpec)

/-- 'flightdecklaw24.HistoryUndoes', WHERE WHAT IT READS IS OF BULK AT MOST 1048576: true; the input reads as it did. -/
def historyUndoesUptoRow : OpenClaim := { program := "ytlggdgpdfepppaagreatdoor", sum := "358b7161f72dbe3c60c0dc533e87801af5f7a2a453fc4a2a9588382b2543b9e3", func := "flightdeck/flightdecklaw24.HistoryUndoes", spec := "historyUndoes", inPlace := ["internal/bytealg.IndexByteString", "internal/bytealg.IndexString"], unfollowed := true, recurses := true, named := ["internal/bytealg.MaxLen", "flightdeck/leg.uses", "flightdeck/edit.forms", "flightdeck/edit.gap", "flightdeck/edit.free", "math/bits.divideError", "math/bits.overflowError"], apart := false, laid := [("flightdeck/leg.uses", laid_flightdeck_leg_uses), ("flightdeck/edit.forms", laid_flightdeck_edit_forms), ("flightdeck/edit.gap", laid_flightdeck_edit_gap), ("flightdeck/edit.free", laid_flightdeck_edit_free)], narrowed := true }
def HistoryUndoesUptoSaid : Prop := historyUndoesUptoRow.holds Tryz.pinned (OpenSpec.upto historyUndoesSpec)

/-- 'flightdecklaw24.HistoryValid', WHERE WHAT IT READS IS OF BULK AT MOST 1048576: true; the input reads as it did. -/
def historyValidUptoRow : OpenClaim := { program := "ytlggdgpdfepppaagreatdoor", sum := "358b7161f72dbe3c60c0dc533e87801af5f7a2a453fc4a2a9588382b2543b9e3", func := "flightdeck/flightdecklaw24.HistoryValid", spec := "historyValid", inPlace := ["internal/bytealg.IndexByteString", "internal/bytealg.IndexString"], unfollowed := true, recurses := true, named := ["internal/bytealg.MaxLen", "flightdeck/leg.uses", "flightdeck/edit.forms", "flightdeck/edit.gap", "flightdeck/edit.free", "math/bits.divideError", "math/bits.overflowError"], apart := false, laid := [("flightdeck/leg.uses", laid_flightdeck_leg_uses), ("flightdeck/edit.forms", laid_flightdeck_edit_forms), ("flightdeck/edit.gap", laid_flightdeck_edit_gap), ("flightdeck/edit.free", laid_flightdeck_edit_free)], narrowed := true }
def HistoryValidUptoSaid : Prop := historyValidUptoRow.holds Tryz.pinned (OpenSpec.upto historyValidSpec)

/-- 'flightdecklaw24.HistoryActive', WHERE WHAT IT READS IS OF BULK AT MOST 1048576: true; the input reads as it did. -/
def historyActiveUptoRow : OpenClaim := { program := "ytlggdgpdfepppaagreatdoor", sum := "358b7161f72dbe3c60c0dc533e87801af5f7a2a453fc4a2a9588382b2543b9e3", func := "flightdeck/flightdecklaw24.HistoryActive", spec := "historyActive", inPlace := ["internal/bytealg.IndexByteString", "internal/bytealg.IndexString"], unfollowed := true, recurses := true, named := ["internal/bytealg.MaxLen", "flightdeck/leg.uses", "flightdeck/edit.forms", "flightdeck/edit.gap", "flightdeck/edit.free", "math/bits.divideError", "math/bits.overflowError"], apart := false, laid := [("flightdeck/leg.uses", laid_flightdeck_leg_uses), ("flightdeck/edit.forms", laid_flightdeck_edit_forms), ("flightdeck/edit.gap", laid_flightdeck_edit_gap), ("flightdeck/edit.free", laid_flightdeck_edit_free)], narrowed := true }
def HistoryActiveUptoSaid : Prop := historyActiveUptoRow.holds Tryz.pinned (OpenSpec.upto historyActiveSpec)

/-- 'flightdecklaw24.HistoryNil', WHERE WHAT IT READS IS OF BULK AT MOST 1048576: true; the input reads as it did. -/
def historyNilUptoRow : OpenClaim := { program := "ytlggdgpdfepppaagreatdoor", sum := "358b7161f72dbe3c60c0dc533e87801af5f7a2a453fc4a2a9588382b2543b9e3", func := "flightdeck/flightdecklaw24.HistoryNil", spec := "historyNil", inPlace := ["internal/bytealg.IndexByteString", "internal/bytealg.IndexString", "internal/abi.NoEscape", "internal/bytealg.MakeNoZero"], unfollowed := true, recurses := true, named := ["internal/bytealg.MaxLen", "flightdeck/leg.uses", "flightdeck/edit.forms", "flightdeck/edit.gap", "flightdeck/edit.free", "math/bits.divideError", "math/bits.overflowError", "internal/strconv.uint64pow10", "math/bits.deBruijn32tab", "math/bits.deBruijn64tab", "flightdeck/leg.names"], apart := false, laid := [("math/bits.deBruijn32tab", laid_math_bits_deBruijn32tab), ("math/bits.deBruijn64tab", laid_math_bits_deBruijn64tab), ("internal/strconv.uint64pow10", laid_internal_strconv_uint64pow10), ("flightdeck/leg.names", laid_flightdeck_leg_names), ("flightdeck/leg.uses", laid_flightdeck_leg_uses), ("flightdeck/edit.forms", laid_flightdeck_edit_forms), ("flightdeck/edit.gap", laid_flightdeck_edit_gap), ("flightdeck/edit.free", laid_flightdeck_edit_free)], narrowed := true }
def HistoryNilUptoSaid : Prop := historyNilUptoRow.holds Tryz.pinned (OpenSpec.upto historyNilSpec)

end Rows
end Go.Proofs.YtlggdgpdfepppaaGreatDoor
