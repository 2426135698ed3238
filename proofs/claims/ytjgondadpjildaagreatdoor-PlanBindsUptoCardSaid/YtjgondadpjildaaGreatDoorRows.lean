/-
  NARROWER THAN 'FOR EVERY INPUT', by the rows' own cells (each row's printed sentence says how): PlanBinds: laid · PlanPoints: laid · PlanParses: laid · PlanText: laid.
  DERIVED. THE GIVEN ROWS OF THIS SEAT. 4 by the template 'for every input the law returns true; each argument reads behind the call as it read before'; 0 by the template 'total and deterministic' (their statements: YtjgondadpjildaaGreatDoorTotals.lean).
  GIVEN WITH THE SEED: the statements are not yours to turn. If you find one false, say at which input.
  Laid BY PROGRAM, IN A SANDBOX (cutbox-rows.mjs): the forced cells as the released guide's own fill.sh prints them over the translation f9949561b2e497a7… (all of the seat's roots in one cut). By AI agents, Wed Nov 11 2026. No macro, syntax, notation, axiom, sorry.
-/
import Derived.Test.YtjgondadpjildaaGreatDoorChecked
import GoSem.PinnedTables
import GoSem.Claim
import GoSem.ClaimJoined
import GoSem.ClaimMapViews
import Derived.JoinedTies
import Derived.KernelRfl
namespace Go.Proofs.YtjgondadpjildaaGreatDoor
/- THE CELL 'sum', in the pinned program and in every row, IS THE sha256 OF THE DUMP (.gsa) THAT YtjgondadpjildaaGreatDoorProg.lean LOADS. Nothing in Lean hashes anything: it is a label: what it is worth is what the hold of that sum in a sandbox is worth. -/
noncomputable def Tryz.pinned : Pinned := { name := "ytjgondadpjildaagreatdoor", sum := "f9949561b2e497a708d0afd3ba62d907a7446cbf5dc5fb156891fd5d3f0c8676", checked := Tryz.checked }
namespace Rows
def none {H : Type} : Left H := { results := [], args := [] }

/- WHAT THE LISTED PACKAGE-LEVEL VARIABLES READ AS WHEN THE CALL BEGINS. Each datum BY PROGRAM (the guide's laid-datum.mjs) off the statement by which the dump's own 'gosem.cut.vars' lays the variable. In a bare row this is a premise. The card (YtjgondadpjildaaGreatDoorCards.lean) ties it to the program's text. -/
def laid_math_bits_deBruijn32tab {H : Type} : DataW H := .agg [.lit (.int .u8 0), .lit (.int .u8 1), .lit (.int .u8 28), .lit (.int .u8 2), .lit (.int .u8 29), .lit (.int .u8 14), .lit (.int .u8 24), .lit (.int .u8 3), .lit (.int .u8 30), .lit (.int .u8 22), .lit (.int .u8 20), .lit (.int .u8 15), .lit (.int .u8 25), .lit (.int .u8 17), .lit (.int .u8 4), .lit (.int .u8 8), .lit (.int .u8 31), .lit (.int .u8 27), .lit (.int .u8 13), .lit (.int .u8 23), .lit (.int .u8 21), .lit (.int .u8 19), .lit (.int .u8 16), .lit (.int .u8 7), .lit (.int .u8 26), .lit (.int .u8 12), .lit (.int .u8 18), .lit (.int .u8 6), .lit (.int .u8 11), .lit (.int .u8 5), .lit (.int .u8 10), .lit (.int .u8 9)]
def laid_math_bits_deBruijn64tab {H : Type} : DataW H := .agg [.lit (.int .u8 0), .lit (.int .u8 1), .lit (.int .u8 56), .lit (.int .u8 2), .lit (.int .u8 57), .lit (.int .u8 49), .lit (.int .u8 28), .lit (.int .u8 3), .lit (.int .u8 61), .lit (.int .u8 58), .lit (.int .u8 42), .lit (.int .u8 50), .lit (.int .u8 38), .lit (.int .u8 29), .lit (.int .u8 17), .lit (.int .u8 4), .lit (.int .u8 62), .lit (.int .u8 47), .lit (.int .u8 59), .lit (.int .u8 36), .lit (.int .u8 45), .lit (.int .u8 43), .lit (.int .u8 51), .lit (.int .u8 22), .lit (.int .u8 53), .lit (.int .u8 39), .lit (.int .u8 33), .lit (.int .u8 30), .lit (.int .u8 24), .lit (.int .u8 18), .lit (.int .u8 12), .lit (.int .u8 5), .lit (.int .u8 63), .lit (.int .u8 55), .lit (.int .u8 48), .lit (.int .u8 27), .lit (.int .u8 60), .lit (.int .u8 41), .lit (.int .u8 37), .lit (.int .u8 16), .lit (.int .u8 46), .lit (.int .u8 35), .lit (.int .u8 44), .lit (.int .u8 21), .lit (.int .u8 52), .lit (.int .u8 32), .lit (.int .u8 23), .lit (.int .u8 11), .lit (.int .u8 54), .lit (.int .u8 26), .lit (.int .u8 40), .lit (.int .u8 15), .lit (.int .u8 34), .lit (.int .u8 20), .lit (.int .u8 31), .lit (.int .u8 10), .lit (.int .u8 25), .lit (.int .u8 14), .lit (.int .u8 19), .lit (.int .u8 9), .lit (.int .u8 13), .lit (.int .u8 8), .lit (.int .u8 7), .lit (.int .u8 6)]
def laid_internal_strconv_uint64pow10 {H : Type} : DataW H := .agg [.lit (.int .u64 1), .lit (.int .u64 10), .lit (.int .u64 100), .lit (.int .u64 1000), .lit (.int .u64 10000), .lit (.int .u64 100000), .lit (.int .u64 1000000), .lit (.int .u64 10000000), .lit (.int .u64 100000000), .lit (.int .u64 1000000000), .lit (.int .u64 10000000000), .lit (.int .u64 100000000000), .lit (.int .u64 1000000000000), .lit (.int .u64 10000000000000), .lit (.int .u64 100000000000000), .lit (.int .u64 1000000000000000), .lit (.int .u64 10000000000000000), .lit (.int .u64 100000000000000000), .lit (.int .u64 1000000000000000000), .lit (.int .u64 10000000000000000000)]
def laid_flightdeck_leg_names {H : Type} : DataW H := .agg [.lit (.string []), .lit (.string [73, 70]), .lit (.string [84, 70]), .lit (.string [67, 70]), .lit (.string [68, 70]), .lit (.string [82, 70]), .lit (.string [65, 70]), .lit (.string [67, 65]), .lit (.string [67, 68]), .lit (.string [67, 73]), .lit (.string [67, 82]), .lit (.string [70, 65]), .lit (.string [70, 67]), .lit (.string [70, 77]), .lit (.string [72, 65]), .lit (.string [72, 70]), .lit (.string [72, 77]), .lit (.string [80, 73])]
def laid_flightdeck_leg_uses {H : Type} : DataW H := .agg [.lit (.int .u16 0), .lit (.int .u16 1), .lit (.int .u16 9), .lit (.int .u16 25), .lit (.int .u16 9), .lit (.int .u16 71), .lit (.int .u16 71), .lit (.int .u16 16), .lit (.int .u16 50), .lit (.int .u16 16), .lit (.int .u16 146), .lit (.int .u16 17), .lit (.int .u16 49), .lit (.int .u16 17), .lit (.int .u16 53), .lit (.int .u16 53), .lit (.int .u16 53), .lit (.int .u16 53)]
def laid_unicode_utf8_acceptRanges {H : Type} : DataW H := .agg [.agg [.lit (.int .u8 128), .lit (.int .u8 191)], .agg [.lit (.int .u8 160), .lit (.int .u8 191)], .agg [.lit (.int .u8 128), .lit (.int .u8 159)], .agg [.lit (.int .u8 144), .lit (.int .u8 191)], .agg [.lit (.int .u8 128), .lit (.int .u8 143)], .agg [.lit (.int .u8 0), .lit (.int .u8 0)], .agg [.lit (.int .u8 0), .lit (.int .u8 0)], .agg [.lit (.int .u8 0), .lit (.int .u8 0)], .agg [.lit (.int .u8 0), .lit (.int .u8 0)], .agg [.lit (.int .u8 0), .lit (.int .u8 0)], .agg [.lit (.int .u8 0), .lit (.int .u8 0)], .agg [.lit (.int .u8 0), .lit (.int .u8 0)], .agg [.lit (.int .u8 0), .lit (.int .u8 0)], .agg [.lit (.int .u8 0), .lit (.int .u8 0)], .agg [.lit (.int .u8 0), .lit (.int .u8 0)], .agg [.lit (.int .u8 0), .lit (.int .u8 0)]]
def laid_strconv_ErrRange {H : Type} : DataW H := .iface "*errors.errorString" (.ptr (.agg [.lit (.string [118, 97, 108, 117, 101, 32, 111, 117, 116, 32, 111, 102, 32, 114, 97, 110, 103, 101])]))
def laid_strconv_ErrSyntax {H : Type} : DataW H := .iface "*errors.errorString" (.ptr (.agg [.lit (.string [105, 110, 118, 97, 108, 105, 100, 32, 115, 121, 110, 116, 97, 120])]))
/-- One of Go's own tables, pinned by name: the form's constant. -/
def laid_unicode_utf8_first : DataW Unit := Go.Pinned.utf8First

/-- 'flightdecklaw21.PlanBinds': WHATEVER THE INPUT: true; the input reads as it did. -/
def planBindsSpec : ChangeSpec := { name := "planBinds", fn := fun _ => fun
  | [d1, d2, d3] => { results := [.lit (.bool true)], args := [d1, d2, d3] }
  | _ => none }
def planBindsRow : OpenClaim := { program := "ytjgondadpjildaagreatdoor", sum := "f9949561b2e497a708d0afd3ba62d907a7446cbf5dc5fb156891fd5d3f0c8676", func := "flightdeck/flightdecklaw21.PlanBinds", spec := "planBinds", inPlace := ["internal/bytealg.IndexByteString", "internal/bytealg.IndexString", "internal/abi.NoEscape", "internal/bytealg.MakeNoZero"], unfollowed := true, recurses := true, named := ["internal/bytealg.MaxLen", "flightdeck/leg.uses", "internal/strconv.uint64pow10", "math/bits.deBruijn32tab", "math/bits.deBruijn64tab", "flightdeck/leg.names", "math/bits.divideError", "math/bits.overflowError"], apart := false, laid := [("math/bits.deBruijn32tab", laid_math_bits_deBruijn32tab), ("math/bits.deBruijn64tab", laid_math_bits_deBruijn64tab), ("internal/strconv.uint64pow10", laid_internal_strconv_uint64pow10), ("flightdeck/leg.names", laid_flightdeck_leg_names), ("flightdeck/leg.uses", laid_flightdeck_leg_uses)] }
def PlanBindsSaid : Prop := planBindsRow.holds Tryz.pinned (OpenSpec.ofChange planBindsSpec)

/-- ITS FALSE NEIGHBOUR: 'it returns false'. Refute it at one input. -/
def planBindsWrong : ChangeSpec := { name := "planBinds", fn := fun _ => fun
  | [d1, d2, d3] => { results := [.lit (.bool false)], args := [d1, d2, d3] }
  | _ => none }
def PlanBindsWrongFalsely : Prop := planBindsRow.holds Tryz.pinned (OpenSpec.ofChange planBindsWrong)

/-- 'flightdecklaw21.PlanPoints': WHATEVER THE INPUT: true; the input reads as it did. -/
def planPointsSpec : ChangeSpec := { name := "planPoints", fn := fun _ => fun
  | [d1, d2, d3] => { results := [.lit (.bool true)], args := [d1, d2, d3] }
  | _ => none }
def planPointsRow : OpenClaim := { program := "ytjgondadpjildaagreatdoor", sum := "f9949561b2e497a708d0afd3ba62d907a7446cbf5dc5fb156891fd5d3f0c8676", func := "flightdeck/flightdecklaw21.PlanPoints", spec := "planPoints", inPlace := ["internal/bytealg.IndexByteString", "internal/bytealg.IndexString", "internal/abi.NoEscape", "internal/bytealg.MakeNoZero"], unfollowed := true, recurses := true, named := ["internal/bytealg.MaxLen", "flightdeck/leg.uses", "internal/strconv.uint64pow10", "math/bits.deBruijn32tab", "math/bits.deBruijn64tab", "flightdeck/leg.names", "math/bits.divideError", "math/bits.overflowError"], apart := false, laid := [("math/bits.deBruijn32tab", laid_math_bits_deBruijn32tab), ("math/bits.deBruijn64tab", laid_math_bits_deBruijn64tab), ("internal/strconv.uint64pow10", laid_internal_strconv_uint64pow10), ("flightdeck/leg.names", laid_flightdeck_leg_names), ("flightdeck/leg.uses", laid_flightdeck_leg_uses)] }
def PlanPointsSaid : Prop := planPointsRow.holds Tryz.pinned (OpenSpec.ofChange planPointsSpec)

/-- ITS FALSE NEIGHBOUR: 'it returns false'. Refute it at one input. -/
def planPointsWrong : ChangeSpec := { name := "planPoints", fn := fun _ => fun
  | [d1, d2, d3] => { results := [.lit (.bool false)], args := [d1, d2, d3] }
  | _ => none }
def PlanPointsWrongFalsely : Prop := planPointsRow.holds Tryz.pinned (OpenSpec.ofChange planPointsWrong)

/-- 'flightdecklaw21.PlanParses': WHATEVER THE INPUT: true; the input reads as it did. -/
def planParsesSpec : ChangeSpec := { name := "planParses", fn := fun _ => fun
  | [d] => { results := [.lit (.bool true)], args := [d] }
  | _ => none }
def planParsesRow : OpenClaim := { program := "ytjgondadpjildaagreatdoor", sum := "f9949561b2e497a708d0afd3ba62d907a7446cbf5dc5fb156891fd5d3f0c8676", func := "flightdeck/flightdecklaw21.PlanParses", spec := "planParses", inPlace := ["internal/bytealg.IndexByteString", "internal/bytealg.IndexString", "internal/abi.NoEscape", "internal/bytealg.MakeNoZero", "internal/bytealg.CountString"], unfollowed := true, recurses := true, named := ["internal/bytealg.MaxLen", "flightdeck/leg.uses", "internal/strconv.uint64pow10", "math/bits.deBruijn32tab", "math/bits.deBruijn64tab", "flightdeck/leg.names", "unicode/utf8.first", "unicode/utf8.acceptRanges", "strconv.ErrSyntax", "strconv.ErrRange"], apart := false, laid := [("math/bits.deBruijn32tab", laid_math_bits_deBruijn32tab), ("math/bits.deBruijn64tab", laid_math_bits_deBruijn64tab), ("internal/strconv.uint64pow10", laid_internal_strconv_uint64pow10), ("unicode/utf8.acceptRanges", laid_unicode_utf8_acceptRanges), ("strconv.ErrRange", laid_strconv_ErrRange), ("strconv.ErrSyntax", laid_strconv_ErrSyntax), ("flightdeck/leg.names", laid_flightdeck_leg_names), ("flightdeck/leg.uses", laid_flightdeck_leg_uses), ("unicode/utf8.first", laid_unicode_utf8_first)] }
def PlanParsesSaid : Prop := planParsesRow.holds Tryz.pinned (OpenSpec.ofChange planParsesSpec)

/-- ITS FALSE NEIGHBOUR: 'it returns false'. Refute it at one input. -/
def planParsesWrong : ChangeSpec := { name := "planParses", fn := fun _ => fun
  | [d] => { results := [.lit (.bool false)], args := [d] }
  | _ => none }
def PlanParsesWrongFalsely : Prop := planParsesRow.holds Tryz.pinned (OpenSpec.ofChange planParsesWrong)

/-- 'flightdecklaw21.PlanText': WHATEVER THE INPUT: true; the input reads as it did. -/
def planTextSpec : ChangeSpec := { name := "planText", fn := fun _ => fun
  | [d] => { results := [.lit (.bool true)], args := [d] }
  | _ => none }
def planTextRow : OpenClaim := { program := "ytjgondadpjildaagreatdoor", sum := "f9949561b2e497a708d0afd3ba62d907a7446cbf5dc5fb156891fd5d3f0c8676", func := "flightdeck/flightdecklaw21.PlanText", spec := "planText", inPlace := ["internal/bytealg.IndexByteString", "internal/bytealg.IndexString", "internal/abi.NoEscape", "internal/bytealg.MakeNoZero", "internal/bytealg.CountString"], unfollowed := true, recurses := true, named := ["internal/bytealg.MaxLen", "flightdeck/leg.uses", "internal/strconv.uint64pow10", "math/bits.deBruijn32tab", "math/bits.deBruijn64tab", "flightdeck/leg.names", "unicode/utf8.first", "unicode/utf8.acceptRanges", "strconv.ErrSyntax", "strconv.ErrRange"], apart := false, laid := [("math/bits.deBruijn32tab", laid_math_bits_deBruijn32tab), ("math/bits.deBruijn64tab", laid_math_bits_deBruijn64tab), ("internal/strconv.uint64pow10", laid_internal_strconv_uint64pow10), ("unicode/utf8.acceptRanges", laid_unicode_utf8_acceptRanges), ("strconv.ErrRange", laid_strconv_ErrRange), ("strconv.ErrSyntax", laid_strconv_ErrSyntax), ("flightdeck/leg.names", laid_flightdeck_leg_names), ("flightdeck/leg.uses", laid_flightdeck_leg_uses), ("unicode/utf8.first", laid_unicode_utf8_first)] }
def PlanTextSaid : Prop := planTextRow.holds Tryz.pinned (OpenSpec.ofChange planTextSpec)

/-- ITS FALSE NEIGHBOUR: 'it returns false'. Refute it at one input. -/
def planTextWrong : ChangeSpec := { name := "planText", fn := fun _ => fun
  | [d] => { results := [.lit (.bool false)], args := [d] }
  | _ => none }
def PlanTextWrongFalsely : Prop := planTextRow.holds Tryz.pinned (OpenSpec.ofChange planTextWrong)

/- THE SECOND FORM. 'bulk': how many values and letters a reading holds, each counted each time it is reached (what is shared counts as often as it is met; a slice's spare places count too). A statement '..UptoSaid' is the law's where the arguments, and the package variables that the reading takes, are together of bulk at most 1048576: NARROWER than '..Said'. Prove '..Said' where nothing that the law and all that it calls make is longer than what came in: it says more and counts as full. Else prove '..UptoSaid'. A law counts once. -/
mutual
def uptoBulk {H : Type} : DataW H → Nat
  | .lit (.string bytes) => bytes.length + 1
  | .lit _ => 1
  | .nil => 1
  | .ptr d => uptoBulk d + 1
  | .slice elems spare => uptoBulkAll elems + uptoBulkAll spare + 1
  | .agg parts => uptoBulkAll parts + 1
  | .iface _ d => uptoBulk d + 1
  | .map entries => uptoBulkEntries entries + 1
  | .held _ => 1
def uptoBulkAll {H : Type} : List (DataW H) → Nat
  | [] => 0
  | d :: r => uptoBulk d + uptoBulkAll r
def uptoBulkEntries {H : Type} : List (Lit × DataW H) → Nat
  | [] => 0
  | x :: r => uptoBulkEntry x + uptoBulkEntries r
def uptoBulkEntry {H : Type} : Lit × DataW H → Nat
  | (.string bytes, d) => bytes.length + uptoBulk d + 1
  | (_, d) => uptoBulk d + 1
 end
def uptoSmall : (H : Type) → List (DataW H) → Bool := fun _ ds => decide (uptoBulkAll ds ≤ 1048576)
def OpenSpec.upto (s : _root_.Go.ChangeSpec) : _root_.Go.OpenSpec := { _root_.Go.OpenSpec.ofChange s with cond := some uptoSmall }

/-- 'flightdecklaw21.PlanBinds', WHERE WHAT IT READS IS OF BULK AT MOST 1048576: true; the input reads as it did. -/
def planBindsUptoRow : OpenClaim := { program := "ytjgondadpjildaagreatdoor", sum := "f9949561b2e497a708d0afd3ba62d907a7446cbf5dc5fb156891fd5d3f0c8676", func := "flightdeck/flightdecklaw21.PlanBinds", spec := "planBinds", inPlace := ["internal/bytealg.IndexByteString", "internal/bytealg.IndexString", "internal/abi.NoEscape", "internal/bytealg.MakeNoZero"], unfollowed := true, recurses := true, named := ["internal/bytealg.MaxLen", "flightdeck/leg.uses", "internal/strconv.uint64pow10", "math/bits.deBruijn32tab", "math/bits.deBruijn64tab", "flightdeck/leg.names", "math/bits.divideError", "math/bits.overflowError"], apart := false, laid := [("math/bits.deBruijn32tab", laid_math_bits_deBruijn32tab), ("math/bits.deBruijn64tab", laid_math_bits_deBruijn64tab), ("internal/strconv.uint64pow10", laid_internal_strconv_uint64pow10), ("flightdeck/leg.names", laid_flightdeck_leg_names), ("flightdeck/leg.uses", laid_flightdeck_leg_uses)], narrowed := true }
def PlanBindsUptoSaid : Prop := planBindsUptoRow.holds Tryz.pinned (OpenSpec.upto planBindsSpec)

/-- 'flightdecklaw21.PlanPoints', WHERE WHAT IT READS IS OF BULK AT MOST 1048576: true; the input reads as it did. -/
def planPointsUptoRow : OpenClaim := { program := "ytjgondadpjildaagreatdoor", sum := "f9949561b2e497a708d0afd3ba62d907a7446cbf5dc5fb156891fd5d3f0c8676", func := "flightdeck/flightdecklaw21.PlanPoints", spec := "planPoints", inPlace := ["internal/bytealg.IndexByteString", "internal/bytealg.IndexString", "internal/abi.NoEscape", "internal/bytealg.MakeNoZero"], unfollowed := true, recurses := true, named := ["internal/bytealg.MaxLen", "flightdeck/leg.uses", "internal/strconv.uint64pow10", "math/bits.deBruijn32tab", "math/bits.deBruijn64tab", "flightdeck/leg.names", "math/bits.divideError", "math/bits.overflowError"], apart := false, laid := [("math/bits.deBruijn32tab", laid_math_bits_deBruijn32tab), ("math/bits.deBruijn64tab", laid_math_bits_deBruijn64tab), ("internal/strconv.uint64pow10", laid_internal_strconv_uint64pow10), ("flightdeck/leg.names", laid_flightdeck_leg_names), ("flightdeck/leg.uses", laid_flightdeck_leg_uses)], narrowed := true }
def PlanPointsUptoSaid : Prop := planPointsUptoRow.holds Tryz.pinned (OpenSpec.upto planPointsSpec)

/-- 'flightdecklaw21.PlanParses', WHERE WHAT IT READS IS OF BULK AT MOST 1048576: true; the input reads as it did. -/
def planParsesUptoRow : OpenClaim := { program := "ytjgondadpjildaagreatdoor", sum := "f9949561b2e497a708d0afd3ba62d907a7446cbf5dc5fb156891fd5d3f0c8676", func := "flightdeck/flightdecklaw21.PlanParses", spec := "planParses", inPlace := ["internal/bytealg.IndexByteString", "internal/bytealg.IndexString", "internal/abi.NoEscape", "internal/bytealg.MakeNoZero", "internal/bytealg.CountString"], unfollowed := true, recurses := true, named := ["internal/bytealg.MaxLen", "flightdeck/leg.uses", "internal/strconv.uint64pow10", "math/bits.deBruijn32tab", "math/bits.deBruijn64tab", "flightdeck/leg.names", "unicode/utf8.first", "unicode/utf8.acceptRanges", "strconv.ErrSyntax", "strconv.ErrRange"], apart := false, laid := [("math/bits.deBruijn32tab", laid_math_bits_deBruijn32tab), ("math/bits.deBruijn64tab", laid_math_bits_deBruijn64tab), ("internal/strconv.uint64pow10", laid_internal_strconv_uint64pow10), ("unicode/utf8.acceptRanges", laid_unicode_utf8_acceptRanges), ("strconv.ErrRange", laid_strconv_ErrRange), ("strconv.ErrSyntax", laid_strconv_ErrSyntax), ("flightdeck/leg.names", laid_flightdeck_leg_names), ("flightdeck/leg.uses", laid_flightdeck_leg_uses), ("unicode/utf8.first", laid_unicode_utf8_first)], narrowed := true }
def PlanParsesUptoSaid : Prop := planParsesUptoRow.holds Tryz.pinned (OpenSpec.upto planParsesSpec)

/-- 'flightdecklaw21.PlanText', WHERE WHAT IT READS IS OF BULK AT MOST 1048576: true; the input reads as it did. -/
def planTextUptoRow : OpenClaim := { program := "ytjgondadpjildaagreatdoor", sum := "f9949561b2e497a708d0afd3ba62d907a7446cbf5dc5fb156891fd5d3f0c8676", func := "flightdeck/flightdecklaw21.PlanText", spec := "planText", inPlace := ["internal/bytealg.IndexByteString", "internal/bytealg.IndexString", "internal/abi.NoEscape", "internal/bytealg.MakeNoZero", "internal/bytealg.CountString"], unfollowed := true, recurses := true, named := ["internal/bytealg.MaxLen", "flightdeck/leg.uses", "internal/strconv.uint64pow10", "math/bits.deBruijn32tab", "math/bits.deBruijn64tab", "flightdeck/leg.names", "unicode/utf8.first", "unicode/utf8.acceptRanges", "strconv.ErrSyntax", "strconv.ErrRange"], apart := false, laid := [("math/bits.deBruijn32tab", laid_math_bits_deBruijn32tab), ("math/bits.deBruijn64tab", laid_math_bits_deBruijn64tab), ("internal/strconv.uint64pow10", laid_internal_strconv_uint64pow10), ("unicode/utf8.acceptRanges", laid_unicode_utf8_acceptRanges), ("strconv.ErrRange", laid_strconv_ErrRange), ("strconv.ErrSyntax", laid_strconv_ErrSyntax), ("flightdeck/leg.names", laid_flightdeck_leg_names), ("flightdeck/leg.uses", laid_flightdeck_leg_uses), ("unicode/utf8.first", laid_unicode_utf8_first)], narrowed := true }
def PlanTextUptoSaid : Prop := planTextUptoRow.holds Tryz.pinned (OpenSpec.upto planTextSpec)

end Rows
end Go.Proofs.YtjgondadpjildaaGreatDoor
