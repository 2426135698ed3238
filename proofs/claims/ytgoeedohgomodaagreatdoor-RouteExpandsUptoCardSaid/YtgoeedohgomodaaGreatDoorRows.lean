/-
  NARROWER THAN 'FOR EVERY INPUT', by the rows' own cells (each row's printed sentence says how): RouteParses: laid · RoutePlaces: laid · RouteExpands: laid · RoutePrints: laid · RouteValid: laid · RouteText: laid · RouteDirect: laid.
  DERIVED. THE GIVEN ROWS OF THIS SEAT. 7 by the template 'for every input the law returns true; each argument reads behind the call as it read before'; 0 by the template 'total and deterministic' (their statements: YtgoeedohgomodaaGreatDoorTotals.lean).
  GIVEN WITH THE SEED: the statements are not yours to turn. If you find one false, say at which input.
  Laid BY PROGRAM, IN A SANDBOX (cutbox-rows.mjs): the forced cells as the released guide's own fill.sh prints them over the translation 991de91f1b9f6b45… (all of the seat's roots in one cut). By AI agents, Wed Nov 11 2026. No macro, syntax, notation, axiom, sorry.
-/
import Derived.Test.YtgoeedohgomodaaGreatDoorChecked
import GoSem.PinnedTables
import GoSem.Claim
import GoSem.ClaimJoined
import GoSem.ClaimMapViews
import Derived.JoinedTies
import Derived.KernelRfl
namespace Go.Proofs.YtgoeedohgomodaaGreatDoor
/- THE CELL 'sum', in the pinned program and in every row, IS THE sha256 OF THE DUMP (.gsa) THAT YtgoeedohgomodaaGreatDoorProg.lean LOADS. Nothing in Lean hashes anything: it is a label: what it is worth is what the hold of that sum in a sandbox is worth. -/
noncomputable def Tryz.pinned : Pinned := { name := "ytgoeedohgomodaagreatdoor", sum := "991de91f1b9f6b45b9318ba67dfcbc106287d7a6673e19f4fb0141b5919b3af0", checked := Tryz.checked }
namespace Rows
def none {H : Type} : Left H := { results := [], args := [] }

/- WHAT THE LISTED PACKAGE-LEVEL VARIABLES READ AS WHEN THE CALL BEGINS. Each datum BY PROGRAM (the guide's laid-datum.mjs) off the statement by which the dump's own 'gosem.cut.vars' lays the variable. In a bare row this is a premise. The card (YtgoeedohgomodaaGreatDoorCards.lean) ties it to the program's text. -/
def laid_unicode_utf8_acceptRanges {H : Type} : DataW H := .agg [.agg [.lit (.int .u8 128), .lit (.int .u8 191)], .agg [.lit (.int .u8 160), .lit (.int .u8 191)], .agg [.lit (.int .u8 128), .lit (.int .u8 159)], .agg [.lit (.int .u8 144), .lit (.int .u8 191)], .agg [.lit (.int .u8 128), .lit (.int .u8 143)], .agg [.lit (.int .u8 0), .lit (.int .u8 0)], .agg [.lit (.int .u8 0), .lit (.int .u8 0)], .agg [.lit (.int .u8 0), .lit (.int .u8 0)], .agg [.lit (.int .u8 0), .lit (.int .u8 0)], .agg [.lit (.int .u8 0), .lit (.int .u8 0)], .agg [.lit (.int .u8 0), .lit (.int .u8 0)], .agg [.lit (.int .u8 0), .lit (.int .u8 0)], .agg [.lit (.int .u8 0), .lit (.int .u8 0)], .agg [.lit (.int .u8 0), .lit (.int .u8 0)], .agg [.lit (.int .u8 0), .lit (.int .u8 0)], .agg [.lit (.int .u8 0), .lit (.int .u8 0)]]
def laid_flightdeck_leg_uses {H : Type} : DataW H := .agg [.lit (.int .u16 0), .lit (.int .u16 1), .lit (.int .u16 9), .lit (.int .u16 25), .lit (.int .u16 9), .lit (.int .u16 71), .lit (.int .u16 71), .lit (.int .u16 16), .lit (.int .u16 50), .lit (.int .u16 16), .lit (.int .u16 146), .lit (.int .u16 17), .lit (.int .u16 49), .lit (.int .u16 17), .lit (.int .u16 53), .lit (.int .u16 53), .lit (.int .u16 53), .lit (.int .u16 53)]
/-- One of Go's own tables, pinned by name: the form's constant. -/
def laid_unicode_utf8_first : DataW Unit := Go.Pinned.utf8First

/-- 'flightdecklaw22.RouteParses': WHATEVER THE INPUT: true; the input reads as it did. -/
def routeParsesSpec : ChangeSpec := { name := "routeParses", fn := fun _ => fun
  | [d] => { results := [.lit (.bool true)], args := [d] }
  | _ => none }
def routeParsesRow : OpenClaim := { program := "ytgoeedohgomodaagreatdoor", sum := "991de91f1b9f6b45b9318ba67dfcbc106287d7a6673e19f4fb0141b5919b3af0", func := "flightdeck/flightdecklaw22.RouteParses", spec := "routeParses", inPlace := ["internal/bytealg.CountString", "internal/bytealg.IndexByteString", "internal/bytealg.IndexString", "internal/abi.NoEscape", "internal/bytealg.MakeNoZero"], unfollowed := true, recurses := true, named := ["unicode/utf8.first", "unicode/utf8.acceptRanges", "internal/bytealg.MaxLen", "flightdeck/leg.uses", "math/bits.divideError", "math/bits.overflowError"], apart := false, laid := [("unicode/utf8.acceptRanges", laid_unicode_utf8_acceptRanges), ("flightdeck/leg.uses", laid_flightdeck_leg_uses), ("unicode/utf8.first", laid_unicode_utf8_first)] }
def RouteParsesSaid : Prop := routeParsesRow.holds Tryz.pinned (OpenSpec.ofChange routeParsesSpec)

/-- ITS FALSE NEIGHBOUR: 'it returns false'. Refute it at one input. -/
def routeParsesWrong : ChangeSpec := { name := "routeParses", fn := fun _ => fun
  | [d] => { results := [.lit (.bool false)], args := [d] }
  | _ => none }
def RouteParsesWrongFalsely : Prop := routeParsesRow.holds Tryz.pinned (OpenSpec.ofChange routeParsesWrong)

/-- 'flightdecklaw22.RoutePlaces': WHATEVER THE INPUT: true; the input reads as it did. -/
def routePlacesSpec : ChangeSpec := { name := "routePlaces", fn := fun _ => fun
  | [d1, d2] => { results := [.lit (.bool true)], args := [d1, d2] }
  | _ => none }
def routePlacesRow : OpenClaim := { program := "ytgoeedohgomodaagreatdoor", sum := "991de91f1b9f6b45b9318ba67dfcbc106287d7a6673e19f4fb0141b5919b3af0", func := "flightdeck/flightdecklaw22.RoutePlaces", spec := "routePlaces", inPlace := ["internal/bytealg.CountString", "internal/bytealg.IndexByteString", "internal/bytealg.IndexString", "internal/abi.NoEscape", "internal/bytealg.MakeNoZero"], unfollowed := true, recurses := true, named := ["unicode/utf8.first", "unicode/utf8.acceptRanges", "internal/bytealg.MaxLen", "flightdeck/leg.uses", "math/bits.divideError", "math/bits.overflowError"], apart := false, laid := [("unicode/utf8.acceptRanges", laid_unicode_utf8_acceptRanges), ("flightdeck/leg.uses", laid_flightdeck_leg_uses), ("unicode/utf8.first", laid_unicode_utf8_first)] }
def RoutePlacesSaid : Prop := routePlacesRow.holds Tryz.pinned (OpenSpec.ofChange routePlacesSpec)

/-- ITS FALSE NEIGHBOUR: 'it returns false'. Refute it at one input. -/
def routePlacesWrong : ChangeSpec := { name := "routePlaces", fn := fun _ => fun
  | [d1, d2] => { results := [.lit (.bool false)], args := [d1, d2] }
  | _ => none }
def RoutePlacesWrongFalsely : Prop := routePlacesRow.holds Tryz.pinned (OpenSpec.ofChange routePlacesWrong)

/-- 'flightdecklaw22.RouteExpands': WHATEVER THE INPUT: true; the input reads as it did. -/
def routeExpandsSpec : ChangeSpec := { name := "routeExpands", fn := fun _ => fun
  | [d1, d2] => { results := [.lit (.bool true)], args := [d1, d2] }
  | _ => none }
def routeExpandsRow : OpenClaim := { program := "ytgoeedohgomodaagreatdoor", sum := "991de91f1b9f6b45b9318ba67dfcbc106287d7a6673e19f4fb0141b5919b3af0", func := "flightdeck/flightdecklaw22.RouteExpands", spec := "routeExpands", inPlace := ["internal/bytealg.CountString", "internal/bytealg.IndexByteString", "internal/bytealg.IndexString", "internal/abi.NoEscape", "internal/bytealg.MakeNoZero"], unfollowed := true, recurses := true, named := ["unicode/utf8.first", "unicode/utf8.acceptRanges", "internal/bytealg.MaxLen", "flightdeck/leg.uses", "math/bits.divideError", "math/bits.overflowError"], apart := false, laid := [("unicode/utf8.acceptRanges", laid_unicode_utf8_acceptRanges), ("flightdeck/leg.uses", laid_flightdeck_leg_uses), ("unicode/utf8.first", laid_unicode_utf8_first)] }
def RouteExpandsSaid : Prop := routeExpandsRow.holds Tryz.pinned (OpenSpec.ofChange routeExpandsSpec)

/-- ITS FALSE NEIGHBOUR: 'it returns false'. Refute it at one input. -/
def routeExpandsWrong : ChangeSpec := { name := "routeExpands", fn := fun _ => fun
  | [d1, d2] => { results := [.lit (.bool false)], args := [d1, d2] }
  | _ => none }
def RouteExpandsWrongFalsely : Prop := routeExpandsRow.holds Tryz.pinned (OpenSpec.ofChange routeExpandsWrong)

/-- 'flightdecklaw22.RoutePrints': WHATEVER THE INPUT: true; the input reads as it did. -/
def routePrintsSpec : ChangeSpec := { name := "routePrints", fn := fun _ => fun
  | [d] => { results := [.lit (.bool true)], args := [d] }
  | _ => none }
def routePrintsRow : OpenClaim := { program := "ytgoeedohgomodaagreatdoor", sum := "991de91f1b9f6b45b9318ba67dfcbc106287d7a6673e19f4fb0141b5919b3af0", func := "flightdeck/flightdecklaw22.RoutePrints", spec := "routePrints", inPlace := ["internal/bytealg.CountString", "internal/bytealg.IndexByteString", "internal/bytealg.IndexString", "internal/abi.NoEscape", "internal/bytealg.MakeNoZero"], unfollowed := true, recurses := true, named := ["unicode/utf8.first", "unicode/utf8.acceptRanges", "internal/bytealg.MaxLen", "flightdeck/leg.uses", "math/bits.divideError", "math/bits.overflowError"], apart := false, laid := [("unicode/utf8.acceptRanges", laid_unicode_utf8_acceptRanges), ("flightdeck/leg.uses", laid_flightdeck_leg_uses), ("unicode/utf8.first", laid_unicode_utf8_first)] }
def RoutePrintsSaid : Prop := routePrintsRow.holds Tryz.pinned (OpenSpec.ofChange routePrintsSpec)

/-- ITS FALSE NEIGHBOUR: 'it returns false'. Refute it at one input. -/
def routePrintsWrong : ChangeSpec := { name := "routePrints", fn := fun _ => fun
  | [d] => { results := [.lit (.bool false)], args := [d] }
  | _ => none }
def RoutePrintsWrongFalsely : Prop := routePrintsRow.holds Tryz.pinned (OpenSpec.ofChange routePrintsWrong)

/-- 'flightdecklaw22.RouteValid': WHATEVER THE INPUT: true; the input reads as it did. -/
def routeValidSpec : ChangeSpec := { name := "routeValid", fn := fun _ => fun
  | [d1, d2] => { results := [.lit (.bool true)], args := [d1, d2] }
  | _ => none }
def routeValidRow : OpenClaim := { program := "ytgoeedohgomodaagreatdoor", sum := "991de91f1b9f6b45b9318ba67dfcbc106287d7a6673e19f4fb0141b5919b3af0", func := "flightdeck/flightdecklaw22.RouteValid", spec := "routeValid", inPlace := ["internal/bytealg.CountString", "internal/bytealg.IndexByteString", "internal/bytealg.IndexString", "internal/abi.NoEscape", "internal/bytealg.MakeNoZero"], unfollowed := true, recurses := true, named := ["unicode/utf8.first", "unicode/utf8.acceptRanges", "internal/bytealg.MaxLen", "flightdeck/leg.uses", "math/bits.divideError", "math/bits.overflowError"], apart := false, laid := [("unicode/utf8.acceptRanges", laid_unicode_utf8_acceptRanges), ("flightdeck/leg.uses", laid_flightdeck_leg_uses), ("unicode/utf8.first", laid_unicode_utf8_first)] }
def RouteValidSaid : Prop := routeValidRow.holds Tryz.pinned (OpenSpec.ofChange routeValidSpec)

/-- ITS FALSE NEIGHBOUR: 'it returns false'. Refute it at one input. -/
def routeValidWrong : ChangeSpec := { name := "routeValid", fn := fun _ => fun
  | [d1, d2] => { results := [.lit (.bool false)], args := [d1, d2] }
  | _ => none }
def RouteValidWrongFalsely : Prop := routeValidRow.holds Tryz.pinned (OpenSpec.ofChange routeValidWrong)

/-- 'flightdecklaw22.RouteText': WHATEVER THE INPUT: true; the input reads as it did. -/
def routeTextSpec : ChangeSpec := { name := "routeText", fn := fun _ => fun
  | [d1, d2] => { results := [.lit (.bool true)], args := [d1, d2] }
  | _ => none }
def routeTextRow : OpenClaim := { program := "ytgoeedohgomodaagreatdoor", sum := "991de91f1b9f6b45b9318ba67dfcbc106287d7a6673e19f4fb0141b5919b3af0", func := "flightdeck/flightdecklaw22.RouteText", spec := "routeText", inPlace := ["internal/bytealg.CountString", "internal/bytealg.IndexByteString", "internal/bytealg.IndexString", "internal/abi.NoEscape", "internal/bytealg.MakeNoZero"], unfollowed := true, recurses := true, named := ["unicode/utf8.first", "unicode/utf8.acceptRanges", "internal/bytealg.MaxLen", "flightdeck/leg.uses", "math/bits.divideError", "math/bits.overflowError"], apart := false, laid := [("unicode/utf8.acceptRanges", laid_unicode_utf8_acceptRanges), ("flightdeck/leg.uses", laid_flightdeck_leg_uses), ("unicode/utf8.first", laid_unicode_utf8_first)] }
def RouteTextSaid : Prop := routeTextRow.holds Tryz.pinned (OpenSpec.ofChange routeTextSpec)

/-- ITS FALSE NEIGHBOUR: 'it returns false'. Refute it at one input. -/
def routeTextWrong : ChangeSpec := { name := "routeText", fn := fun _ => fun
  | [d1, d2] => { results := [.lit (.bool false)], args := [d1, d2] }
  | _ => none }
def RouteTextWrongFalsely : Prop := routeTextRow.holds Tryz.pinned (OpenSpec.ofChange routeTextWrong)

/-- 'flightdecklaw22.RouteDirect': WHATEVER THE INPUT: true; the input reads as it did. -/
def routeDirectSpec : ChangeSpec := { name := "routeDirect", fn := fun _ => fun
  | [d1, d2, d3] => { results := [.lit (.bool true)], args := [d1, d2, d3] }
  | _ => none }
def routeDirectRow : OpenClaim := { program := "ytgoeedohgomodaagreatdoor", sum := "991de91f1b9f6b45b9318ba67dfcbc106287d7a6673e19f4fb0141b5919b3af0", func := "flightdeck/flightdecklaw22.RouteDirect", spec := "routeDirect", inPlace := ["internal/bytealg.CountString", "internal/bytealg.IndexByteString", "internal/bytealg.IndexString", "internal/abi.NoEscape", "internal/bytealg.MakeNoZero"], unfollowed := true, recurses := true, named := ["unicode/utf8.first", "unicode/utf8.acceptRanges", "internal/bytealg.MaxLen", "flightdeck/leg.uses", "math/bits.divideError", "math/bits.overflowError"], apart := false, laid := [("unicode/utf8.acceptRanges", laid_unicode_utf8_acceptRanges), ("flightdeck/leg.uses", laid_flightdeck_leg_uses), ("unicode/utf8.first", laid_unicode_utf8_first)] }
def RouteDirectSaid : Prop := routeDirectRow.holds Tryz.pinned (OpenSpec.ofChange routeDirectSpec)

/-- ITS FALSE NEIGHBOUR: 'it returns false'. Refute it at one input. -/
def routeDirectWrong : ChangeSpec := { name := "routeDirect", fn := fun _ => fun
  | [d1, d2, d3] => { results := [.lit (.bool false)], args := [d1, d2, d3] }
  | _ => none }
def RouteDirectWrongFalsely : Prop := routeDirectRow.holds Tryz.pinned (OpenSpec.ofChange routeDirectWrong)

/- THE SECOND FORM. 'bulk': how many values and letters a reading holds, each counted each time it is reached (what is shared counts as often as it is met; a slice's spare places count too). A statement '..UptoSaid' is the law's where the arguments, and the package variables that the reading takes, are together of bulk at most 1048576: NARROWER than '..Said'. Prove '..Said' where nothing that the law and all that it calls make is longer than what came in: it says more and counts as full. Else prove '..UptoSaid'. A law counts once. -/
mutual
def uptoBulk {H : Type} : DataW H → Nat
  | .lit (.string bytes) => bytes.length + 1
  | .lit _ => 1
  | .nil => 1
  | .ptr d => uptoBulk d + 1
  | .slice elems spare => uptoBulkAll elems + uptoBulkAll spare + 1
  | .agg parts => uptoBulkAll parts + 1
  | .iface _ d => uptoBulk d + 1
  | .map entries => uptoBulkEntries entries + 1
  | .held _ => 1
def uptoBulkAll {H : Type} : List (DataW H) → Nat
  | [] => 0
  | d :: r => uptoBulk d + uptoBulkAll r
def uptoBulkEntries {H : Type} : List (Lit × DataW H) → Nat
  | [] => 0
  | x :: r => uptoBulkEntry x + uptoBulkEntries r
def uptoBulkEntry {H : Type} : Lit × DataW H → Nat
  | (.string bytes, d) => bytes.length + uptoBulk d + 1
  | (_, d) => uptoBulk d + 1
 end
def uptoSmall : (H : Type) → List (DataW H) → Bool := fun _ ds => decide (uptoBulkAll ds ≤ 1048576)
def OpenSpec.upto (s : _root_.Go.ChangeSpec) : _root_.Go.OpenSpec := { _root_.Go.OpenSpec.ofChange s with cond := some uptoSmall }

/-- 'flightdecklaw22.RouteParses', WHERE WHAT IT READS IS OF BULK AT MOST 1048576: true; the input reads as it did. -/
def routeParsesUptoRow : OpenClaim := { program := "ytgoeedohgomodaagreatdoor", sum := "991de91f1b9f6b45b9318ba67dfcbc106287d7a6673e19f4fb0141b5919b3af0", func := "flightdeck/flightdecklaw22.RouteParses", spec := "routeParses", inPlace := ["internal/bytealg.CountString", "internal/bytealg.IndexByteString", "internal/bytealg.IndexString", "internal/abi.NoEscape", "internal/bytealg.MakeNoZero"], unfollowed := true, recurses := true, named := ["unicode/utf8.first", "unicode/utf8.acceptRanges", "internal/bytealg.MaxLen", "flightdeck/leg.uses", "math/bits.divideError", "math/bits.overflowError"], apart := false, laid := [("unicode/utf8.acceptRanges", laid_unicode_utf8_acceptRanges), ("flightdeck/leg.uses", laid_flightdeck_leg_uses), ("unicode/utf8.first", laid_unicode_utf8_first)], narrowed := true }
def RouteParsesUptoSaid : Prop := routeParsesUptoRow.holds Tryz.pinned (OpenSpec.upto routeParsesSpec)

/-- 'flightdecklaw22.RoutePlaces', WHERE WHAT IT READS IS OF BULK AT MOST 1048576: true; the input reads as it did. -/
def routePlacesUptoRow : OpenClaim := { program := "ytgoeedohgomodaagreatdoor", sum := "991de91f1b9f6b45b9318ba67dfcbc106287d7a6673e19f4fb0141b5919b3af0", func := "flightdeck/flightdecklaw22.RoutePlaces", spec := "routePlaces", inPlace := ["internal/bytealg.CountString", "internal/bytealg.IndexByteString", "internal/bytealg.IndexString", "internal/abi.NoEscape", "internal/bytealg.MakeNoZero"], unfollowed := true, recurses := true, named := ["unicode/utf8.first", "unicode/utf8.acceptRanges", "internal/bytealg.MaxLen", "flightdeck/leg.uses", "math/bits.divideError", "math/bits.overflowError"], apart := false, laid := [("unicode/utf8.acceptRanges", laid_unicode_utf8_acceptRanges), ("flightdeck/leg.uses", laid_flightdeck_leg_uses), ("unicode/utf8.first", laid_unicode_utf8_first)], narrowed := true }
def RoutePlacesUptoSaid : Prop := routePlacesUptoRow.holds Tryz.pinned (OpenSpec.upto routePlacesSpec)

/-- 'flightdecklaw22.RouteExpands', WHERE WHAT IT READS IS OF BULK AT MOST 1048576: true; the input reads as it did. -/
def routeExpandsUptoRow : OpenClaim := { program := "ytgoeedohgomodaagreatdoor", sum := "991de91f1b9f6b45b9318ba67dfcbc106287d7a6673e19f4fb0141b5919b3af0", func := "flightdeck/flightdecklaw22.RouteExpands", spec := "routeExpands", inPlace := ["internal/bytealg.CountString", "internal/bytealg.IndexByteString", "internal/bytealg.IndexString", "internal/abi.NoEscape", "internal/bytealg.MakeNoZero"], unfollowed := true, recurses := true, named := ["unicode/utf8.first", "unicode/utf8.acceptRanges", "internal/bytealg.MaxLen", "flightdeck/leg.uses", "math/bits.divideError", "math/bits.overflowError"], apart := false, laid := [("unicode/utf8.acceptRanges", laid_unicode_utf8_acceptRanges), ("flightdeck/leg.uses", laid_flightdeck_leg_uses), ("unicode/utf8.first", laid_unicode_utf8_first)], narrowed := true }
def RouteExpandsUptoSaid : Prop := routeExpandsUptoRow.holds Tryz.pinned (OpenSpec.upto routeExpandsSpec)

/-- 'flightdecklaw22.RoutePrints', WHERE WHAT IT READS IS OF BULK AT MOST 1048576: true; the input reads as it did. -/
def routePrintsUptoRow : OpenClaim := { program := "ytgoeedohgomodaagreatdoor", sum := "991de91f1b9f6b45b9318ba67dfcbc106287d7a6673e19f4fb0141b5919b3af0", func := "flightdeck/flightdecklaw22.RoutePrints", spec := "routePrints", inPlace := ["internal/bytealg.CountString", "internal/bytealg.IndexByteString", "internal/bytealg.IndexString", "internal/abi.NoEscape", "internal/bytealg.MakeNoZero"], unfollowed := true, recurses := true, named := ["unicode/utf8.first", "unicode/utf8.acceptRanges", "internal/bytealg.MaxLen", "flightdeck/leg.uses", "math/bits.divideError", "math/bits.overflowError"], apart := false, laid := [("unicode/utf8.acceptRanges", laid_unicode_utf8_acceptRanges), ("flightdeck/leg.uses", laid_flightdeck_leg_uses), ("unicode/utf8.first", laid_unicode_utf8_first)], narrowed := true }
def RoutePrintsUptoSaid : Prop := routePrintsUptoRow.holds Tryz.pinned (OpenSpec.upto routePrintsSpec)

/-- 'flightdecklaw22.RouteValid', WHERE WHAT IT READS IS OF BULK AT MOST 1048576: true; the input reads as it did. -/
def routeValidUptoRow : OpenClaim := { program := "ytgoeedohgomodaagreatdoor", sum := "991de91f1b9f6b45b9318ba67dfcbc106287d7a6673e19f4fb0141b5919b3af0", func := "flightdeck/flightdecklaw22.RouteValid", spec := "routeValid", inPlace := ["internal/bytealg.CountString", "internal/bytealg.IndexByteString", "internal/bytealg.IndexString", "internal/abi.NoEscape", "internal/bytealg.MakeNoZero"], unfollowed := true, recurses := true, named := ["unicode/utf8.first", "unicode/utf8.acceptRanges", "internal/bytealg.MaxLen", "flightdeck/leg.uses", "math/bits.divideError", "math/bits.overflowError"], apart := false, laid := [("unicode/utf8.acceptRanges", laid_unicode_utf8_acceptRanges), ("flightdeck/leg.uses", laid_flightdeck_leg_uses), ("unicode/utf8.first", laid_unicode_utf8_first)], narrowed := true }
def RouteValidUptoSaid : Prop := routeValidUptoRow.holds Tryz.pinned (OpenSpec.upto routeValidSpec)

/-- 'flightdecklaw22.RouteText', WHERE WHAT IT READS IS OF BULK AT MOST 1048576: true; the input reads as it did. -/
def routeTextUptoRow : OpenClaim := { program := "ytgoeedohgomodaagreatdoor", sum := "991de91f1b9f6b45b9318ba67dfcbc106287d7a6673e19f4fb0141b5919b3af0", func := "flightdeck/flightdecklaw22.RouteText", spec := "routeText", inPlace := ["internal/bytealg.CountString", "internal/bytealg.IndexByteString", "internal/bytealg.IndexString", "internal/abi.NoEscape", "internal/bytealg.MakeNoZero"], unfollowed := true, recurses := true, named := ["unicode/utf8.first", "unicode/utf8.acceptRanges", "internal/bytealg.MaxLen", "flightdeck/leg.uses", "math/bits.divideError", "math/bits.overflowError"], apart := false, laid := [("unicode/utf8.acceptRanges", laid_unicode_utf8_acceptRanges), ("flightdeck/leg.uses", laid_flightdeck_leg_uses), ("unicode/utf8.first", laid_unicode_utf8_first)], narrowed := true }
def RouteTextUptoSaid : Prop := routeTextUptoRow.holds Tryz.pinned (OpenSpec.upto routeTextSpec)

/-- 'flightdecklaw22.RouteDirect', WHERE WHAT IT READS IS OF BULK AT MOST 1048576: true; the input reads as it did. -/
def routeDirectUptoRow : OpenClaim := { program := "ytgoeedohgomodaagreatdoor", sum := "991de91f1b9f6b45b9318ba67dfcbc106287d7a6673e19f4fb0141b5919b3af0", func := "flightdeck/flightdecklaw22.RouteDirect", spec := "routeDirect", inPlace := ["internal/bytealg.CountString", "internal/bytealg.IndexByteString", "internal/bytealg.IndexString", "internal/abi.NoEscape", "internal/bytealg.MakeNoZero"], unfollowed := true, recurses := true, named := ["unicode/utf8.first", "unicode/utf8.acceptRanges", "internal/bytealg.MaxLen", "flightdeck/leg.uses", "math/bits.divideError", "math/bits.overflowError"], apart := false, laid := [("unicode/utf8.acceptRanges", laid_unicode_utf8_acceptRanges), ("flightdeck/leg.uses", laid_flightdeck_leg_uses), ("unicode/utf8.first", laid_unicode_utf8_first)], narrowed := true }
def RouteDirectUptoSaid : Prop := routeDirectUptoRow.holds Tryz.pinned (OpenSpec.upto routeDirectSpec)

end Rows
end Go.Proofs.YtgoeedohgomodaaGreatDoor
