/-
  NARROWER THAN 'FOR EVERY INPUT', by the rows' own cells (each row's printed sentence says how): PlanChecks: laid · PlanJoins: laid · PlanJoinAgain: laid · PlanJoinValid: laid · PlanJoinKeeps: laid · PlanFinds: laid.
  DERIVED. THE GIVEN ROWS OF THIS SEAT. 6 by the template 'for every input the law returns true; each argument reads behind the call as it read before'; 0 by the template 'total and deterministic' (their statements: YtgafmifamkbmbaaDoorTotals.lean).
  GIVEN WITH THE SEED: the statements are not yours to turn. If you find one false, say at which input.
  Laid BY PROGRAM, IN A SANDBOX (cutbox-rows.mjs): the forced cells as the released guide's own fill.sh prints them over the translation 30c1173c6ab9370a… (all of the seat's roots in one cut). By AI agents, Wed Nov 11 2026. No macro, syntax, notation, axiom, sorry.
-/
import Derived.Test.YtgafmifamkbmbaaDoorChecked
import GoSem.Claim
import GoSem.ClaimJoined
import GoSem.ClaimMapViews
import Derived.JoinedTies
import Derived.KernelRfl
namespace Go.Proofs.YtgafmifamkbmbaaDoor
/- THE CELL 'sum', in the pinned program and in every row, IS THE sha256 OF THE DUMP (.gsa) THAT YtgafmifamkbmbaaDoorProg.lean LOADS. Nothing in Lean hashes anything: it is a label: what it is worth is what the hold of that sum in a sandbox is worth. -/
noncomputable def Tryd.pinned : Pinned := { name := "ytgafmifamkbmbaadoor", sum := "30c1173c6ab9370a0f1ffba1eb3b79ade7878a50c200b116e5e32c8469a370c0", checked := Tryd.checked }
namespace Rows
def none {H : Type} : Left H := { results := [], args := [] }

/- WHAT THE LISTED PACKAGE-LEVEL VARIABLES READ AS WHEN THE CALL BEGINS. Each datum BY PROGRAM (the guide's laid-datum.mjs) off the statement by which the dump's own 'gosem.cut.vars' lays the variable. In a bare row this is a premise. The card (YtgafmifamkbmbaaDoorCards.lean) ties it to the program's text. -/
def laid_math_bits_deBruijn32tab {H : Type} : DataW H := .agg [.lit (.int .u8 0), .lit (.int .u8 1), .lit (.int .u8 28), .lit (.int .u8 2), .lit (.int .u8 29), .lit (.int .u8 14), .lit (.int .u8 24), .lit (.int .u8 3), .lit (.int .u8 30), .lit (.int .u8 22), .lit (.int .u8 20), .lit (.int .u8 15), .lit (.int .u8 25), .lit (.int .u8 17), .lit (.int .u8 4), .lit (.int .u8 8), .lit (.int .u8 31), .lit (.int .u8 27), .lit (.int .u8 13), .lit (.int .u8 23), .lit (.int .u8 21), .lit (.int .u8 19), .lit (.int .u8 16), .lit (.int .u8 7), .lit (.int .u8 26), .lit (.int .u8 12), .lit (.int .u8 18), .lit (.int .u8 6), .lit (.int .u8 11), .lit (.int .u8 5), .lit (.int .u8 10), .lit (.int .u8 9)]
def laid_math_bits_deBruijn64tab {H : Type} : DataW H := .agg [.lit (.int .u8 0), .lit (.int .u8 1), .lit (.int .u8 56), .lit (.int .u8 2), .lit (.int .u8 57), .lit (.int .u8 49), .lit (.int .u8 28), .lit (.int .u8 3), .lit (.int .u8 61), .lit (.int .u8 58), .lit (.int .u8 42), .lit (.int .u8 50), .lit (.int .u8 38), .lit (.int .u8 29), .lit (.int .u8 17), .lit (.int .u8 4), .lit (.int .u8 62), .lit (.int .u8 47), .lit (.int .u8 59), .lit (.int .u8 36), .lit (.int .u8 45), .lit (.int .u8 43), .lit (.int .u8 51), .lit (.int .u8 22), .lit (.int .u8 53), .lit (.int .u8 39), .lit (.int .u8 33), .lit (.int .u8 30), .lit (.int .u8 24), .lit (.int .u8 18), .lit (.int .u8 12), .lit (.int .u8 5), .lit (.int .u8 63), .lit (.int .u8 55), .lit (.int .u8 48), .lit (.int .u8 27), .lit (.int .u8 60), .lit (.int .u8 41), .lit (.int .u8 37), .lit (.int .u8 16), .lit (.int .u8 46), .lit (.int .u8 35), .lit (.int .u8 44), .lit (.int .u8 21), .lit (.int .u8 52), .lit (.int .u8 32), .lit (.int .u8 23), .lit (.int .u8 11), .lit (.int .u8 54), .lit (.int .u8 26), .lit (.int .u8 40), .lit (.int .u8 15), .lit (.int .u8 34), .lit (.int .u8 20), .lit (.int .u8 31), .lit (.int .u8 10), .lit (.int .u8 25), .lit (.int .u8 14), .lit (.int .u8 19), .lit (.int .u8 9), .lit (.int .u8 13), .lit (.int .u8 8), .lit (.int .u8 7), .lit (.int .u8 6)]
def laid_internal_strconv_uint64pow10 {H : Type} : DataW H := .agg [.lit (.int .u64 1), .lit (.int .u64 10), .lit (.int .u64 100), .lit (.int .u64 1000), .lit (.int .u64 10000), .lit (.int .u64 100000), .lit (.int .u64 1000000), .lit (.int .u64 10000000), .lit (.int .u64 100000000), .lit (.int .u64 1000000000), .lit (.int .u64 10000000000), .lit (.int .u64 100000000000), .lit (.int .u64 1000000000000), .lit (.int .u64 10000000000000), .lit (.int .u64 100000000000000), .lit (.int .u64 1000000000000000), .lit (.int .u64 10000000000000000), .lit (.int .u64 100000000000000000), .lit (.int .u64 1000000000000000000), .lit (.int .u64 10000000000000000000)]
def laid_flightdeck_leg_names {H : Type} : DataW H := .agg [.lit (.string []), .lit (.string [73, 70]), .lit (.string [84, 70]), .lit (.string [67, 70]), .lit (.string [68, 70]), .lit (.string [82, 70]), .lit (.string [65, 70]), .lit (.string [67, 65]), .lit (.string [67, 68]), .lit (.string [67, 73]), .lit (.string [67, 82]), .lit (.string [70, 65]), .lit (.string [70, 67]), .lit (.string [70, 77]), .lit (.string [72, 65]), .lit (.string [72, 70]), .lit (.string [72, 77]), .lit (.string [80, 73])]
def laid_flightdeck_leg_uses {H : Type} : DataW H := .agg [.lit (.int .u16 0), .lit (.int .u16 1), .lit (.int .u16 9), .lit (.int .u16 25), .lit (.int .u16 9), .lit (.int .u16 71), .lit (.int .u16 71), .lit (.int .u16 16), .lit (.int .u16 50), .lit (.int .u16 16), .lit (.int .u16 146), .lit (.int .u16 17), .lit (.int .u16 49), .lit (.int .u16 17), .lit (.int .u16 53), .lit (.int .u16 53), .lit (.int .u16 53), .lit (.int .u16 53)]

/-- 'flightdecklaw21.PlanChecks': WHATEVER THE INPUT: true; the input reads as it did. -/
def planChecksSpec : ChangeSpec := { name := "planChecks", fn := fun _ => fun
  | [d] => { results := [.lit (.bool true)], args := [d] }
  | _ => none }
def planChecksRow : OpenClaim := { program := "ytgafmifamkbmbaadoor", sum := "30c1173c6ab9370a0f1ffba1eb3b79ade7878a50c200b116e5e32c8469a370c0", func := "flightdeck/flightdecklaw21.PlanChecks", spec := "planChecks", inPlace := ["internal/bytealg.IndexByteString", "internal/bytealg.IndexString", "internal/abi.NoEscape", "internal/bytealg.MakeNoZero"], named := ["internal/bytealg.MaxLen", "flightdeck/leg.uses", "internal/strconv.uint64pow10", "math/bits.deBruijn32tab", "math/bits.deBruijn64tab", "flightdeck/leg.names"], apart := false, laid := [("math/bits.deBruijn32tab", laid_math_bits_deBruijn32tab), ("math/bits.deBruijn64tab", laid_math_bits_deBruijn64tab), ("internal/strconv.uint64pow10", laid_internal_strconv_uint64pow10), ("flightdeck/leg.names", laid_flightdeck_leg_names), ("flightdeck/leg.uses", laid_flightdeck_leg_uses)] }
def PlanChecksSaid : Prop := planChecksRow.holds Tryd.pinned (OpenSpec.ofChange planChecksSpec)

/-- ITS FALSE NEIGHBOUR: 'it returns false'. Refute it at one input. -/
def planChecksWrong : ChangeSpec := { name := "planChecks", fn := fun _ => fun
  | [d] => { results := [.lit (.bool false)], args := [d] }
  | _ => none }
def PlanChecksWrongFalsely : Prop := planChecksRow.holds Tryd.pinned (OpenSpec.ofChange planChecksWrong)

/-- 'flightdecklaw21.PlanJoins': WHATEVER THE INPUT: true; the input reads as it did. -/
def planJoinsSpec : ChangeSpec := { name := "planJoins", fn := fun _ => fun
  | [d] => { results := [.lit (.bool true)], args := [d] }
  | _ => none }
def planJoinsRow : OpenClaim := { program := "ytgafmifamkbmbaadoor", sum := "30c1173c6ab9370a0f1ffba1eb3b79ade7878a50c200b116e5e32c8469a370c0", func := "flightdeck/flightdecklaw21.PlanJoins", spec := "planJoins", inPlace := ["internal/bytealg.IndexByteString", "internal/bytealg.IndexString", "internal/abi.NoEscape", "internal/bytealg.MakeNoZero"], named := ["internal/bytealg.MaxLen", "flightdeck/leg.uses", "internal/strconv.uint64pow10", "math/bits.deBruijn32tab", "math/bits.deBruijn64tab", "flightdeck/leg.names"], apart := false, laid := [("math/bits.deBruijn32tab", laid_math_bits_deBruijn32tab), ("math/bits.deBruijn64tab", laid_math_bits_deBruijn64tab), ("internal/strconv.uint64pow10", laid_internal_strconv_uint64pow10), ("flightdeck/leg.names", laid_flightdeck_leg_names), ("flightdeck/leg.uses", laid_flightdeck_leg_uses)] }
def PlanJoinsSaid : Prop := planJoinsRow.holds Tryd.pinned (OpenSpec.ofChange planJoinsSpec)

/-- ITS FALSE NEIGHBOUR: 'it returns false'. Refute it at one input. -/
def planJoinsWrong : ChangeSpec := { name := "planJoins", fn := fun _ => fun
  | [d] => { results := [.lit (.bool false)], args := [d] }
  | _ => none }
def PlanJoinsWrongFalsely : Prop := planJoinsRow.holds Tryd.pinned (OpenSpec.ofChange planJoinsWrong)

/-- 'flightdecklaw21.PlanJoinAgain': WHATEVER THE INPUT: true; the input reads as it did. -/
def planJoinAgainSpec : ChangeSpec := { name := "planJoinAgain", fn := fun _ => fun
  | [d] => { results := [.lit (.bool true)], args := [d] }
  | _ => none }
def planJoinAgainRow : OpenClaim := { program := "ytgafmifamkbmbaadoor", sum := "30c1173c6ab9370a0f1ffba1eb3b79ade7878a50c200b116e5e32c8469a370c0", func := "flightdeck/flightdecklaw21.PlanJoinAgain", spec := "planJoinAgain", inPlace := ["internal/bytealg.IndexByteString", "internal/bytealg.IndexString", "internal/abi.NoEscape", "internal/bytealg.MakeNoZero"], named := ["internal/bytealg.MaxLen", "flightdeck/leg.uses", "internal/strconv.uint64pow10", "math/bits.deBruijn32tab", "math/bits.deBruijn64tab", "flightdeck/leg.names"], apart := false, laid := [("math/bits.deBruijn32tab", laid_math_bits_deBruijn32tab), ("math/bits.deBruijn64tab", laid_math_bits_deBruijn64tab), ("internal/strconv.uint64pow10", laid_internal_strconv_uint64pow10), ("flightdeck/leg.names", laid_flightdeck_leg_names), ("flightdeck/leg.uses", laid_flightdeck_leg_uses)] }
def PlanJoinAgainSaid : Prop := planJoinAgainRow.holds Tryd.pinned (OpenSpec.ofChange planJoinAgainSpec)

/-- ITS FALSE NEIGHBOUR: 'it returns false'. Refute it at one input. -/
def planJoinAgainWrong : ChangeSpec := { name := "planJoinAgain", fn := fun _ => fun
  | [d] => { results := [.lit (.bool false)], args := [d] }
  | _ => none }
def PlanJoinAgainWrongFalsely : Prop := planJoinAgainRow.holds Tryd.pinned (OpenSpec.ofChange planJoinAgainWrong)

/-- 'flightdecklaw21.PlanJoinValid': WHATEVER THE INPUT: true; the input reads as it did. -/
def planJoinValidSpec : ChangeSpec := { name := "planJoinValid", fn := fun _ => fun
  | [d1, d2, d3] => { results := [.lit (.bool true)], args := [d1, d2, d3] }
  | _ => none }
def planJoinValidRow : OpenClaim := { program := "ytgafmifamkbmbaadoor", sum := "30c1173c6ab9370a0f1ffba1eb3b79ade7878a50c200b116e5e32c8469a370c0", func := "flightdeck/flightdecklaw21.PlanJoinValid", spec := "planJoinValid", inPlace := ["internal/bytealg.IndexByteString", "internal/bytealg.IndexString", "internal/abi.NoEscape", "internal/bytealg.MakeNoZero"], named := ["internal/bytealg.MaxLen", "flightdeck/leg.uses", "internal/strconv.uint64pow10", "math/bits.deBruijn32tab", "math/bits.deBruijn64tab", "flightdeck/leg.names"], apart := false, laid := [("math/bits.deBruijn32tab", laid_math_bits_deBruijn32tab), ("math/bits.deBruijn64tab", laid_math_bits_deBruijn64tab), ("internal/strconv.uint64pow10", laid_internal_strconv_uint64pow10), ("flightdeck/leg.names", laid_flightdeck_leg_names), ("flightdeck/leg.uses", laid_flightdeck_leg_uses)] }
def PlanJoinValidSaid : Prop := planJoinValidRow.holds Tryd.pinned (OpenSpec.ofChange planJoinValidSpec)

/-- ITS FALSE NEIGHBOUR: 'it returns false'. Refute it at one input. -/
def planJoinValidWrong : ChangeSpec := { name := "planJoinValid", fn := fun _ => fun
  | [d1, d2, d3] => { results := [.lit (.bool false)], args := [d1, d2, d3] }
  | _ => none }
def PlanJoinValidWrongFalsely : Prop := planJoinValidRow.holds Tryd.pinned (OpenSpec.ofChange planJoinValidWrong)

/-- 'flightdecklaw21.PlanJoinKeeps': WHATEVER THE INPUT: true; the input reads as it did. -/
def planJoinKeepsSpec : ChangeSpec := { name := "planJoinKeeps", fn := fun _ => fun
  | [d] => { results := [.lit (.bool true)], args := [d] }
  | _ => none }
def planJoinKeepsRow : OpenClaim := { program := "ytgafmifamkbmbaadoor", sum := "30c1173c6ab9370a0f1ffba1eb3b79ade7878a50c200b116e5e32c8469a370c0", func := "flightdeck/flightdecklaw21.PlanJoinKeeps", spec := "planJoinKeeps", inPlace := ["internal/bytealg.IndexByteString", "internal/bytealg.IndexString", "internal/abi.NoEscape", "internal/bytealg.MakeNoZero"], named := ["internal/bytealg.MaxLen", "flightdeck/leg.uses", "internal/strconv.uint64pow10", "math/bits.deBruijn32tab", "math/bits.deBruijn64tab", "flightdeck/leg.names"], apart := false, laid := [("math/bits.deBruijn32tab", laid_math_bits_deBruijn32tab), ("math/bits.deBruijn64tab", laid_math_bits_deBruijn64tab), ("internal/strconv.uint64pow10", laid_internal_strconv_uint64pow10), ("flightdeck/leg.names", laid_flightdeck_leg_names), ("flightdeck/leg.uses", laid_flightdeck_leg_uses)] }
def PlanJoinKeepsSaid : Prop := planJoinKeepsRow.holds Tryd.pinned (OpenSpec.ofChange planJoinKeepsSpec)

/-- ITS FALSE NEIGHBOUR: 'it returns false'. Refute it at one input. -/
def planJoinKeepsWrong : ChangeSpec := { name := "planJoinKeeps", fn := fun _ => fun
  | [d] => { results := [.lit (.bool false)], args := [d] }
  | _ => none }
def PlanJoinKeepsWrongFalsely : Prop := planJoinKeepsRow.holds Tryd.pinned (OpenSpec.ofChange planJoinKeepsWrong)

/-- 'flightdecklaw21.PlanFinds': WHATEVER THE INPUT: true; the input reads as it did. -/
def planFindsSpec : ChangeSpec := { name := "planFinds", fn := fun _ => fun
  | [d1, d2, d3] => { results := [.lit (.bool true)], args := [d1, d2, d3] }
  | _ => none }
def planFindsRow : OpenClaim := { program := "ytgafmifamkbmbaadoor", sum := "30c1173c6ab9370a0f1ffba1eb3b79ade7878a50c200b116e5e32c8469a370c0", func := "flightdeck/flightdecklaw21.PlanFinds", spec := "planFinds", inPlace := ["internal/bytealg.IndexByteString", "internal/bytealg.IndexString", "internal/abi.NoEscape", "internal/bytealg.MakeNoZero"], named := ["internal/bytealg.MaxLen", "flightdeck/leg.uses", "internal/strconv.uint64pow10", "math/bits.deBruijn32tab", "math/bits.deBruijn64tab", "flightdeck/leg.names"], apart := false, laid := [("math/bits.deBruijn32tab", laid_math_bits_deBruijn32tab), ("math/bits.deBruijn64tab", laid_math_bits_deBruijn64tab), ("internal/strconv.uint64pow10", laid_internal_strconv_uint64pow10), ("flightdeck/leg.names", laid_flightdeck_leg_names), ("flightdeck/leg.uses", laid_flightdeck_leg_uses)] }
def PlanFindsSaid : Prop := planFindsRow.holds Tryd.pinned (OpenSpec.ofChange planFindsSpec)

/-- ITS FALSE NEIGHBOUR: 'it returns false'. Refute it at one input. -/
def planFindsWrong : ChangeSpec := { name := "planFinds", fn := fun _ => fun
  | [d1, d2, d3] => { results := [.lit (.bool false)], args := [d1, d2, d3] }
  | _ => none }
def PlanFindsWrongFalsely : Prop := planFindsRow.holds Tryd.pinned (OpenSpec.ofChange planFindsWrong)

/- THE SECOND FORM. 'bulk': how many values and letters a reading holds, each counted each time it is reached (what is shared counts as often as it is met; a slice's spare places count too). A statement '..UptoSaid' is the law's where the arguments, and the package variables that the reading takes, are together of bulk at most 1048576: NARROWER than '..Said'. Prove '..Said' where nothing that the law and all that it calls make is longer than what came in: it says more and counts as full. Else prove '..UptoSaid'. A law counts once. -/
mutual
def uptoBulk {H : Type} : DataW H → Nat
  | .lit (.string bytes) => bytes.length + 1
  | .lit _ => 1
  | .nil => 1
  | .ptr d => uptoBulk d + 1
  | .slice elems spare => uptoBulkAll elems + uptoBulkAll spare + 1
  | .agg parts => uptoBulkAll parts + 1
  | .iface _ d => uptoBulk d + 1
  | .map entries => uptoBulkEntries entries + 1
  | .held _ => 1
def uptoBulkAll {H : Type} : List (DataW H) → Nat
  | [] => 0
  | d :: r => uptoBulk d + uptoBulkAll r
def uptoBulkEntries {H : Type} : List (Lit × DataW H) → Nat
  | [] => 0
  | x :: r => uptoBulkEntry x + uptoBulkEntries r
def uptoBulkEntry {H : Type} : Lit × DataW H → Nat
  | (.string bytes, d) => bytes.length + uptoBulk d + 1
  | (_, d) => uptoBulk d + 1
 end
def uptoSmall : (H : Type) → List (DataW H) → Bool := fun _ ds => decide (uptoBulkAll ds ≤ 1048576)
def OpenSpec.upto (s : _root_.Go.ChangeSpec) : _root_.Go.OpenSpec := { _root_.Go.OpenSpec.ofChange s with cond := some uptoSmall }

/-- 'flightdecklaw21.PlanChecks', WHERE WHAT IT READS IS OF BULK AT MOST 1048576: true; the input reads as it did. -/
def planChecksUptoRow : OpenClaim := { program := "ytgafmifamkbmbaadoor", sum := "30c1173c6ab9370a0f1ffba1eb3b79ade7878a50c200b116e5e32c8469a370c0", func := "flightdeck/flightdecklaw21.PlanChecks", spec := "planChecks", inPlace := ["internal/bytealg.IndexByteString", "internal/bytealg.IndexString", "internal/abi.NoEscape", "internal/bytealg.MakeNoZero"], named := ["internal/bytealg.MaxLen", "flightdeck/leg.uses", "internal/strconv.uint64pow10", "math/bits.deBruijn32tab", "math/bits.deBruijn64tab", "flightdeck/leg.names"], apart := false, laid := [("math/bits.deBruijn32tab", laid_math_bits_deBruijn32tab), ("math/bits.deBruijn64tab", laid_math_bits_deBruijn64tab), ("internal/strconv.uint64pow10", laid_internal_strconv_uint64pow10), ("flightdeck/leg.names", laid_flightdeck_leg_names), ("flightdeck/leg.uses", laid_flightdeck_leg_uses)], narrowed := true }
def PlanChecksUptoSaid : Prop := planChecksUptoRow.holds Tryd.pinned (OpenSpec.upto planChecksSpec)

/-- 'flightdecklaw21.PlanJoins', WHERE WHAT IT READS IS OF BULK AT MOST 1048576: true; the input reads as it did. -/
def planJoinsUptoRow : OpenClaim := { program := "ytgafmifamkbmbaadoor", sum := "30c1173c6ab9370a0f1ffba1eb3b79ade7878a50c200b116e5e32c8469a370c0", func := "flightdeck/flightdecklaw21.PlanJoins", spec := "planJoins", inPlace := ["internal/bytealg.IndexByteString", "internal/bytealg.IndexString", "internal/abi.NoEscape", "internal/bytealg.MakeNoZero"], named := ["internal/bytealg.MaxLen", "flightdeck/leg.uses", "internal/strconv.uint64pow10", "math/bits.deBruijn32tab", "math/bits.deBruijn64tab", "flightdeck/leg.names"], apart := false, laid := [("math/bits.deBruijn32tab", laid_math_bits_deBruijn32tab), ("math/bits.deBruijn64tab", laid_math_bits_deBruijn64tab), ("internal/strconv.uint64pow10", laid_internal_strconv_uint64pow10), ("flightdeck/leg.names", laid_flightdeck_leg_names), ("flightdeck/leg.uses", laid_flightdeck_leg_uses)], narrowed := true }
def PlanJoinsUptoSaid : Prop := planJoinsUptoRow.holds Tryd.pinned (OpenSpec.upto planJoinsSpec)

/-- 'flightdecklaw21.PlanJoinAgain', WHERE WHAT IT READS IS OF BULK AT MOST 1048576: true; the input reads as it did. -/
def planJoinAgainUptoRow : OpenClaim := { program := "ytgafmifamkbmbaadoor", sum := "30c1173c6ab9370a0f1ffba1eb3b79ade7878a50c200b116e5e32c8469a370c0", func := "flightdeck/flightdecklaw21.PlanJoinAgain", spec := "planJoinAgain", inPlace := ["internal/bytealg.IndexByteString", "internal/bytealg.IndexString", "internal/abi.NoEscape", "internal/bytealg.MakeNoZero"], named := ["internal/bytealg.MaxLen", "flightdeck/leg.uses", "internal/strconv.uint64pow10", "math/bits.deBruijn32tab", "math/bits.deBruijn64tab", "flightdeck/leg.names"], apart := false, laid := [("math/bits.deBruijn32tab", laid_math_bits_deBruijn32tab), ("math/bits.deBruijn64tab", laid_math_bits_deBruijn64tab), ("internal/strconv.uint64pow10", laid_internal_strconv_uint64pow10), ("flightdeck/leg.names", laid_flightdeck_leg_names), ("flightdeck/leg.uses", laid_flightdeck_leg_uses)], narrowed := true }
def PlanJoinAgainUptoSaid : Prop := planJoinAgainUptoRow.holds Tryd.pinned (OpenSpec.upto planJoinAgainSpec)

/-- 'flightdecklaw21.PlanJoinValid', WHERE WHAT IT READS IS OF BULK AT MOST 1048576: true; the input reads as it did. -/
def planJoinValidUptoRow : OpenClaim := { program := "ytgafmifamkbmbaadoor", sum := "30c1173c6ab9370a0f1ffba1eb3b79ade7878a50c200b116e5e32c8469a370c0", func := "flightdeck/flightdecklaw21.PlanJoinValid", spec := "planJoinValid", inPlace := ["internal/bytealg.IndexByteString", "internal/bytealg.IndexString", "internal/abi.NoEscape", "internal/bytealg.MakeNoZero"], named := ["internal/bytealg.MaxLen", "flightdeck/leg.uses", "internal/strconv.uint64pow10", "math/bits.deBruijn32tab", "math/bits.deBruijn64tab", "flightdeck/leg.names"], apart := false, laid := [("math/bits.deBruijn32tab", laid_math_bits_deBruijn32tab), ("math/bits.deBruijn64tab", laid_math_bits_deBruijn64tab), ("internal/strconv.uint64pow10", laid_internal_strconv_uint64pow10), ("flightdeck/leg.names", laid_flightdeck_leg_names), ("flightdeck/leg.uses", laid_flightdeck_leg_uses)], narrowed := true }
def PlanJoinValidUptoSaid : Prop := planJoinValidUptoRow.holds Tryd.pinned (OpenSpec.upto planJoinValidSpec)

/-- 'flightdecklaw21.PlanJoinKeeps', WHERE WHAT IT READS IS OF BULK AT MOST 1048576: true; the input reads as it did. -/
def planJoinKeepsUptoRow : OpenClaim := { program := "ytgafmifamkbmbaadoor", sum := "30c1173c6ab9370a0f1ffba1eb3b79ade7878a50c200b116e5e32c8469a370c0", func := "flightdeck/flightdecklaw21.PlanJoinKeeps", spec := "planJoinKeeps", inPlace := ["internal/bytealg.IndexByteString", "internal/bytealg.IndexString", "internal/abi.NoEscape", "internal/bytealg.MakeNoZero"], named := ["internal/bytealg.MaxLen", "flightdeck/leg.uses", "internal/strconv.uint64pow10", "math/bits.deBruijn32tab", "math/bits.deBruijn64tab", "flightdeck/leg.names"], apart := false, laid := [("math/bits.deBruijn32tab", laid_math_bits_deBruijn32tab), ("math/bits.deBruijn64tab", laid_math_bits_deBruijn64tab), ("internal/strconv.uint64pow10", laid_internal_strconv_uint64pow10), ("flightdeck/leg.names", laid_flightdeck_leg_names), ("flightdeck/leg.uses", laid_flightdeck_leg_uses)], narrowed := true }
def PlanJoinKeepsUptoSaid : Prop := planJoinKeepsUptoRow.holds Tryd.pinned (OpenSpec.upto planJoinKeepsSpec)

/-- 'flightdecklaw21.PlanFinds', WHERE WHAT IT READS IS OF BULK AT MOST 1048576: true; the input reads as it did. -/
def planFindsUptoRow : OpenClaim := { program := "ytgafmifamkbmbaadoor", sum := "30c1173c6ab9370a0f1ffba1eb3b79ade7878a50c200b116e5e32c8469a370c0", func := "flightdeck/flightdecklaw21.PlanFinds", spec := "planFinds", inPlace := ["internal/bytealg.IndexByteString", "internal/bytealg.IndexString", "internal/abi.NoEscape", "internal/bytealg.MakeNoZero"], named := ["internal/bytealg.MaxLen", "flightdeck/leg.uses", "internal/strconv.uint64pow10", "math/bits.deBruijn32tab", "math/bits.deBruijn64tab", "flightdeck/leg.names"], apart := false, laid := [("math/bits.deBruijn32tab", laid_math_bits_deBruijn32tab), ("math/bits.deBruijn64tab", laid_math_bits_deBruijn64tab), ("internal/strconv.uint64pow10", laid_internal_strconv_uint64pow10), ("flightdeck/leg.names", laid_flightdeck_leg_names), ("flightdeck/leg.uses", laid_flightdeck_leg_uses)], narrowed := true }
def PlanFindsUptoSaid : Prop := planFindsUptoRow.holds Tryd.pinned (OpenSpec.upto planFindsSpec)

end Rows
end Go.Proofs.YtgafmifamkbmbaaDoor
