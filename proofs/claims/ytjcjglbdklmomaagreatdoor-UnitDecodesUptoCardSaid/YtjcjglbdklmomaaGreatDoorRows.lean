/-
  NARROWER THAN 'FOR EVERY INPUT', by the rows' own cells (each row's printed sentence says how): UnitSenses: laid · UnitDecodes: laid.
  DERIVED. THE GIVEN ROWS OF THIS SEAT. 2 by the template 'for every input the law returns true; each argument reads behind the call as it read before'; 0 by the template 'total and deterministic' (their statements: YtjcjglbdklmomaaGreatDoorTotals.lean).
  GIVEN WITH THE SEED: the statements are not yours to turn. If you find one false, say at which input.
  Laid BY PROGRAM, IN A SANDBOX (cutbox-rows.mjs): the forced cells as the released guide's own fill.sh prints them over the translation 6c0690a9bc013436… (all of the seat's roots in one cut). By AI agents, Wed Nov 11 2026. No macro, syntax, notation, axiom, sorry.
-/
import Derived.Test.YtjcjglbdklmomaaGreatDoorChecked
import GoSem.Claim
import GoSem.ClaimJoined
import GoSem.ClaimMapViews
import Derived.JoinedTies
import Derived.KernelRfl
namespace Go.Proofs.YtjcjglbdklmomaaGreatDoor
/- THE CELL 'sum', in the pinned program and in every row, IS THE sha256 OF THE DUMP (.gsa) THAT YtjcjglbdklmomaaGreatDoorProg.lean LOADS. Nothing in Lean hashes anything: it is a label: what it is worth is what the hold of that sum in a sandbox is worth. -/
noncomputable def Tryz.pinned : Pinned := { name := "ytjcjglbdklmomaagreatdoor", sum := "6c0690a9bc0134363dea834d089c9b3e17418a78d4799f3c7c9df47c053c3328", checked := Tryz.checked }
namespace Rows
def none {H : Type} : Left H := { results := [], args := [] }

/- WHAT THE LISTED PACKAGE-LEVEL VARIABLES READ AS WHEN THE CALL BEGINS. Each datum BY PROGRAM (the guide's laid-datum.mjs) off the statement by which the dump's own 'gosem.cut.vars' lays the variable. In a bare row this is a premise. The card (YtjcjglbdklmomaaGreatDoorCards.lean) ties it to the program's text. -/
def laid_flightdeck_leg_uses {H : Type} : DataW H := .agg [.lit (.int .u16 0), .lit (.int .u16 1), .lit (.int .u16 9), .lit (.int .u16 25), .lit (.int .u16 9), .lit (.int .u16 71), .lit (.int .u16 71), .lit (.int .u16 16), .lit (.int .u16 50), .lit (.int .u16 16), .lit (.int .u16 146), .lit (.int .u16 17), .lit (.int .u16 49), .lit (.int .u16 17), .lit (.int .u16 53), .lit (.int .u16 53), .lit (.int .u16 53), .lit (.int .u16 53)]

/-- 'flightdecklaw57.UnitSenses': WHATEVER THE INPUT: true; the input reads as it did. -/
def unitSensesSpec : ChangeSpec := { name := "unitSenses", fn := fun _ => fun
  | [d] => { results := [.lit (.bool true)], args := [d] }
  | _ => none }
def unitSensesRow : OpenClaim := { program := "ytjcjglbdklmomaagreatdoor", sum := "6c0690a9bc0134363dea834d089c9b3e17418a78d4799f3c7c9df47c053c3328", func := "flightdeck/flightdecklaw57.UnitSenses", spec := "unitSenses", inPlace := ["internal/bytealg.IndexByteString", "internal/bytealg.IndexString", "internal/bytealg.abigen_runtime_cmpstring"], unfollowed := true, recurses := true, named := ["math/bits.divideError", "math/bits.overflowError", "internal/bytealg.MaxLen", "flightdeck/leg.uses"], apart := false, laid := [("flightdeck/leg.uses", laid_flightdeck_leg_uses)] }
def UnitSensesSaid : Prop := unitSensesRow.holds Tryz.pinned (OpenSpec.ofChange unitSensesSpec)

/-- ITS FALSE NEIGHBOUR: 'it returns false'. Refute it at one input. -/
def unitSensesWrong : ChangeSpec := { name := "unitSenses", fn := fun _ => fun
  | [d] => { results := [.lit (.bool false)], args := [d] }
  | _ => none }
def UnitSensesWrongFalsely : Prop := unitSensesRow.holds Tryz.pinned (OpenSpec.ofChange unitSensesWrong)

/-- 'flightdecklaw57.UnitDecodes': WHATEVER THE INPUT: true; the input reads as it did. -/
def unitDecodesSpec : ChangeSpec := { name := "unitDecodes", fn := fun _ => fun
  | [d] => { results := [.lit (.bool true)], args := [d] }
  | _ => none }
def unitDecodesRow : OpenClaim := { program := "ytjcjglbdklmomaagreatdoor", sum := "6c0690a9bc0134363dea834d089c9b3e17418a78d4799f3c7c9df47c053c3328", func := "flightdeck/flightdecklaw57.UnitDecodes", spec := "unitDecodes", inPlace := ["internal/bytealg.IndexByteString", "internal/bytealg.IndexString", "internal/bytealg.abigen_runtime_cmpstring"], unfollowed := true, recurses := true, named := ["math/bits.divideError", "math/bits.overflowError", "internal/bytealg.MaxLen", "flightdeck/leg.uses"], apart := false, laid := [("flightdeck/leg.uses", laid_flightdeck_leg_uses)] }
def UnitDecodesSaid : Prop := unitDecodesRow.holds Tryz.pinned (OpenSpec.ofChange unitDecodesSpec)

/-- ITS FALSE NEIGHBOUR: 'it returns false'. Refute it at one input. -/
def unitDecodesWrong : ChangeSpec := { name := "unitDecodes", fn := fun _ => fun
  | [d] => { results := [.lit (.bool false)], args := [d] }
  | _ => none }
def UnitDecodesWrongFalsely : Prop := unitDecodesRow.holds Tryz.pinned (OpenSpec.ofChange unitDecodesWrong)

/- THE SECOND FORM. 'bulk': how many values and letters a reading holds, each counted each time it is reached (what is shared counts as often as it is met; a slice's spare places count too). A statement '..UptoSaid' is the law's where the arguments, and the package variables that the reading takes, are together of bulk at most 1048576: NARROWER than '..Said'. Prove '..Said' where nothing that the law and all that it calls make is longer than what came in: it says more and counts as full. Else prove '..UptoSaid'. A law counts once. -/
mutual
def uptoBulk {H : Type} : DataW H → Nat
  | .lit (.string bytes) => bytes.length + 1
  | .lit _ => 1
  | .nil => 1
  | .ptr d => uptoBulk d + 1
  | .slice elems spare => uptoBulkAll elems + uptoBulkAll spare + 1
  | .agg parts => uptoBulkAll parts + 1
  | .iface _ d => uptoBulk d + 1
  | .map entries => uptoBulkEntries entries + 1
  | .held _ => 1
def uptoBulkAll {H : Type} : List (DataW H) → Nat
  | [] => 0
  | d :: r => uptoBulk d + uptoBulkAll r
def uptoBulkEntries {H : Type} : List (Lit × DataW H) → Nat
  | [] => 0
  | x :: r => uptoBulkEntry x + uptoBulkEntries r
def uptoBulkEntry {H : Type} : Lit × DataW H → Nat
  | (.string bytes, d) => bytes.length + uptoBulk d + 1
  | (_, d) => uptoBulk d + 1
 end
def uptoSmall : (H : Type) → List (DataW H) → Bool := fun _ ds => decide (uptoBulkAll ds ≤ 1048576)
def OpenSpec.upto (s : _root_.Go.ChangeSpec) : _root_.Go.OpenSpec := { _root_.Go.OpenSpec.ofChange s with cond := some uptoSmall }

/-- 'flightdecklaw57.UnitSenses', WHERE WHAT IT READS IS OF BULK AT MOST 1048576: true; the input reads as it did. -/
def unitSensesUptoRow : OpenClaim := { program := "ytjcjglbdklmomaagreatdoor", sum := "6c0690a9bc0134363dea834d089c9b3e17418a78d4799f3c7c9df47c053c3328", func := "flightdeck/flightdecklaw57.UnitSenses", spec := "unitSenses", inPlace := ["internal/bytealg.IndexByteString", "internal/bytealg.IndexString", "internal/bytealg.abigen_runtime_cmpstring"], unfollowed := true, recurses := true, named := ["math/bits.divideError", "math/bits.overflowError", "internal/bytealg.MaxLen", "flightdeck/leg.uses"], apart := false, laid := [("flightdeck/leg.uses", laid_flightdeck_leg_uses)], narrowed := true }
def UnitSensesUptoSaid : Prop := unitSensesUptoRow.holds Tryz.pinned (OpenSpec.upto unitSensesSpec)

/-- 'flightdecklaw57.UnitDecodes', WHERE WHAT IT READS IS OF BULK AT MOST 1048576: true; the input reads as it did. -/
def unitDecodesUptoRow : OpenClaim := { program := "ytjcjglbdklmomaagreatdoor", sum := "6c0690a9bc0134363dea834d089c9b3e17418a78d4799f3c7c9df47c053c3328", func := "flightdeck/flightdecklaw57.UnitDecodes", spec := "unitDecodes", inPlace := ["internal/bytealg.IndexByteString", "internal/bytealg.IndexString", "internal/bytealg.abigen_runtime_cmpstring"], unfollowed := true, recurses := true, named := ["math/bits.divideError", "math/bits.overflowError", "internal/bytealg.MaxLen", "flightdeck/leg.uses"], apart := false, laid := [("flightdeck/leg.uses", laid_flightdeck_leg_uses)], narrowed := true }
def UnitDecodesUptoSaid : Prop := unitDecodesUptoRow.holds Tryz.pinned (OpenSpec.upto unitDecodesSpec)

end Rows
end Go.Proofs.YtjcjglbdklmomaaGreatDoor
