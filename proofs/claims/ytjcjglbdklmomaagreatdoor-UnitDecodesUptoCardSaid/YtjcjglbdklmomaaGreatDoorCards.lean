/-
  DERIVED. GIVEN WITH THE SEED: THE CARDS: each row of YtjcjglbdklmomaaGreatDoorRows.lean that lists a variable, with what it lists TIED to the program's text (the seventh form; the later family's looks); each row that meets fmt, with fmt's text TOLD by the authors' own Lean function (tested against real Go, not proved from fmt's source: count such statements apart). THE CARD IS WHAT COUNTS. Prove the row's statement (the work); the ties are given (YtjcjglbdklmomaaGreatDoorTie.lean); close each card by the builder's one call (the guide's Derived/Test/ToyasCard.lean, 'card_holds'). Laid BY PROGRAM, IN A SANDBOX (cutbox-door.mjs). By AI agents, Wed Nov 11 2026. No macro, syntax, notation, axiom, sorry.
-/
import Derived.Test.YtjcjglbdklmomaaGreatDoorRows
import GoSem.ClaimSeven
namespace Go.Proofs.YtjcjglbdklmomaaGreatDoor
namespace Rows

/-- THE TIED CARD OF 'flightdecklaw57.UnitSenses'. -/
def unitSensesCard : Claim7 := { stood := { row := unitSensesRow, standIns := [], harness := (true, "97e42c2e776f68c7915f630742290200263ffd578286a70066c0c5c389c9805d"), looks := false }, kinds := [], alts := [], laidByText := true, laidKinds := [.data], laidTests := true, laidLooks := .later }
def UnitSensesCardSaid : Prop := Claim7.holds Tryz.pinned (.plain (OpenSpec.ofChange unitSensesSpec)) unitSensesCard

/-- THE TIED CARD OF 'flightdecklaw57.UnitDecodes'. -/
def unitDecodesCard : Claim7 := { stood := { row := unitDecodesRow, standIns := [], harness := (true, "97e42c2e776f68c7915f630742290200263ffd578286a70066c0c5c389c9805d"), looks := false }, kinds := [], alts := [], laidByText := true, laidKinds := [.data], laidTests := true, laidLooks := .later }
def UnitDecodesCardSaid : Prop := Claim7.holds Tryz.pinned (.plain (OpenSpec.ofChange unitDecodesSpec)) unitDecodesCard

/-- THE SECOND FORM's CARD OF 'flightdecklaw57.UnitSenses'. -/
def unitSensesUptoCard : Claim7 := { stood := { row := unitSensesUptoRow, standIns := [], harness := (true, "97e42c2e776f68c7915f630742290200263ffd578286a70066c0c5c389c9805d"), looks := false }, kinds := [], alts := [], laidByText := true, laidKinds := [.data], laidTests := true, laidLooks := .later }
def UnitSensesUptoCardSaid : Prop := Claim7.holds Tryz.pinned (.plain (OpenSpec.upto unitSensesSpec)) unitSensesUptoCard

/-- THE SECOND FORM's CARD OF 'flightdecklaw57.UnitDecodes'. -/
def unitDecodesUptoCard : Claim7 := { stood := { row := unitDecodesUptoRow, standIns := [], harness := (true, "97e42c2e776f68c7915f630742290200263ffd578286a70066c0c5c389c9805d"), looks := false }, kinds := [], alts := [], laidByText := true, laidKinds := [.data], laidTests := true, laidLooks := .later }
def UnitDecodesUptoCardSaid : Prop := Claim7.holds Tryz.pinned (.plain (OpenSpec.upto unitDecodesSpec)) unitDecodesUptoCard
end Rows
end Go.Proofs.YtjcjglbdklmomaaGreatDoor
