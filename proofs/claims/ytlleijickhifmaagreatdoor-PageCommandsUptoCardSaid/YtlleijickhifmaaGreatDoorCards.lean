/-
  DERIVED. GIVEN WITH THE SEED: THE CARDS: each row of YtlleijickhifmaaGreatDoorRows.lean that lists a variable, with what it lists TIED to the program's text (the seventh form; the later family's looks); each row that meets fmt, with fmt's text TOLD by the authors' own Lean function (tested against real Go, not proved from fmt's source: count such statements apart). THE CARD IS WHAT COUNTS. Prove the row's statement (the work); the ties are given (YtlleijickhifmaaGreatDoorTie.lean); close each card by the builder's one call (the guide's Derived/Test/ToyasCard.lean, 'card_holds'). Laid BY PROGRAM, IN A SANDBOX (cutbox-door.mjs). By AI agents, Wed Nov 11 2026. No macro, syntax, notation, axiom, sorry.
-/
import Derived.Test.YtlleijickhifmaaGreatDoorRows
import GoSem.ClaimSeven
namespace Go.Proofs.YtlleijickhifmaaGreatDoor
namespace Rows

/-- THE TIED CARD OF 'flightdecklaw58.PageCommands'. -/
def pageCommandsCard : Claim7 := { stood := { row := pageCommandsRow, standIns := [], harness := (true, "839af53be3cffdd1b84dd8c3a454d761c100f46f8d9d97cc033827a94310ab31"), looks := true }, kinds := [], alts := [], laidByText := true, laidKinds := [.data, .data, .data, .data, .sentinel, .sentinel, .data, .widerDeep, .data, .pinned], laidTests := true, laidLooks := .later }
def PageCommandsCardSaid : Prop := Claim7.holds Tryz.pinned (.plain (OpenSpec.ofChange pageCommandsSpec)) pageCommandsCard

/-- THE SECOND FORM's CARD OF 'flightdecklaw58.PageCommands'. -/
def pageCommandsUptoCard : Claim7 := { stood := { row := pageCommandsUptoRow, standIns := [], harness := (true, "839af53be3cffdd1b84dd8c3a454d761c100f46f8d9d97cc033827a94310ab31"), looks := true }, kinds := [], alts := [], laidByText := true, laidKinds := [.data, .data, .data, .data, .sentinel, .sentinel, .data, .widerDeep, .data, .pinned], laidTests := true, laidLooks := .later }
def PageCommandsUptoCardSaid : Prop := Claim7.holds Tryz.pinned (.plain (OpenSpec.upto pageCommandsSpec)) pageCommandsUptoCard
end Rows
end Go.Proofs.YtlleijickhifmaaGreatDoor
