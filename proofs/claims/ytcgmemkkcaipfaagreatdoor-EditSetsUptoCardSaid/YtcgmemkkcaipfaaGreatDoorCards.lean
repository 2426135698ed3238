/-
  DERIVED. GIVEN WITH THE SEED: THE CARDS: each row of YtcgmemkkcaipfaaGreatDoorRows.lean that lists a variable, with what it lists TIED to the program's text (the seventh form; the later family's looks); each row that meets fmt, with fmt's text TOLD by the authors' own Lean function (tested against real Go, not proved from fmt's source: count such statements apart). THE CARD IS WHAT COUNTS. Prove the row's statement (the work); the ties are given (YtcgmemkkcaipfaaGreatDoorTie.lean); close each card by the builder's one call (the guide's Derived/Test/ToyasCard.lean, 'card_holds'). Laid BY PROGRAM, IN A SANDBOX (cutbox-door.mjs). By AI agents, Wed Nov 11 2026. No macro, syntax, notation, axiom, sorry.
-/
import Derived.Test.YtcgmemkkcaipfaaGreatDoorRows
import GoSem.ClaimSeven
namespace Go.Proofs.YtcgmemkkcaipfaaGreatDoor
namespace Rows

/-- THE TIED CARD OF 'flightdecklaw23.EditKeeps'. -/
def editKeepsCard : Claim7 := { stood := { row := editKeepsRow, standIns := [], harness := (true, "a5057ee71c2a88359fb572724e74a8461363034b74942180233cb8a07291b6c0"), looks := true }, kinds := [], alts := [], laidByText := true, laidKinds := [.data, .data, .data, .data, .sentinel, .sentinel, .data, .data, .data, .data, .pinned], laidTests := true, laidLooks := .later }
def EditKeepsCardSaid : Prop := Claim7.holds Tryz.pinned (.plain (OpenSpec.ofChange editKeepsSpec)) editKeepsCard

/-- THE TIED CARD OF 'flightdecklaw23.EditSets'. -/
def editSetsCard : Claim7 := { stood := { row := editSetsRow, standIns := [], harness := (true, "a5057ee71c2a88359fb572724e74a8461363034b74942180233cb8a07291b6c0"), looks := true }, kinds := [], alts := [], laidByText := true, laidKinds := [.data, .data, .data, .data, .sentinel, .sentinel, .data, .data, .data, .data, .pinned], laidTests := true, laidLooks := .later }
def EditSetsCardSaid : Prop := Claim7.holds Tryz.pinned (.plain (OpenSpec.ofChange editSetsSpec)) editSetsCard

/-- THE TIED CARD OF 'flightdecklaw23.EditApplies'. -/
def editAppliesCard : Claim7 := { stood := { row := editAppliesRow, standIns := [], harness := (true, "a5057ee71c2a88359fb572724e74a8461363034b74942180233cb8a07291b6c0"), looks := true }, kinds := [], alts := [], laidByText := true, laidKinds := [.data, .data, .data, .data, .sentinel, .sentinel, .data, .data, .data, .data, .pinned], laidTests := true, laidLooks := .later }
def EditAppliesCardSaid : Prop := Claim7.holds Tryz.pinned (.plain (OpenSpec.ofChange editAppliesSpec)) editAppliesCard

/-- THE TIED CARD OF 'flightdecklaw23.EditValid'. -/
def editValidCard : Claim7 := { stood := { row := editValidRow, standIns := [], harness := (true, "a5057ee71c2a88359fb572724e74a8461363034b74942180233cb8a07291b6c0"), looks := true }, kinds := [], alts := [], laidByText := true, laidKinds := [.data, .data, .data, .data, .sentinel, .sentinel, .data, .data, .data, .data, .pinned], laidTests := true, laidLooks := .later }
def EditValidCardSaid : Prop := Claim7.holds Tryz.pinned (.plain (OpenSpec.ofChange editValidSpec)) editValidCard

/-- THE SECOND FORM's CARD OF 'flightdecklaw23.EditKeeps'. -/
def editKeepsUptoCard : Claim7 := { stood := { row := editKeepsUptoRow, standIns := [], harness := (true, "a5057ee71c2a88359fb572724e74a8461363034b74942180233cb8a07291b6c0"), looks := true }, kinds := [], alts := [], laidByText := true, laidKinds := [.data, .data, .data, .data, .sentinel, .sentinel, .data, .data, .data, .data, .pinned], laidTests := true, laidLooks := .later }
def EditKeepsUptoCardSaid : Prop := Claim7.holds Tryz.pinned (.plain (OpenSpec.upto editKeepsSpec)) editKeepsUptoCard

/-- THE SECOND FORM's CARD OF 'flightdecklaw23.EditSets'. -/
def editSetsUptoCard : Claim7 := { stood := { row := editSetsUptoRow, standIns := [], harness := (true, "a5057ee71c2a88359fb572724e74a8461363034b74942180233cb8a07291b6c0"), looks := true }, kinds := [], alts := [], laidByText := true, laidKinds := [.data, .data, .data, .data, .sentinel, .sentinel, .data, .data, .data, .data, .pinned], laidTests := true, laidLooks := .later }
def EditSetsUptoCardSaid : Prop := Claim7.holds Tryz.pinned (.plain (OpenSpec.upto editSetsSpec)) editSetsUptoCard

/-- THE SECOND FORM's CARD OF 'flightdecklaw23.EditApplies'. -/
def editAppliesUptoCard : Claim7 := { stood := { row := editAppliesUptoRow, standIns := [], harness := (true, "a5057ee71c2a88359fb572724e74a8461363034b74942180233cb8a07291b6c0"), looks := true }, kinds := [], alts := [], laidByText := true, laidKinds := [.data, .data, .data, .data, .sentinel, .sentinel, .data, .data, .data, .data, .pinned], laidTests := true, laidLooks := .later }
def EditAppliesUptoCardSaid : Prop := Claim7.holds Tryz.pinned (.plain (OpenSpec.upto editAppliesSpec)) editAppliesUptoCard

/-- THE SECOND FORM's CARD OF 'flightdecklaw23.EditValid'. -/
def editValidUptoCard : Claim7 := { stood := { row := editValidUptoRow, standIns := [], harness := (true, "a5057ee71c2a88359fb572724e74a8461363034b74942180233cb8a07291b6c0"), looks := true }, kinds := [], alts := [], laidByText := true, laidKinds := [.data, .data, .data, .data, .sentinel, .sentinel, .data, .data, .data, .data, .pinned], laidTests := true, laidLooks := .later }
def EditValidUptoCardSaid : Prop := Claim7.holds Tryz.pinned (.plain (OpenSpec.upto editValidSpec)) editValidUptoCard
end Rows
end Go.Proofs.YtcgmemkkcaipfaaGreatDoor
