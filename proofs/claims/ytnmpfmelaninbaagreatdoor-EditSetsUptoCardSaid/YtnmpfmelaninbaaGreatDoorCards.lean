/-
  DERIVED. GIVEN WITH THE SEED: THE CARDS: each row of YtnmpfmelaninbaaGreatDoorRows.lean that lists a variable, with what it lists TIED to the program's text (the seventh form; the later family's looks); each row that meets fmt, with fmt's text TOLD by the authors' own Lean function (tested against real Go, not proved from fmt's source: count such statements apart). THE CARD IS WHAT COUNTS. Prove the row's statement (the work); the ties are given (YtnmpfmelaninbaaGreatDoorTie.lean); close each card by the builder's one call (the guide's Derived/Test/ToyasCard.lean, 'card_holds'). Laid BY PROGRAM, IN A SANDBOX (cutbox-door.mjs). By AI agents, Wed Nov 11 2026. No macro, syntax, notation, axiom, sorry.
-/
import Derived.Test.YtnmpfmelaninbaaGreatDoorRows
import GoSem.ClaimSeven
namespace Go.Proofs.YtnmpfmelaninbaaGreatDoor
namespace Rows

/-- THE TIED CARD OF 'flightdecklaw23.EditChecks'. -/
def editChecksCard : Claim7 := { stood := { row := editChecksRow, standIns := [], harness := (true, "89a1cd38a84b82579fe178607106d6c80a5b3b418eaec0b62300d0aaa8e17f59"), looks := true }, kinds := [], alts := [], laidByText := true, laidKinds := [.data, .data, .data, .data, .sentinel, .sentinel, .data, .data, .data, .data, .pinned], laidTests := true, laidLooks := .later }
def EditChecksCardSaid : Prop := Claim7.holds Tryz.pinned (.plain (OpenSpec.ofChange editChecksSpec)) editChecksCard

/-- THE TIED CARD OF 'flightdecklaw23.EditText'. -/
def editTextCard : Claim7 := { stood := { row := editTextRow, standIns := [], harness := (true, "89a1cd38a84b82579fe178607106d6c80a5b3b418eaec0b62300d0aaa8e17f59"), looks := true }, kinds := [], alts := [], laidByText := true, laidKinds := [.data, .data, .data, .data, .sentinel, .sentinel, .data, .data, .data, .data, .pinned], laidTests := true, laidLooks := .later }
def EditTextCardSaid : Prop := Claim7.holds Tryz.pinned (.plain (OpenSpec.ofChange editTextSpec)) editTextCard

/-- THE TIED CARD OF 'flightdecklaw23.EditParses'. -/
def editParsesCard : Claim7 := { stood := { row := editParsesRow, standIns := [], harness := (true, "89a1cd38a84b82579fe178607106d6c80a5b3b418eaec0b62300d0aaa8e17f59"), looks := true }, kinds := [], alts := [], laidByText := true, laidKinds := [.data, .data, .data, .data, .sentinel, .sentinel, .data, .data, .data, .data, .pinned], laidTests := true, laidLooks := .later }
def EditParsesCardSaid : Prop := Claim7.holds Tryz.pinned (.plain (OpenSpec.ofChange editParsesSpec)) editParsesCard

/-- THE TIED CARD OF 'flightdecklaw23.EditKeeps'. -/
def editKeepsCard : Claim7 := { stood := { row := editKeepsRow, standIns := [], harness := (true, "89a1cd38a84b82579fe178607106d6c80a5b3b418eaec0b62300d0aaa8e17f59"), looks := true }, kinds := [], alts := [], laidByText := true, laidKinds := [.data, .data, .data, .data, .sentinel, .sentinel, .data, .data, .data, .data, .pinned], laidTests := true, laidLooks := .later }
def EditKeepsCardSaid : Prop := Claim7.holds Tryz.pinned (.plain (OpenSpec.ofChange editKeepsSpec)) editKeepsCard

/-- THE TIED CARD OF 'flightdecklaw23.EditSets'. -/
def editSetsCard : Claim7 := { stood := { row := editSetsRow, standIns := [], harness := (true, "89a1cd38a84b82579fe178607106d6c80a5b3b418eaec0b62300d0aaa8e17f59"), looks := true }, kinds := [], alts := [], laidByText := true, laidKinds := [.data, .data, .data, .data, .sentinel, .sentinel, .data, .data, .data, .data, .pinned], laidTests := true, laidLooks := .later }
def EditSetsCardSaid : Prop := Claim7.holds Tryz.pinned (.plain (OpenSpec.ofChange editSetsSpec)) editSetsCard

/-- THE TIED CARD OF 'flightdecklaw23.EditDirect'. -/
def editDirectCard : Claim7 := { stood := { row := editDirectRow, standIns := [], harness := (true, "89a1cd38a84b82579fe178607106d6c80a5b3b418eaec0b62300d0aaa8e17f59"), looks := true }, kinds := [], alts := [], laidByText := true, laidKinds := [.data, .data, .data, .data, .sentinel, .sentinel, .data, .data, .data, .data, .pinned], laidTests := true, laidLooks := .later }
def EditDirectCardSaid : Prop := Claim7.holds Tryz.pinned (.plain (OpenSpec.ofChange editDirectSpec)) editDirectCard

/-- THE TIED CARD OF 'flightdecklaw23.EditApplies'. -/
def editAppliesCard : Claim7 := { stood := { row := editAppliesRow, standIns := [], harness := (true, "89a1cd38a84b82579fe178607106d6c80a5b3b418eaec0b62300d0aaa8e17f59"), looks := true }, kinds := [], alts := [], laidByText := true, laidKinds := [.data, .data, .data, .data, .sentinel, .sentinel, .data, .data, .data, .data, .pinned], laidTests := true, laidLooks := .later }
def EditAppliesCardSaid : Prop := Claim7.holds Tryz.pinned (.plain (OpenSpec.ofChange editAppliesSpec)) editAppliesCard

/-- THE TIED CARD OF 'flightdecklaw23.EditValid'. -/
def editValidCard : Claim7 := { stood := { row := editValidRow, standIns := [], harness := (true, "89a1cd38a84b82579fe178607106d6c80a5b3b418eaec0b62300d0aaa8e17f59"), looks := true }, kinds := [], alts := [], laidByText := true, laidKinds := [.data, .data, .data, .data, .sentinel, .sentinel, .data, .data, .data, .data, .pinned], laidTests := true, laidLooks := .later }
def EditValidCardSaid : Prop := Claim7.holds Tryz.pinned (.plain (OpenSpec.ofChange editValidSpec)) editValidCard

/-- THE TIED CARD OF 'flightdecklaw58.PageCommands'. -/
def pageCommandsCard : Claim7 := { stood := { row := pageCommandsRow, standIns := [], harness := (true, "89a1cd38a84b82579fe178607106d6c80a5b3b418eaec0b62300d0aaa8e17f59"), looks := true }, kinds := [], alts := [], laidByText := true, laidKinds := [.data, .data, .data, .data, .sentinel, .sentinel, .data, .widerDeep, .data, .pinned], laidTests := true, laidLooks := .later }
def PageCommandsCardSaid : Prop := Claim7.holds Tryz.pinned (.plain (OpenSpec.ofChange pageCommandsSpec)) pageCommandsCard

/-- THE SECOND FORM's CARD OF 'flightdecklaw23.EditChecks'. -/
def editChecksUptoCard : Claim7 := { stood := { row := editChecksUptoRow, standIns := [], harness := (true, "89a1cd38a84b82579fe178607106d6c80a5b3b418eaec0b62300d0aaa8e17f59"), looks := true }, kinds := [], alts := [], laidByText := true, laidKinds := [.data, .data, .data, .data, .sentinel, .sentinel, .data, .data, .data, .data, .pinned], laidTests := true, laidLooks := .later }
def EditChecksUptoCardSaid : Prop := Claim7.holds Tryz.pinned (.plain (OpenSpec.upto editChecksSpec)) editChecksUptoCard

/-- THE SECOND FORM's CARD OF 'flightdecklaw23.EditText'. -/
def editTextUptoCard : Claim7 := { stood := { row := editTextUptoRow, standIns := [], harness := (true, "89a1cd38a84b82579fe178607106d6c80a5b3b418eaec0b62300d0aaa8e17f59"), looks := true }, kinds := [], alts := [], laidByText := true, laidKinds := [.data, .data, .data, .data, .sentinel, .sentinel, .data, .data, .data, .data, .pinned], laidTests := true, laidLooks := .later }
def EditTextUptoCardSaid : Prop := Claim7.holds Tryz.pinned (.plain (OpenSpec.upto editTextSpec)) editTextUptoCard

/-- THE SECOND FORM's CARD OF 'flightdecklaw23.EditParses'. -/
def editParsesUptoCard : Claim7 := { stood := { row := editParsesUptoRow, standIns := [], harness := (true, "89a1cd38a84b82579fe178607106d6c80a5b3b418eaec0b62300d0aaa8e17f59"), looks := true }, kinds := [], alts := [], laidByText := true, laidKinds := [.data, .data, .data, .data, .sentinel, .sentinel, .data, .data, .data, .data, .pinned], laidTests := true, laidLooks := .later }
def EditParsesUptoCardSaid : Prop := Claim7.holds Tryz.pinned (.plain (OpenSpec.upto editParsesSpec)) editParsesUptoCard

/-- THE SECOND FORM's CARD OF 'flightdecklaw23.EditKeeps'. -/
def editKeepsUptoCard : Claim7 := { stood := { row := editKeepsUptoRow, standIns := [], harness := (true, "89a1cd38a84b82579fe178607106d6c80a5b3b418eaec0b62300d0aaa8e17f59"), looks := true }, kinds := [], alts := [], laidByText := true, laidKinds := [.data, .data, .data, .data, .sentinel, .sentinel, .data, .data, .data, .data, .pinned], laidTests := true, laidLooks := .later }
def EditKeepsUptoCardSaid : Prop := Claim7.holds Tryz.pinned (.plain (OpenSpec.upto editKeepsSpec)) editKeepsUptoCard

/-- THE SECOND FORM's CARD OF 'flightdecklaw23.EditSets'. -/
def editSetsUptoCard : Claim7 := { stood := { row := editSetsUptoRow, standIns := [], harness := (true, "89a1cd38a84b82579fe178607106d6c80a5b3b418eaec0b62300d0aaa8e17f59"), looks := true }, kinds := [], alts := [], laidByText := true, laidKinds := [.data, .data, .data, .data, .sentinel, .sentinel, .data, .data, .data, .data, .pinned], laidTests := true, laidLooks := .later }
def EditSetsUptoCardSaid : Prop := Claim7.holds Tryz.pinned (.plain (OpenSpec.upto editSetsSpec)) editSetsUptoCard

/-- THE SECOND FORM's CARD OF 'flightdecklaw23.EditDirect'. -/
def editDirectUptoCard : Claim7 := { stood := { row := editDirectUptoRow, standIns := [], harness := (true, "89a1cd38a84b82579fe178607106d6c80a5b3b418eaec0b62300d0aaa8e17f59"), looks := true }, kinds := [], alts := [], laidByText := true, laidKinds := [.data, .data, .data, .data, .sentinel, .sentinel, .data, .data, .data, .data, .pinned], laidTests := true, laidLooks := .later }
def EditDirectUptoCardSaid : Prop := Claim7.holds Tryz.pinned (.plain (OpenSpec.upto editDirectSpec)) editDirectUptoCard

/-- THE SECOND FORM's CARD OF 'flightdecklaw23.EditApplies'. -/
def editAppliesUptoCard : Claim7 := { stood := { row := editAppliesUptoRow, standIns := [], harness := (true, "89a1cd38a84b82579fe178607106d6c80a5b3b418eaec0b62300d0aaa8e17f59"), looks := true }, kinds := [], alts := [], laidByText := true, laidKinds := [.data, .data, .data, .data, .sentinel, .sentinel, .data, .data, .data, .data, .pinned], laidTests := true, laidLooks := .later }
def EditAppliesUptoCardSaid : Prop := Claim7.holds Tryz.pinned (.plain (OpenSpec.upto editAppliesSpec)) editAppliesUptoCard

/-- THE SECOND FORM's CARD OF 'flightdecklaw23.EditValid'. -/
def editValidUptoCard : Claim7 := { stood := { row := editValidUptoRow, standIns := [], harness := (true, "89a1cd38a84b82579fe178607106d6c80a5b3b418eaec0b62300d0aaa8e17f59"), looks := true }, kinds := [], alts := [], laidByText := true, laidKinds := [.data, .data, .data, .data, .sentinel, .sentinel, .data, .data, .data, .data, .pinned], laidTests := true, laidLooks := .later }
def EditValidUptoCardSaid : Prop := Claim7.holds Tryz.pinned (.plain (OpenSpec.upto editValidSpec)) editValidUptoCard

/-- THE SECOND FORM's CARD OF 'flightdecklaw58.PageCommands'. -/
def pageCommandsUptoCard : Claim7 := { stood := { row := pageCommandsUptoRow, standIns := [], harness := (true, "89a1cd38a84b82579fe178607106d6c80a5b3b418eaec0b62300d0aaa8e17f59"), looks := true }, kinds := [], alts := [], laidByText := true, laidKinds := [.data, .data, .data, .data, .sentinel, .sentinel, .data, .widerDeep, .data, .pinned], laidTests := true, laidLooks := .later }
def PageCommandsUptoCardSaid : Prop := Claim7.holds Tryz.pinned (.plain (OpenSpec.upto pageCommandsSpec)) pageCommandsUptoCard
end Rows
end Go.Proofs.YtnmpfmelaninbaaGreatDoor
