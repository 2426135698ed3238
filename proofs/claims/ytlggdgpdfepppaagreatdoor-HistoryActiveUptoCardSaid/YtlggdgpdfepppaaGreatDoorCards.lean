/-
  DERIVED. GIVEN WITH THE SEED: THE CARDS: each row of YtlggdgpdfepppaaGreatDoorRows.lean that lists a variable, with what it lists TIED to the program's text (the seventh form; the later family's looks); each row that meets fmt, with fmt's text TOLD by the authors' own Lean function (tested against real Go, not proved from fmt's source: count such statements apart). THE CARD IS WHAT COUNTS. Prove the row's statement (the work); the ties are given (YtlggdgpdfepppaaGreatDoorTie.lean); close each card by the builder's one call (the guide's Derived/Test/ToyasCard.lean, 'card_holds'). Laid BY PROGRAM, IN A SANDBOX (cutbox-door.mjs). By AI agents, Wed Nov 11 2026. No macro, syntax, notation, axiom, sorry.
-/
import Derived.Test.YtlggdgpdfepppaaGreatDoorRows
import GoSem.ClaimSeven
namespace Go.Proofs.YtlggdgpdfepppaaGreatDoor
namespace Rows

/-- THE TIED CARD OF 'flightdecklaw24.HistoryNews'. -/
def historyNewsCard : Claim7 := { stood := { row := historyNewsRow, standIns := [], harness := (true, "8a1aba1ec95d4327f4ba5522ae188297fe3d59e43ae86991f017d23c8427f083"), looks := false }, kinds := [], alts := [], laidByText := true, laidKinds := [.data, .data, .data, .data], laidTests := true, laidLooks := .later }
def HistoryNewsCardSaid : Prop := Claim7.holds Tryz.pinned (.plain (OpenSpec.ofChange historyNewsSpec)) historyNewsCard

/-- THE TIED CARD OF 'flightdecklaw24.HistoryUndoes'. -/
def historyUndoesCard : Claim7 := { stood := { row := historyUndoesRow, standIns := [], harness := (true, "8a1aba1ec95d4327f4ba5522ae188297fe3d59e43ae86991f017d23c8427f083"), looks := false }, kinds := [], alts := [], laidByText := true, laidKinds := [.data, .data, .data, .data], laidTests := true, laidLooks := .later }
def HistoryUndoesCardSaid : Prop := Claim7.holds Tryz.pinned (.plain (OpenSpec.ofChange historyUndoesSpec)) historyUndoesCard

/-- THE TIED CARD OF 'flightdecklaw24.HistoryValid'. -/
def historyValidCard : Claim7 := { stood := { row := historyValidRow, standIns := [], harness := (true, "8a1aba1ec95d4327f4ba5522ae188297fe3d59e43ae86991f017d23c8427f083"), looks := false }, kinds := [], alts := [], laidByText := true, laidKinds := [.data, .data, .data, .data], laidTests := true, laidLooks := .later }
def HistoryValidCardSaid : Prop := Claim7.holds Tryz.pinned (.plain (OpenSpec.ofChange historyValidSpec)) historyValidCard

/-- THE TIED CARD OF 'flightdecklaw24.HistoryActive'. -/
def historyActiveCard : Claim7 := { stood := { row := historyActiveRow, standIns := [], harness := (true, "8a1aba1ec95d4327f4ba5522ae188297fe3d59e43ae86991f017d23c8427f083"), looks := false }, kinds := [], alts := [], laidByText := true, laidKinds := [.data, .data, .data, .data], laidTests := true, laidLooks := .later }
def HistoryActiveCardSaid : Prop := Claim7.holds Tryz.pinned (.plain (OpenSpec.ofChange historyActiveSpec)) historyActiveCard

/-- THE TIED CARD OF 'flightdecklaw24.HistoryNil'. -/
def historyNilCard : Claim7 := { stood := { row := historyNilRow, standIns := [], harness := (true, "8a1aba1ec95d4327f4ba5522ae188297fe3d59e43ae86991f017d23c8427f083"), looks := false }, kinds := [], alts := [], laidByText := true, laidKinds := [.data, .data, .data, .data, .data, .data, .data, .data], laidTests := true, laidLooks := .later }
def HistoryNilCardSaid : Prop := Claim7.holds Tryz.pinned (.plain (OpenSpec.ofChange historyNilSpec)) historyNilCard

/-- THE SECOND FORM's CARD OF 'flightdecklaw24.HistoryNews'. -/
def historyNewsUptoCard : Claim7 := { stood := { row := historyNewsUptoRow, standIns := [], harness := (true, "8a1aba1ec95d4327f4ba5522ae188297fe3d59e43ae86991f017d23c8427f083"), looks := false }, kinds := [], alts := [], laidByText := true, laidKinds := [.data, .data, .data, .data], laidTests := true, laidLooks := .later }
def HistoryNewsUptoCardSaid : Prop := Claim7.holds Tryz.pinned (.plain (OpenSpec.upto historyNewsSpec)) historyNewsUptoCard

/-- THE SECOND FORM's CARD OF 'flightdecklaw24.HistoryUndoes'. -/
def historyUndoesUptoCard : Claim7 := { stood := { row := historyUndoesUptoRow, standIns := [], harness := (true, "8a1aba1ec95d4327f4ba5522ae188297fe3d59e43ae86991f017d23c8427f083"), looks := false }, kinds := [], alts := [], laidByText := true, laidKinds := [.data, .data, .data, .data], laidTests := true, laidLooks := .later }
def HistoryUndoesUptoCardSaid : Prop := Claim7.holds Tryz.pinned (.plain (OpenSpec.upto historyUndoesSpec)) historyUndoesUptoCard

/-- THE SECOND FORM's CARD OF 'flightdecklaw24.HistoryValid'. -/
def historyValidUptoCard : Claim7 := { stood := { row := historyValidUptoRow, standIns := [], harness := (true, "8a1aba1ec95d4327f4ba5522ae188297fe3d59e43ae86991f017d23c8427f083"), looks := false }, kinds := [], alts := [], laidByText := true, laidKinds := [.data, .data, .data, .data], laidTests := true, laidLooks := .later }
def HistoryValidUptoCardSaid : Prop := Claim7.holds Tryz.pinned (.plain (OpenSpec.upto historyValidSpec)) historyValidUptoCard

/-- THE SECOND FORM's CARD OF 'flightdecklaw24.HistoryActive'. -/
def historyActiveUptoCard : Claim7 := { stood := { row := historyActiveUptoRow, standIns := [], harness := (true, "8a1aba1ec95d4327f4ba5522ae188297fe3d59e43ae86991f017d23c8427f083"), looks := false }, kinds := [], alts := [], laidByText := true, laidKinds := [.data, .data, .data, .data], laidTests := true, laidLooks := .later }
def HistoryActiveUptoCardSaid : Prop := Claim7.holds Tryz.pinned (.plain (OpenSpec.upto historyActiveSpec)) historyActiveUptoCard

/-- THE SECOND FORM's CARD OF 'flightdecklaw24.HistoryNil'. -/
def historyNilUptoCard : Claim7 := { stood := { row := historyNilUptoRow, standIns := [], harness := (true, "8a1aba1ec95d4327f4ba5522ae188297fe3d59e43ae86991f017d23c8427f083"), looks := false }, kinds := [], alts := [], laidByText := true, laidKinds := [.data, .data, .data, .data, .data, .data, .data, .data], laidTests := true, laidLooks := .later }
def HistoryNilUptoCardSaid : Prop := Claim7.holds Tryz.pinned (.plain (OpenSpec.upto historyNilSpec)) historyNilUptoCard
end Rows
end Go.Proofs.YtlggdgpdfepppaaGreatDoor
