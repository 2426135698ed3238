/-
  DERIVED. GIVEN WITH THE SEED: THE CARDS: each row of YtjgondadpjildaaGreatDoorRows.lean that lists a variable, with what it lists TIED to the program's text (the seventh form; the later family's looks); each row that meets fmt, with fmt's text TOLD by the authors' own Lean function (tested against real Go, not proved from fmt's source: count such statements apart). THE CARD IS WHAT COUNTS. Prove the row's statement (the work); the ties are given (YtjgondadpjildaaGreatDoorTie.lean); close each card by the builder's one call (the guide's Derived/Test/ToyasCard.lean, 'card_holds'). Laid BY PROGRAM, IN A SANDBOX (cutbox-door.mjs). By AI agents, Wed Nov 11 2026. No macro, syntax, notation, axiom, sorry.
-/
import Derived.Test.YtjgondadpjildaaGreatDoorRows
import GoSem.ClaimSeven
namespace Go.Proofs.YtjgondadpjildaaGreatDoor
namespace Rows

/-- THE TIED CARD OF 'flightdecklaw21.PlanBinds'. -/
def planBindsCard : Claim7 := { stood := { row := planBindsRow, standIns := [], harness := (true, "f4fd0c5f5172f1db28b86b42b2dbe032281a7822b6151b940e2a7485f14764c7"), looks := true }, kinds := [], alts := [], laidByText := true, laidKinds := [.data, .data, .data, .data, .data], laidTests := true, laidLooks := .later }
def PlanBindsCardSaid : Prop := Claim7.holds Tryz.pinned (.plain (OpenSpec.ofChange planBindsSpec)) planBindsCard

/-- THE TIED CARD OF 'flightdecklaw21.PlanPoints'. -/
def planPointsCard : Claim7 := { stood := { row := planPointsRow, standIns := [], harness := (true, "f4fd0c5f5172f1db28b86b42b2dbe032281a7822b6151b940e2a7485f14764c7"), looks := true }, kinds := [], alts := [], laidByText := true, laidKinds := [.data, .data, .data, .data, .data], laidTests := true, laidLooks := .later }
def PlanPointsCardSaid : Prop := Claim7.holds Tryz.pinned (.plain (OpenSpec.ofChange planPointsSpec)) planPointsCard

/-- THE TIED CARD OF 'flightdecklaw21.PlanParses'. -/
def planParsesCard : Claim7 := { stood := { row := planParsesRow, standIns := [], harness := (true, "f4fd0c5f5172f1db28b86b42b2dbe032281a7822b6151b940e2a7485f14764c7"), looks := true }, kinds := [], alts := [], laidByText := true, laidKinds := [.data, .data, .data, .data, .sentinel, .sentinel, .data, .data, .pinned], laidTests := true, laidLooks := .later }
def PlanParsesCardSaid : Prop := Claim7.holds Tryz.pinned (.plain (OpenSpec.ofChange planParsesSpec)) planParsesCard

/-- THE TIED CARD OF 'flightdecklaw21.PlanText'. -/
def planTextCard : Claim7 := { stood := { row := planTextRow, standIns := [], harness := (true, "f4fd0c5f5172f1db28b86b42b2dbe032281a7822b6151b940e2a7485f14764c7"), looks := true }, kinds := [], alts := [], laidByText := true, laidKinds := [.data, .data, .data, .data, .sentinel, .sentinel, .data, .data, .pinned], laidTests := true, laidLooks := .later }
def PlanTextCardSaid : Prop := Claim7.holds Tryz.pinned (.plain (OpenSpec.ofChange planTextSpec)) planTextCard

/-- THE SECOND FORM's CARD OF 'flightdecklaw21.PlanBinds'. -/
def planBindsUptoCard : Claim7 := { stood := { row := planBindsUptoRow, standIns := [], harness := (true, "f4fd0c5f5172f1db28b86b42b2dbe032281a7822b6151b940e2a7485f14764c7"), looks := true }, kinds := [], alts := [], laidByText := true, laidKinds := [.data, .data, .data, .data, .data], laidTests := true, laidLooks := .later }
def PlanBindsUptoCardSaid : Prop := Claim7.holds Tryz.pinned (.plain (OpenSpec.upto planBindsSpec)) planBindsUptoCard

/-- THE SECOND FORM's CARD OF 'flightdecklaw21.PlanPoints'. -/
def planPointsUptoCard : Claim7 := { stood := { row := planPointsUptoRow, standIns := [], harness := (true, "f4fd0c5f5172f1db28b86b42b2dbe032281a7822b6151b940e2a7485f14764c7"), looks := true }, kinds := [], alts := [], laidByText := true, laidKinds := [.data, .data, .data, .data, .data], laidTests := true, laidLooks := .later }
def PlanPointsUptoCardSaid : Prop := Claim7.holds Tryz.pinned (.plain (OpenSpec.upto planPointsSpec)) planPointsUptoCard

/-- THE SECOND FORM's CARD OF 'flightdecklaw21.PlanParses'. -/
def planParsesUptoCard : Claim7 := { stood := { row := planParsesUptoRow, standIns := [], harness := (true, "f4fd0c5f5172f1db28b86b42b2dbe032281a7822b6151b940e2a7485f14764c7"), looks := true }, kinds := [], alts := [], laidByText := true, laidKinds := [.data, .data, .data, .data, .sentinel, .sentinel, .data, .data, .pinned], laidTests := true, laidLooks := .later }
def PlanParsesUptoCardSaid : Prop := Claim7.holds Tryz.pinned (.plain (OpenSpec.upto planParsesSpec)) planParsesUptoCard

/-- THE SECOND FORM's CARD OF 'flightdecklaw21.PlanText'. -/
def planTextUptoCard : Claim7 := { stood := { row := planTextUptoRow, standIns := [], harness := (true, "f4fd0c5f5172f1db28b86b42b2dbe032281a7822b6151b940e2a7485f14764c7"), looks := true }, kinds := [], alts := [], laidByText := true, laidKinds := [.data, .data, .data, .data, .sentinel, .sentinel, .data, .data, .pinned], laidTests := true, laidLooks := .later }
def PlanTextUptoCardSaid : Prop := Claim7.holds Tryz.pinned (.plain (OpenSpec.upto planTextSpec)) planTextUptoCard
end Rows
end Go.Proofs.YtjgondadpjildaaGreatDoor
