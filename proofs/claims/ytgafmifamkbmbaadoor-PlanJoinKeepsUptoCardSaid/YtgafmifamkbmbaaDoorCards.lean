/-
  DERIVED. GIVEN WITH THE SEED: THE CARDS: each row of YtgafmifamkbmbaaDoorRows.lean that lists a variable, with what it lists TIED to the program's text (the seventh form; the later family's looks); each row that meets fmt, with fmt's text TOLD by the authors' own Lean function (tested against real Go, not proved from fmt's source: count such statements apart). THE CARD IS WHAT COUNTS. Prove the row's statement (the work); the ties are given (YtgafmifamkbmbaaDoorTie.lean); close each card by the builder's one call (the guide's Derived/Test/ToyasCard.lean, 'card_holds'). Laid BY PROGRAM, IN A SANDBOX (cutbox-door.mjs). By AI agents, Wed Nov 11 2026. No macro, syntax, notation, axiom, sorry.
-/
import Derived.Test.YtgafmifamkbmbaaDoorRows
import GoSem.ClaimSeven
namespace Go.Proofs.YtgafmifamkbmbaaDoor
namespace Rows

/-- THE TIED CARD OF 'flightdecklaw21.PlanChecks'. -/
def planChecksCard : Claim7 := { stood := { row := planChecksRow, standIns := [], harness := (true, "d3ac902a59e74b30ef1bb3efe4cb03cef2fba8eee3d070ceed139dee3964ade7"), looks := false }, kinds := [], alts := [], laidByText := true, laidKinds := [.data, .data, .data, .data, .data], laidTests := true, laidLooks := .later }
def PlanChecksCardSaid : Prop := Claim7.holds Tryd.pinned (.plain (OpenSpec.ofChange planChecksSpec)) planChecksCard

/-- THE TIED CARD OF 'flightdecklaw21.PlanJoins'. -/
def planJoinsCard : Claim7 := { stood := { row := planJoinsRow, standIns := [], harness := (true, "d3ac902a59e74b30ef1bb3efe4cb03cef2fba8eee3d070ceed139dee3964ade7"), looks := false }, kinds := [], alts := [], laidByText := true, laidKinds := [.data, .data, .data, .data, .data], laidTests := true, laidLooks := .later }
def PlanJoinsCardSaid : Prop := Claim7.holds Tryd.pinned (.plain (OpenSpec.ofChange planJoinsSpec)) planJoinsCard

/-- THE TIED CARD OF 'flightdecklaw21.PlanJoinAgain'. -/
def planJoinAgainCard : Claim7 := { stood := { row := planJoinAgainRow, standIns := [], harness := (true, "d3ac902a59e74b30ef1bb3efe4cb03cef2fba8eee3d070ceed139dee3964ade7"), looks := false }, kinds := [], alts := [], laidByText := true, laidKinds := [.data, .data, .data, .data, .data], laidTests := true, laidLooks := .later }
def PlanJoinAgainCardSaid : Prop := Claim7.holds Tryd.pinned (.plain (OpenSpec.ofChange planJoinAgainSpec)) planJoinAgainCard

/-- THE TIED CARD OF 'flightdecklaw21.PlanJoinValid'. -/
def planJoinValidCard : Claim7 := { stood := { row := planJoinValidRow, standIns := [], harness := (true, "d3ac902a59e74b30ef1bb3efe4cb03cef2fba8eee3d070ceed139dee3964ade7"), looks := false }, kinds := [], alts := [], laidByText := true, laidKinds := [.data, .data, .data, .data, .data], laidTests := true, laidLooks := .later }
def PlanJoinValidCardSaid : Prop := Claim7.holds Tryd.pinned (.plain (OpenSpec.ofChange planJoinValidSpec)) planJoinValidCard

/-- THE TIED CARD OF 'flightdecklaw21.PlanJoinKeeps'. -/
def planJoinKeepsCard : Claim7 := { stood := { row := planJoinKeepsRow, standIns := [], harness := (true, "d3ac902a59e74b30ef1bb3efe4cb03cef2fba8eee3d070ceed139dee3964ade7"), looks := false }, kinds := [], alts := [], laidByText := true, laidKinds := [.data, .data, .data, .data, .data], laidTests := true, laidLooks := .later }
def PlanJoinKeepsCardSaid : Prop := Claim7.holds Tryd.pinned (.plain (OpenSpec.ofChange planJoinKeepsSpec)) planJoinKeepsCard

/-- THE TIED CARD OF 'flightdecklaw21.PlanFinds'. -/
def planFindsCard : Claim7 := { stood := { row := planFindsRow, standIns := [], harness := (true, "d3ac902a59e74b30ef1bb3efe4cb03cef2fba8eee3d070ceed139dee3964ade7"), looks := false }, kinds := [], alts := [], laidByText := true, laidKinds := [.data, .data, .data, .data, .data], laidTests := true, laidLooks := .later }
def PlanFindsCardSaid : Prop := Claim7.holds Tryd.pinned (.plain (OpenSpec.ofChange planFindsSpec)) planFindsCard

/-- THE SECOND FORM's CARD OF 'flightdecklaw21.PlanChecks'. -/
def planChecksUptoCard : Claim7 := { stood := { row := planChecksUptoRow, standIns := [], harness := (true, "d3ac902a59e74b30ef1bb3efe4cb03cef2fba8eee3d070ceed139dee3964ade7"), looks := false }, kinds := [], alts := [], laidByText := true, laidKinds := [.data, .data, .data, .data, .data], laidTests := true, laidLooks := .later }
def PlanChecksUptoCardSaid : Prop := Claim7.holds Tryd.pinned (.plain (OpenSpec.upto planChecksSpec)) planChecksUptoCard

/-- THE SECOND FORM's CARD OF 'flightdecklaw21.PlanJoins'. -/
def planJoinsUptoCard : Claim7 := { stood := { row := planJoinsUptoRow, standIns := [], harness := (true, "d3ac902a59e74b30ef1bb3efe4cb03cef2fba8eee3d070ceed139dee3964ade7"), looks := false }, kinds := [], alts := [], laidByText := true, laidKinds := [.data, .data, .data, .data, .data], laidTests := true, laidLooks := .later }
def PlanJoinsUptoCardSaid : Prop := Claim7.holds Tryd.pinned (.plain (OpenSpec.upto planJoinsSpec)) planJoinsUptoCard

/-- THE SECOND FORM's CARD OF 'flightdecklaw21.PlanJoinAgain'. -/
def planJoinAgainUptoCard : Claim7 := { stood := { row := planJoinAgainUptoRow, standIns := [], harness := (true, "d3ac902a59e74b30ef1bb3efe4cb03cef2fba8eee3d070ceed139dee3964ade7"), looks := false }, kinds := [], alts := [], laidByText := true, laidKinds := [.data, .data, .data, .data, .data], laidTests := true, laidLooks := .later }
def PlanJoinAgainUptoCardSaid : Prop := Claim7.holds Tryd.pinned (.plain (OpenSpec.upto planJoinAgainSpec)) planJoinAgainUptoCard

/-- THE SECOND FORM's CARD OF 'flightdecklaw21.PlanJoinValid'. -/
def planJoinValidUptoCard : Claim7 := { stood := { row := planJoinValidUptoRow, standIns := [], harness := (true, "d3ac902a59e74b30ef1bb3efe4cb03cef2fba8eee3d070ceed139dee3964ade7"), looks := false }, kinds := [], alts := [], laidByText := true, laidKinds := [.data, .data, .data, .data, .data], laidTests := true, laidLooks := .later }
def PlanJoinValidUptoCardSaid : Prop := Claim7.holds Tryd.pinned (.plain (OpenSpec.upto planJoinValidSpec)) planJoinValidUptoCard

/-- THE SECOND FORM's CARD OF 'flightdecklaw21.PlanJoinKeeps'. -/
def planJoinKeepsUptoCard : Claim7 := { stood := { row := planJoinKeepsUptoRow, standIns := [], harness := (true, "d3ac902a59e74b30ef1bb3efe4cb03cef2fba8eee3d070ceed139dee3964ade7"), looks := false }, kinds := [], alts := [], laidByText := true, laidKinds := [.data, .data, .data, .data, .data], laidTests := true, laidLooks := .later }
def PlanJoinKeepsUptoCardSaid : Prop := Claim7.holds Tryd.pinned (.plain (OpenSpec.upto planJoinKeepsSpec)) planJoinKeepsUptoCard

/-- THE SECOND FORM's CARD OF 'flightdecklaw21.PlanFinds'. -/
def planFindsUptoCard : Claim7 := { stood := { row := planFindsUptoRow, standIns := [], harness := (true, "d3ac902a59e74b30ef1bb3efe4cb03cef2fba8eee3d070ceed139dee3964ade7"), looks := false }, kinds := [], alts := [], laidByText := true, laidKinds := [.data, .data, .data, .data, .data], laidTests := true, laidLooks := .later }
def PlanFindsUptoCardSaid : Prop := Claim7.holds Tryd.pinned (.plain (OpenSpec.upto planFindsSpec)) planFindsUptoCard
end Rows
end Go.Proofs.YtgafmifamkbmbaaDoor
