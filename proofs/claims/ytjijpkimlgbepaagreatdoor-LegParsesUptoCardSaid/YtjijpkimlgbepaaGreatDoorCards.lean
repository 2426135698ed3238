/-
  DERIVED. GIVEN WITH THE SEED: THE CARDS: each row of YtjijpkimlgbepaaGreatDoorRows.lean that lists a variable, with what it lists TIED to the program's text (the seventh form; the later family's looks); each row that meets fmt, with fmt's text TOLD by the authors' own Lean function (tested against real Go, not proved from fmt's source: count such statements apart). THE CARD IS WHAT COUNTS. Prove the row's statement (the work); the ties are given (YtjijpkimlgbepaaGreatDoorTie.lean); close each card by the builder's one call (the guide's Derived/Test/ToyasCard.lean, 'card_holds'). Laid BY PROGRAM, IN A SANDBOX (cutbox-door.mjs). By AI agents, Wed Nov 11 2026. No macro, syntax, notation, axiom, sorry.
-/
import Derived.Test.YtjijpkimlgbepaaGreatDoorRows
import GoSem.ClaimSeven
namespace Go.Proofs.YtjijpkimlgbepaaGreatDoor
namespace Rows

/-- THE TIED CARD OF 'flightdecklaw16.LegChecks'. -/
def legChecksCard : Claim7 := { stood := { row := legChecksRow, standIns := [], harness := (true, "1f757d5a002ea92ef77ac40f8782e65213292680e084adf48c16b48efb32bd6d"), looks := true }, kinds := [], alts := [], laidByText := true, laidKinds := [.data, .data, .data, .data, .sentinel, .sentinel, .data, .data, .data, .pinned], laidTests := true, laidLooks := .later }
def LegChecksCardSaid : Prop := Claim7.holds Tryz.pinned (.plain (OpenSpec.ofChange legChecksSpec)) legChecksCard

/-- THE TIED CARD OF 'flightdecklaw16.LegText'. -/
def legTextCard : Claim7 := { stood := { row := legTextRow, standIns := [], harness := (true, "1f757d5a002ea92ef77ac40f8782e65213292680e084adf48c16b48efb32bd6d"), looks := true }, kinds := [], alts := [], laidByText := true, laidKinds := [.data, .data, .data, .data, .sentinel, .sentinel, .data, .data, .data, .pinned], laidTests := true, laidLooks := .later }
def LegTextCardSaid : Prop := Claim7.holds Tryz.pinned (.plain (OpenSpec.ofChange legTextSpec)) legTextCard

/-- THE TIED CARD OF 'flightdecklaw16.LegParses'. -/
def legParsesCard : Claim7 := { stood := { row := legParsesRow, standIns := [], harness := (true, "1f757d5a002ea92ef77ac40f8782e65213292680e084adf48c16b48efb32bd6d"), looks := true }, kinds := [], alts := [], laidByText := true, laidKinds := [.data, .data, .data, .data, .sentinel, .sentinel, .data, .data, .data, .pinned], laidTests := true, laidLooks := .later }
def LegParsesCardSaid : Prop := Claim7.holds Tryz.pinned (.plain (OpenSpec.ofChange legParsesSpec)) legParsesCard

/-- THE TIED CARD OF 'flightdecklaw16.LegWindow'. -/
def legWindowCard : Claim7 := { stood := { row := legWindowRow, standIns := [], harness := (true, "1f757d5a002ea92ef77ac40f8782e65213292680e084adf48c16b48efb32bd6d"), looks := true }, kinds := [], alts := [], laidByText := true, laidKinds := [.data, .data, .data, .data, .sentinel, .sentinel, .data, .data, .data, .pinned], laidTests := true, laidLooks := .later }
def LegWindowCardSaid : Prop := Claim7.holds Tryz.pinned (.plain (OpenSpec.ofChange legWindowSpec)) legWindowCard

/-- THE TIED CARD OF 'flightdecklaw16.LegCut'. -/
def legCutCard : Claim7 := { stood := { row := legCutRow, standIns := [], harness := (true, "1f757d5a002ea92ef77ac40f8782e65213292680e084adf48c16b48efb32bd6d"), looks := true }, kinds := [], alts := [], laidByText := true, laidKinds := [.data, .data, .data, .data, .sentinel, .sentinel, .data, .data, .data, .pinned], laidTests := true, laidLooks := .later }
def LegCutCardSaid : Prop := Claim7.holds Tryz.pinned (.plain (OpenSpec.ofChange legCutSpec)) legCutCard

/-- THE TIED CARD OF 'flightdecklaw16.LegJoins'. -/
def legJoinsCard : Claim7 := { stood := { row := legJoinsRow, standIns := [], harness := (true, "1f757d5a002ea92ef77ac40f8782e65213292680e084adf48c16b48efb32bd6d"), looks := true }, kinds := [], alts := [], laidByText := true, laidKinds := [.data, .data, .data, .data, .sentinel, .sentinel, .data, .data, .data, .pinned], laidTests := true, laidLooks := .later }
def LegJoinsCardSaid : Prop := Claim7.holds Tryz.pinned (.plain (OpenSpec.ofChange legJoinsSpec)) legJoinsCard

/-- THE TIED CARD OF 'flightdecklaw16.LegOrder'. -/
def legOrderCard : Claim7 := { stood := { row := legOrderRow, standIns := [], harness := (true, "1f757d5a002ea92ef77ac40f8782e65213292680e084adf48c16b48efb32bd6d"), looks := true }, kinds := [], alts := [], laidByText := true, laidKinds := [.data, .data, .data, .data, .sentinel, .sentinel, .data, .data, .data, .pinned], laidTests := true, laidLooks := .later }
def LegOrderCardSaid : Prop := Claim7.holds Tryz.pinned (.plain (OpenSpec.ofChange legOrderSpec)) legOrderCard

/-- THE TIED CARD OF 'flightdecklaw16.LegTypes'. -/
def legTypesCard : Claim7 := { stood := { row := legTypesRow, standIns := [], harness := (true, "1f757d5a002ea92ef77ac40f8782e65213292680e084adf48c16b48efb32bd6d"), looks := true }, kinds := [], alts := [], laidByText := true, laidKinds := [.data, .data, .data, .data, .sentinel, .sentinel, .data, .data, .data, .pinned], laidTests := true, laidLooks := .later }
def LegTypesCardSaid : Prop := Claim7.holds Tryz.pinned (.plain (OpenSpec.ofChange legTypesSpec)) legTypesCard

/-- THE SECOND FORM's CARD OF 'flightdecklaw16.LegChecks'. -/
def legChecksUptoCard : Claim7 := { stood := { row := legChecksUptoRow, standIns := [], harness := (true, "1f757d5a002ea92ef77ac40f8782e65213292680e084adf48c16b48efb32bd6d"), looks := true }, kinds := [], alts := [], laidByText := true, laidKinds := [.data, .data, .data, .data, .sentinel, .sentinel, .data, .data, .data, .pinned], laidTests := true, laidLooks := .later }
def LegChecksUptoCardSaid : Prop := Claim7.holds Tryz.pinned (.plain (OpenSpec.upto legChecksSpec)) legChecksUptoCard

/-- THE SECOND FORM's CARD OF 'flightdecklaw16.LegText'. -/
def legTextUptoCard : Claim7 := { stood := { row := legTextUptoRow, standIns := [], harness := (true, "1f757d5a002ea92ef77ac40f8782e65213292680e084adf48c16b48efb32bd6d"), looks := true }, kinds := [], alts := [], laidByText := true, laidKinds := [.data, .data, .data, .data, .sentinel, .sentinel, .data, .data, .data, .pinned], laidTests := true, laidLooks := .later }
def LegTextUptoCardSaid : Prop := Claim7.holds Tryz.pinned (.plain (OpenSpec.upto legTextSpec)) legTextUptoCard

/-- THE SECOND FORM's CARD OF 'flightdecklaw16.LegParses'. -/
def legParsesUptoCard : Claim7 := { stood := { row := legParsesUptoRow, standIns := [], harness := (true, "1f757d5a002ea92ef77ac40f8782e65213292680e084adf48c16b48efb32bd6d"), looks := true }, kinds := [], alts := [], laidByText := true, laidKinds := [.data, .data, .data, .data, .sentinel, .sentinel, .data, .data, .data, .pinned], laidTests := true, laidLooks := .later }
def LegParsesUptoCardSaid : Prop := Claim7.holds Tryz.pinned (.plain (OpenSpec.upto legParsesSpec)) legParsesUptoCard

/-- THE SECOND FORM's CARD OF 'flightdecklaw16.LegWindow'. -/
def legWindowUptoCard : Claim7 := { stood := { row := legWindowUptoRow, standIns := [], harness := (true, "1f757d5a002ea92ef77ac40f8782e65213292680e084adf48c16b48efb32bd6d"), looks := true }, kinds := [], alts := [], laidByText := true, laidKinds := [.data, .data, .data, .data, .sentinel, .sentinel, .data, .data, .data, .pinned], laidTests := true, laidLooks := .later }
def LegWindowUptoCardSaid : Prop := Claim7.holds Tryz.pinned (.plain (OpenSpec.upto legWindowSpec)) legWindowUptoCard

/-- THE SECOND FORM's CARD OF 'flightdecklaw16.LegCut'. -/
def legCutUptoCard : Claim7 := { stood := { row := legCutUptoRow, standIns := [], harness := (true, "1f757d5a002ea92ef77ac40f8782e65213292680e084adf48c16b48efb32bd6d"), looks := true }, kinds := [], alts := [], laidByText := true, laidKinds := [.data, .data, .data, .data, .sentinel, .sentinel, .data, .data, .data, .pinned], laidTests := true, laidLooks := .later }
def LegCutUptoCardSaid : Prop := Claim7.holds Tryz.pinned (.plain (OpenSpec.upto legCutSpec)) legCutUptoCard

/-- THE SECOND FORM's CARD OF 'flightdecklaw16.LegJoins'. -/
def legJoinsUptoCard : Claim7 := { stood := { row := legJoinsUptoRow, standIns := [], harness := (true, "1f757d5a002ea92ef77ac40f8782e65213292680e084adf48c16b48efb32bd6d"), looks := true }, kinds := [], alts := [], laidByText := true, laidKinds := [.data, .data, .data, .data, .sentinel, .sentinel, .data, .data, .data, .pinned], laidTests := true, laidLooks := .later }
def LegJoinsUptoCardSaid : Prop := Claim7.holds Tryz.pinned (.plain (OpenSpec.upto legJoinsSpec)) legJoinsUptoCard

/-- THE SECOND FORM's CARD OF 'flightdecklaw16.LegOrder'. -/
def legOrderUptoCard : Claim7 := { stood := { row := legOrderUptoRow, standIns := [], harness := (true, "1f757d5a002ea92ef77ac40f8782e65213292680e084adf48c16b48efb32bd6d"), looks := true }, kinds := [], alts := [], laidByText := true, laidKinds := [.data, .data, .data, .data, .sentinel, .sentinel, .data, .data, .data, .pinned], laidTests := true, laidLooks := .later }
def LegOrderUptoCardSaid : Prop := Claim7.holds Tryz.pinned (.plain (OpenSpec.upto legOrderSpec)) legOrderUptoCard

/-- THE SECOND FORM's CARD OF 'flightdecklaw16.LegTypes'. -/
def legTypesUptoCard : Claim7 := { stood := { row := legTypesUptoRow, standIns := [], harness := (true, "1f757d5a002ea92ef77ac40f8782e65213292680e084adf48c16b48efb32bd6d"), looks := true }, kinds := [], alts := [], laidByText := true, laidKinds := [.data, .data, .data, .data, .sentinel, .sentinel, .data, .data, .data, .pinned], laidTests := true, laidLooks := .later }
def LegTypesUptoCardSaid : Prop := Claim7.holds Tryz.pinned (.plain (OpenSpec.upto legTypesSpec)) legTypesUptoCard
end Rows
end Go.Proofs.YtjijpkimlgbepaaGreatDoor
