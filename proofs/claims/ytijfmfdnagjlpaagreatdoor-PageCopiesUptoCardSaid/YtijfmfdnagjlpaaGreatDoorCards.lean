/-
  DERIVED. GIVEN WITH THE SEED: THE CARDS: each row of YtijfmfdnagjlpaaGreatDoorRows.lean that lists a variable, with what it lists TIED to the program's text (the seventh form; the later family's looks); each row that meets fmt, with fmt's text TOLD by the authors' own Lean function (tested against real Go, not proved from fmt's source: count such statements apart). THE CARD IS WHAT COUNTS. Prove the row's statement (the work); the ties are given (YtijfmfdnagjlpaaGreatDoorTie.lean); close each card by the builder's one call (the guide's Derived/Test/ToyasCard.lean, 'card_holds'). Laid BY PROGRAM, IN A SANDBOX (cutbox-door.mjs). By AI agents, Wed Nov 11 2026. No macro, syntax, notation, axiom, sorry.
-/
import Derived.Test.YtijfmfdnagjlpaaGreatDoorRows
import GoSem.ClaimSeven
namespace Go.Proofs.YtijfmfdnagjlpaaGreatDoor
namespace Rows

/-- THE TIED CARD OF 'flightdecklaw58.PagePresses'. -/
def pagePressesCard : Claim7 := { stood := { row := pagePressesRow, standIns := [], harness := (true, "334651cb127b0a013d5f00635574aaaaf3e4db8e9fac8e03ee760884bac3a0b6"), looks := true }, kinds := [], alts := [], laidByText := true, laidKinds := [.data, .data, .data, .data, .sentinel, .sentinel, .data, .widerDeep, .pinned], laidTests := true, laidLooks := .later }
def PagePressesCardSaid : Prop := Claim7.holds Tryz.pinned (.plain (OpenSpec.ofChange pagePressesSpec)) pagePressesCard

/-- THE TIED CARD OF 'flightdecklaw58.PageKeys'. -/
def pageKeysCard : Claim7 := { stood := { row := pageKeysRow, standIns := [], harness := (true, "334651cb127b0a013d5f00635574aaaaf3e4db8e9fac8e03ee760884bac3a0b6"), looks := true }, kinds := [], alts := [], laidByText := true, laidKinds := [.data, .data, .data, .data, .sentinel, .sentinel, .data, .widerDeep, .pinned], laidTests := true, laidLooks := .later }
def PageKeysCardSaid : Prop := Claim7.holds Tryz.pinned (.plain (OpenSpec.ofChange pageKeysSpec)) pageKeysCard

/-- THE TIED CARD OF 'flightdecklaw58.PageShape'. -/
def pageShapeCard : Claim7 := { stood := { row := pageShapeRow, standIns := [], harness := (true, "334651cb127b0a013d5f00635574aaaaf3e4db8e9fac8e03ee760884bac3a0b6"), looks := true }, kinds := [], alts := [], laidByText := true, laidKinds := [.data, .data, .data, .data, .sentinel, .sentinel, .data, .widerDeep, .pinned], laidTests := true, laidLooks := .later }
def PageShapeCardSaid : Prop := Claim7.holds Tryz.pinned (.plain (OpenSpec.ofChange pageShapeSpec)) pageShapeCard

/-- THE TIED CARD OF 'flightdecklaw58.PageCopies'. -/
def pageCopiesCard : Claim7 := { stood := { row := pageCopiesRow, standIns := [], harness := (true, "334651cb127b0a013d5f00635574aaaaf3e4db8e9fac8e03ee760884bac3a0b6"), looks := true }, kinds := [], alts := [], laidByText := true, laidKinds := [.data, .data, .data, .data, .sentinel, .sentinel, .data, .widerDeep, .pinned], laidTests := true, laidLooks := .later }
def PageCopiesCardSaid : Prop := Claim7.holds Tryz.pinned (.plain (OpenSpec.ofChange pageCopiesSpec)) pageCopiesCard

/-- THE TIED CARD OF 'flightdecklaw58.PageTypes'. -/
def pageTypesCard : Claim7 := { stood := { row := pageTypesRow, standIns := [], harness := (true, "334651cb127b0a013d5f00635574aaaaf3e4db8e9fac8e03ee760884bac3a0b6"), looks := true }, kinds := [], alts := [], laidByText := true, laidKinds := [.data, .data, .data, .data, .sentinel, .sentinel, .data, .widerDeep, .pinned], laidTests := true, laidLooks := .later }
def PageTypesCardSaid : Prop := Claim7.holds Tryz.pinned (.plain (OpenSpec.ofChange pageTypesSpec)) pageTypesCard

/-- THE TIED CARD OF 'flightdecklaw58.PageScrolls'. -/
def pageScrollsCard : Claim7 := { stood := { row := pageScrollsRow, standIns := [], harness := (true, "334651cb127b0a013d5f00635574aaaaf3e4db8e9fac8e03ee760884bac3a0b6"), looks := true }, kinds := [], alts := [], laidByText := true, laidKinds := [.data, .data, .data, .data, .sentinel, .sentinel, .data, .widerDeep, .pinned], laidTests := true, laidLooks := .later }
def PageScrollsCardSaid : Prop := Claim7.holds Tryz.pinned (.plain (OpenSpec.ofChange pageScrollsSpec)) pageScrollsCard

/-- THE SECOND FORM's CARD OF 'flightdecklaw58.PagePresses'. -/
def pagePressesUptoCard : Claim7 := { stood := { row := pagePressesUptoRow, standIns := [], harness := (true, "334651cb127b0a013d5f00635574aaaaf3e4db8e9fac8e03ee760884bac3a0b6"), looks := true }, kinds := [], alts := [], laidByText := true, laidKinds := [.data, .data, .data, .data, .sentinel, .sentinel, .data, .widerDeep, .pinned], laidTests := true, laidLooks := .later }
def PagePressesUptoCardSaid : Prop := Claim7.holds Tryz.pinned (.plain (OpenSpec.upto pagePressesSpec)) pagePressesUptoCard

/-- THE SECOND FORM's CARD OF 'flightdecklaw58.PageKeys'. -/
def pageKeysUptoCard : Claim7 := { stood := { row := pageKeysUptoRow, standIns := [], harness := (true, "334651cb127b0a013d5f00635574aaaaf3e4db8e9fac8e03ee760884bac3a0b6"), looks := true }, kinds := [], alts := [], laidByText := true, laidKinds := [.data, .data, .data, .data, .sentinel, .sentinel, .data, .widerDeep, .pinned], laidTests := true, laidLooks := .later }
def PageKeysUptoCardSaid : Prop := Claim7.holds Tryz.pinned (.plain (OpenSpec.upto pageKeysSpec)) pageKeysUptoCard

/-- THE SECOND FORM's CARD OF 'flightdecklaw58.PageShape'. -/
def pageShapeUptoCard : Claim7 := { stood := { row := pageShapeUptoRow, standIns := [], harness := (true, "334651cb127b0a013d5f00635574aaaaf3e4db8e9fac8e03ee760884bac3a0b6"), looks := true }, kinds := [], alts := [], laidByText := true, laidKinds := [.data, .data, .data, .data, .sentinel, .sentinel, .data, .widerDeep, .pinned], laidTests := true, laidLooks := .later }
def PageShapeUptoCardSaid : Prop := Claim7.holds Tryz.pinned (.plain (OpenSpec.upto pageShapeSpec)) pageShapeUptoCard

/-- THE SECOND FORM's CARD OF 'flightdecklaw58.PageCopies'. -/
def pageCopiesUptoCard : Claim7 := { stood := { row := pageCopiesUptoRow, standIns := [], harness := (true, "334651cb127b0a013d5f00635574aaaaf3e4db8e9fac8e03ee760884bac3a0b6"), looks := true }, kinds := [], alts := [], laidByText := true, laidKinds := [.data, .data, .data, .data, .sentinel, .sentinel, .data, .widerDeep, .pinned], laidTests := true, laidLooks := .later }
def PageCopiesUptoCardSaid : Prop := Claim7.holds Tryz.pinned (.plain (OpenSpec.upto pageCopiesSpec)) pageCopiesUptoCard

/-- THE SECOND FORM's CARD OF 'flightdecklaw58.PageTypes'. -/
def pageTypesUptoCard : Claim7 := { stood := { row := pageTypesUptoRow, standIns := [], harness := (true, "334651cb127b0a013d5f00635574aaaaf3e4db8e9fac8e03ee760884bac3a0b6"), looks := true }, kinds := [], alts := [], laidByText := true, laidKinds := [.data, .data, .data, .data, .sentinel, .sentinel, .data, .widerDeep, .pinned], laidTests := true, laidLooks := .later }
def PageTypesUptoCardSaid : Prop := Claim7.holds Tryz.pinned (.plain (OpenSpec.upto pageTypesSpec)) pageTypesUptoCard

/-- THE SECOND FORM's CARD OF 'flightdecklaw58.PageScrolls'. -/
def pageScrollsUptoCard : Claim7 := { stood := { row := pageScrollsUptoRow, standIns := [], harness := (true, "334651cb127b0a013d5f00635574aaaaf3e4db8e9fac8e03ee760884bac3a0b6"), looks := true }, kinds := [], alts := [], laidByText := true, laidKinds := [.data, .data, .data, .data, .sentinel, .sentinel, .data, .widerDeep, .pinned], laidTests := true, laidLooks := .later }
def PageScrollsUptoCardSaid : Prop := Claim7.holds Tryz.pinned (.plain (OpenSpec.upto pageScrollsSpec)) pageScrollsUptoCard
end Rows
end Go.Proofs.YtijfmfdnagjlpaaGreatDoor
