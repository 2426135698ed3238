/-
  DERIVED. GIVEN WITH THE SEED: THE CARDS: each row of YtgoeedohgomodaaGreatDoorRows.lean that lists a variable, with what it lists TIED to the program's text (the seventh form; the later family's looks); each row that meets fmt, with fmt's text TOLD by the authors' own Lean function (tested against real Go, not proved from fmt's source: count such statements apart). THE CARD IS WHAT COUNTS. Prove the row's statement (the work); the ties are given (YtgoeedohgomodaaGreatDoorTie.lean); close each card by the builder's one call (the guide's Derived/Test/ToyasCard.lean, 'card_holds'). Laid BY PROGRAM, IN A SANDBOX (cutbox-door.mjs). By AI agents, Wed Nov 11 2026. No macro, syntax, notation, axiom, sorry.
-/
import Derived.Test.YtgoeedohgomodaaGreatDoorRows
import GoSem.ClaimSeven
namespace Go.Proofs.YtgoeedohgomodaaGreatDoor
namespace Rows

/-- THE TIED CARD OF 'flightdecklaw22.RouteParses'. -/
def routeParsesCard : Claim7 := { stood := { row := routeParsesRow, standIns := [], harness := (true, "7708eefd5a333c1a1ac834d929b8917a405d8ca23fc8644afef00b6d0b969d66"), looks := false }, kinds := [], alts := [], laidByText := true, laidKinds := [.data, .data, .pinned], laidTests := true, laidLooks := .later }
def RouteParsesCardSaid : Prop := Claim7.holds Tryz.pinned (.plain (OpenSpec.ofChange routeParsesSpec)) routeParsesCard

/-- THE TIED CARD OF 'flightdecklaw22.RoutePlaces'. -/
def routePlacesCard : Claim7 := { stood := { row := routePlacesRow, standIns := [], harness := (true, "7708eefd5a333c1a1ac834d929b8917a405d8ca23fc8644afef00b6d0b969d66"), looks := false }, kinds := [], alts := [], laidByText := true, laidKinds := [.data, .data, .pinned], laidTests := true, laidLooks := .later }
def RoutePlacesCardSaid : Prop := Claim7.holds Tryz.pinned (.plain (OpenSpec.ofChange routePlacesSpec)) routePlacesCard

/-- THE TIED CARD OF 'flightdecklaw22.RouteExpands'. -/
def routeExpandsCard : Claim7 := { stood := { row := routeExpandsRow, standIns := [], harness := (true, "7708eefd5a333c1a1ac834d929b8917a405d8ca23fc8644afef00b6d0b969d66"), looks := false }, kinds := [], alts := [], laidByText := true, laidKinds := [.data, .data, .pinned], laidTests := true, laidLooks := .later }
def RouteExpandsCardSaid : Prop := Claim7.holds Tryz.pinned (.plain (OpenSpec.ofChange routeExpandsSpec)) routeExpandsCard

/-- THE TIED CARD OF 'flightdecklaw22.RoutePrints'. -/
def routePrintsCard : Claim7 := { stood := { row := routePrintsRow, standIns := [], harness := (true, "7708eefd5a333c1a1ac834d929b8917a405d8ca23fc8644afef00b6d0b969d66"), looks := false }, kinds := [], alts := [], laidByText := true, laidKinds := [.data, .data, .pinned], laidTests := true, laidLooks := .later }
def RoutePrintsCardSaid : Prop := Claim7.holds Tryz.pinned (.plain (OpenSpec.ofChange routePrintsSpec)) routePrintsCard

/-- THE TIED CARD OF 'flightdecklaw22.RouteValid'. -/
def routeValidCard : Claim7 := { stood := { row := routeValidRow, standIns := [], harness := (true, "7708eefd5a333c1a1ac834d929b8917a405d8ca23fc8644afef00b6d0b969d66"), looks := false }, kinds := [], alts := [], laidByText := true, laidKinds := [.data, .data, .pinned], laidTests := true, laidLooks := .later }
def RouteValidCardSaid : Prop := Claim7.holds Tryz.pinned (.plain (OpenSpec.ofChange routeValidSpec)) routeValidCard

/-- THE TIED CARD OF 'flightdecklaw22.RouteText'. -/
def routeTextCard : Claim7 := { stood := { row := routeTextRow, standIns := [], harness := (true, "7708eefd5a333c1a1ac834d929b8917a405d8ca23fc8644afef00b6d0b969d66"), looks := false }, kinds := [], alts := [], laidByText := true, laidKinds := [.data, .data, .pinned], laidTests := true, laidLooks := .later }
def RouteTextCardSaid : Prop := Claim7.holds Tryz.pinned (.plain (OpenSpec.ofChange routeTextSpec)) routeTextCard

/-- THE TIED CARD OF 'flightdecklaw22.RouteDirect'. -/
def routeDirectCard : Claim7 := { stood := { row := routeDirectRow, standIns := [], harness := (true, "7708eefd5a333c1a1ac834d929b8917a405d8ca23fc8644afef00b6d0b969d66"), looks := false }, kinds := [], alts := [], laidByText := true, laidKinds := [.data, .data, .pinned], laidTests := true, laidLooks := .later }
def RouteDirectCardSaid : Prop := Claim7.holds Tryz.pinned (.plain (OpenSpec.ofChange routeDirectSpec)) routeDirectCard

/-- THE SECOND FORM's CARD OF 'flightdecklaw22.RouteParses'. -/
def routeParsesUptoCard : Claim7 := { stood := { row := routeParsesUptoRow, standIns := [], harness := (true, "7708eefd5a333c1a1ac834d929b8917a405d8ca23fc8644afef00b6d0b969d66"), looks := false }, kinds := [], alts := [], laidByText := true, laidKinds := [.data, .data, .pinned], laidTests := true, laidLooks := .later }
def RouteParsesUptoCardSaid : Prop := Claim7.holds Tryz.pinned (.plain (OpenSpec.upto routeParsesSpec)) routeParsesUptoCard

/-- THE SECOND FORM's CARD OF 'flightdecklaw22.RoutePlaces'. -/
def routePlacesUptoCard : Claim7 := { stood := { row := routePlacesUptoRow, standIns := [], harness := (true, "7708eefd5a333c1a1ac834d929b8917a405d8ca23fc8644afef00b6d0b969d66"), looks := false }, kinds := [], alts := [], laidByText := true, laidKinds := [.data, .data, .pinned], laidTests := true, laidLooks := .later }
def RoutePlacesUptoCardSaid : Prop := Claim7.holds Tryz.pinned (.plain (OpenSpec.upto routePlacesSpec)) routePlacesUptoCard

/-- THE SECOND FORM's CARD OF 'flightdecklaw22.RouteExpands'. -/
def routeExpandsUptoCard : Claim7 := { stood := { row := routeExpandsUptoRow, standIns := [], harness := (true, "7708eefd5a333c1a1ac834d929b8917a405d8ca23fc8644afef00b6d0b969d66"), looks := false }, kinds := [], alts := [], laidByText := true, laidKinds := [.data, .data, .pinned], laidTests := true, laidLooks := .later }
def RouteExpandsUptoCardSaid : Prop := Claim7.holds Tryz.pinned (.plain (OpenSpec.upto routeExpandsSpec)) routeExpandsUptoCard

/-- THE SECOND FORM's CARD OF 'flightdecklaw22.RoutePrints'. -/
def routePrintsUptoCard : Claim7 := { stood := { row := routePrintsUptoRow, standIns := [], harness := (true, "7708eefd5a333c1a1ac834d929b8917a405d8ca23fc8644afef00b6d0b969d66"), looks := false }, kinds := [], alts := [], laidByText := true, laidKinds := [.data, .data, .pinned], laidTests := true, laidLooks := .later }
def RoutePrintsUptoCardSaid : Prop := Claim7.holds Tryz.pinned (.plain (OpenSpec.upto routePrintsSpec)) routePrintsUptoCard

/-- THE SECOND FORM's CARD OF 'flightdecklaw22.RouteValid'. -/
def routeValidUptoCard : Claim7 := { stood := { row := routeValidUptoRow, standIns := [], harness := (true, "7708eefd5a333c1a1ac834d929b8917a405d8ca23fc8644afef00b6d0b969d66"), looks := false }, kinds := [], alts := [], laidByText := true, laidKinds := [.data, .data, .pinned], laidTests := true, laidLooks := .later }
def RouteValidUptoCardSaid : Prop := Claim7.holds Tryz.pinned (.plain (OpenSpec.upto routeValidSpec)) routeValidUptoCard

/-- THE SECOND FORM's CARD OF 'flightdecklaw22.RouteText'. -/
def routeTextUptoCard : Claim7 := { stood := { row := routeTextUptoRow, standIns := [], harness := (true, "7708eefd5a333c1a1ac834d929b8917a405d8ca23fc8644afef00b6d0b969d66"), looks := false }, kinds := [], alts := [], laidByText := true, laidKinds := [.data, .data, .pinned], laidTests := true, laidLooks := .later }
def RouteTextUptoCardSaid : Prop := Claim7.holds Tryz.pinned (.plain (OpenSpec.upto routeTextSpec)) routeTextUptoCard

/-- THE SECOND FORM's CARD OF 'flightdecklaw22.RouteDirect'. -/
def routeDirectUptoCard : Claim7 := { stood := { row := routeDirectUptoRow, standIns := [], harness := (true, "7708eefd5a333c1a1ac834d929b8917a405d8ca23fc8644afef00b6d0b969d66"), looks := false }, kinds := [], alts := [], laidByText := true, laidKinds := [.data, .data, .pinned], laidTests := true, laidLooks := .later }
def RouteDirectUptoCardSaid : Prop := Claim7.holds Tryz.pinned (.plain (OpenSpec.upto routeDirectSpec)) routeDirectUptoCard
end Rows
end Go.Proofs.YtgoeedohgomodaaGreatDoor
