/-
  DERIVED. GIVEN WITH THE SEED: THE CARDS: each row of YtlfffpkfipdboaaDoorRows.lean that lists a variable, with what it lists TIED to the program's text (the seventh form; the later family's looks); each row that meets fmt, with fmt's text TOLD by the authors' own Lean function (tested against real Go, not proved from fmt's source: count such statements apart). THE CARD IS WHAT COUNTS. Prove the row's statement (the work); the ties are given (YtlfffpkfipdboaaDoorTie.lean); close each card by the builder's one call (the guide's Derived/Test/ToyasCard.lean, 'card_holds'). Laid BY PROGRAM, IN A SANDBOX (cutbox-door.mjs). By AI agents, Wed Nov 11 2026. No macro, syntax, notation, axiom, sorry.
-/
import Derived.Test.YtlfffpkfipdboaaDoorRows
import GoSem.ClaimSeven
namespace Go.Proofs.YtlfffpkfipdboaaDoor
namespace Rows

/-- THE TIED CARD OF 'coupletlaw20.FlightParses'. -/
def flightParsesCard : Claim7 := { stood := { row := flightParsesRow, standIns := [], harness := (true, "9627bac25d8ebf23b8630a61fda4bfc3243d28b1e64acbb316cf949010993dd6"), looks := true }, kinds := [], alts := [], laidByText := true, laidKinds := [.data, .data, .data, .data, .sentinel, .sentinel, .pinned], laidTests := true, laidLooks := .later }
def FlightParsesCardSaid : Prop := Claim7.holds Tryd.pinned (.plain (OpenSpec.ofChange flightParsesSpec)) flightParsesCard

/-- THE TIED CARD OF 'coupletlaw20.FlightPrints'. -/
def flightPrintsCard : Claim7 := { stood := { row := flightPrintsRow, standIns := [], harness := (true, "9627bac25d8ebf23b8630a61fda4bfc3243d28b1e64acbb316cf949010993dd6"), looks := true }, kinds := [], alts := [], laidByText := true, laidKinds := [.data, .data, .data, .data, .sentinel, .sentinel, .pinned], laidTests := true, laidLooks := .later }
def FlightPrintsCardSaid : Prop := Claim7.holds Tryd.pinned (.plain (OpenSpec.ofChange flightPrintsSpec)) flightPrintsCard

/-- THE TIED CARD OF 'coupletlaw20.FlightLong'. -/
def flightLongCard : Claim7 := { stood := { row := flightLongRow, standIns := [], harness := (true, "9627bac25d8ebf23b8630a61fda4bfc3243d28b1e64acbb316cf949010993dd6"), looks := true }, kinds := [], alts := [], laidByText := true, laidKinds := [.data, .data, .data, .data, .sentinel, .sentinel, .pinned], laidTests := true, laidLooks := .later }
def FlightLongCardSaid : Prop := Claim7.holds Tryd.pinned (.plain (OpenSpec.ofChange flightLongSpec)) flightLongCard

/-- THE TIED CARD OF 'coupletlaw20.FlightBlank'. -/
def flightBlankCard : Claim7 := { stood := { row := flightBlankRow, standIns := [], harness := (true, "9627bac25d8ebf23b8630a61fda4bfc3243d28b1e64acbb316cf949010993dd6"), looks := true }, kinds := [], alts := [], laidByText := true, laidKinds := [.data, .data, .data, .data, .sentinel, .sentinel, .pinned], laidTests := true, laidLooks := .later }
def FlightBlankCardSaid : Prop := Claim7.holds Tryd.pinned (.plain (OpenSpec.ofChange flightBlankSpec)) flightBlankCard

/-- THE SECOND FORM's CARD OF 'coupletlaw20.FlightParses'. -/
def flightParsesUptoCard : Claim7 := { stood := { row := flightParsesUptoRow, standIns := [], harness := (true, "9627bac25d8ebf23b8630a61fda4bfc3243d28b1e64acbb316cf949010993dd6"), looks := true }, kinds := [], alts := [], laidByText := true, laidKinds := [.data, .data, .data, .data, .sentinel, .sentinel, .pinned], laidTests := true, laidLooks := .later }
def FlightParsesUptoCardSaid : Prop := Claim7.holds Tryd.pinned (.plain (OpenSpec.upto flightParsesSpec)) flightParsesUptoCard

/-- THE SECOND FORM's CARD OF 'coupletlaw20.FlightPrints'. -/
def flightPrintsUptoCard : Claim7 := { stood := { row := flightPrintsUptoRow, standIns := [], harness := (true, "9627bac25d8ebf23b8630a61fda4bfc3243d28b1e64acbb316cf949010993dd6"), looks := true }, kinds := [], alts := [], laidByText := true, laidKinds := [.data, .data, .data, .data, .sentinel, .sentinel, .pinned], laidTests := true, laidLooks := .later }
def FlightPrintsUptoCardSaid : Prop := Claim7.holds Tryd.pinned (.plain (OpenSpec.upto flightPrintsSpec)) flightPrintsUptoCard

/-- THE SECOND FORM's CARD OF 'coupletlaw20.FlightLong'. -/
def flightLongUptoCard : Claim7 := { stood := { row := flightLongUptoRow, standIns := [], harness := (true, "9627bac25d8ebf23b8630a61fda4bfc3243d28b1e64acbb316cf949010993dd6"), looks := true }, kinds := [], alts := [], laidByText := true, laidKinds := [.data, .data, .data, .data, .sentinel, .sentinel, .pinned], laidTests := true, laidLooks := .later }
def FlightLongUptoCardSaid : Prop := Claim7.holds Tryd.pinned (.plain (OpenSpec.upto flightLongSpec)) flightLongUptoCard

/-- THE SECOND FORM's CARD OF 'coupletlaw20.FlightBlank'. -/
def flightBlankUptoCard : Claim7 := { stood := { row := flightBlankUptoRow, standIns := [], harness := (true, "9627bac25d8ebf23b8630a61fda4bfc3243d28b1e64acbb316cf949010993dd6"), looks := true }, kinds := [], alts := [], laidByText := true, laidKinds := [.data, .data, .data, .data, .sentinel, .sentinel, .pinned], laidTests := true, laidLooks := .later }
def FlightBlankUptoCardSaid : Prop := Claim7.holds Tryd.pinned (.plain (OpenSpec.upto flightBlankSpec)) flightBlankUptoCard
end Rows
end Go.Proofs.YtlfffpkfipdboaaDoor
