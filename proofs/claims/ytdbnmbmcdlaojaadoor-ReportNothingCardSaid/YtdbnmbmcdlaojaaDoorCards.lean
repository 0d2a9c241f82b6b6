/-
  DERIVED. GIVEN WITH THE SEED: THE CARDS: each row of YtdbnmbmcdlaojaaDoorRows.lean that lists a variable, with what it lists TIED to the program's text (the seventh form; the later family's looks); each row that meets fmt, with fmt's text TOLD by the authors' own Lean function (tested against real Go, not proved from fmt's source: count such statements apart). THE CARD IS WHAT COUNTS. Prove the row's statement (the work); the ties are given (YtdbnmbmcdlaojaaDoorTie.lean); close each card by the builder's one call (the guide's Derived/Test/ToyasCard.lean, 'card_holds'). Laid BY PROGRAM, IN A SANDBOX (cutbox-door.mjs). By AI agents, Wed Nov 11 2026. No macro, syntax, notation, axiom, sorry.
-/
import Derived.Test.YtdbnmbmcdlaojaaDoorRows
import GoSem.ClaimSeven
namespace Go.Proofs.YtdbnmbmcdlaojaaDoor
namespace Rows

/-- THE TIED CARD OF 'coupletlaw18.ReportNothing'. -/
def reportNothingCard : Claim7 := { stood := { row := reportNothingRow, standIns := [], harness := (true, "5f4f87a2e4c88b550f5726fe02c1052f2ae192a5a12650754bc43b445d594d73"), looks := false }, kinds := [], alts := [], laidByText := true, laidKinds := [.data], laidTests := true, laidLooks := .later }
def ReportNothingCardSaid : Prop := Claim7.holds Tryd.pinned (.plain (OpenSpec.ofChange reportNothingSpec)) reportNothingCard

/-- THE SECOND FORM's CARD OF 'coupletlaw18.ReportNothing'. -/
def reportNothingUptoCard : Claim7 := { stood := { row := reportNothingUptoRow, standIns := [], harness := (true, "5f4f87a2e4c88b550f5726fe02c1052f2ae192a5a12650754bc43b445d594d73"), looks := false }, kinds := [], alts := [], laidByText := true, laidKinds := [.data], laidTests := true, laidLooks := .later }
def ReportNothingUptoCardSaid : Prop := Claim7.holds Tryd.pinned (.plain (OpenSpec.upto reportNothingSpec)) reportNothingUptoCard
end Rows
end Go.Proofs.YtdbnmbmcdlaojaaDoor
