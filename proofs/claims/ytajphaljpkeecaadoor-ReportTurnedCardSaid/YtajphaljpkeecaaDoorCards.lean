/-
  DERIVED. GIVEN WITH THE SEED: THE CARDS: each row of YtajphaljpkeecaaDoorRows.lean that lists a variable, with what it lists TIED to the program's text (the seventh form; the later family's looks); each row that meets fmt, with fmt's text TOLD by the authors' own Lean function (tested against real Go, not proved from fmt's source: count such statements apart). THE CARD IS WHAT COUNTS. Prove the row's statement (the work); the ties are given (YtajphaljpkeecaaDoorTie.lean); close each card by the builder's one call (the guide's Derived/Test/ToyasCard.lean, 'card_holds'). Laid BY PROGRAM, IN A SANDBOX (cutbox-door.mjs). By AI agents, Wed Nov 11 2026. No macro, syntax, notation, axiom, sorry.
-/
import Derived.Test.YtajphaljpkeecaaDoorRows
import GoSem.ClaimSeven
namespace Go.Proofs.YtajphaljpkeecaaDoor
namespace Rows

/-- THE TIED CARD OF 'coupletlaw12.FrameEncodes'. -/
def frameEncodesCard : Claim7 := { stood := { row := frameEncodesRow, standIns := [], harness := (true, "b6d8c03616781264e46c06f32f3eb0f600499f0d77c3769dd3c312e239d18a09"), looks := false }, kinds := [], alts := [], laidByText := true, laidKinds := [.data], laidTests := true, laidLooks := .later }
def FrameEncodesCardSaid : Prop := Claim7.holds Tryd.pinned (.plain (OpenSpec.ofChange frameEncodesSpec)) frameEncodesCard

/-- THE TIED CARD OF 'coupletlaw12.FrameDecodes'. -/
def frameDecodesCard : Claim7 := { stood := { row := frameDecodesRow, standIns := [], harness := (true, "b6d8c03616781264e46c06f32f3eb0f600499f0d77c3769dd3c312e239d18a09"), looks := false }, kinds := [], alts := [], laidByText := true, laidKinds := [.data], laidTests := true, laidLooks := .later }
def FrameDecodesCardSaid : Prop := Claim7.holds Tryd.pinned (.plain (OpenSpec.ofChange frameDecodesSpec)) frameDecodesCard

/-- THE TIED CARD OF 'coupletlaw12.FrameRange'. -/
def frameRangeCard : Claim7 := { stood := { row := frameRangeRow, standIns := [], harness := (true, "b6d8c03616781264e46c06f32f3eb0f600499f0d77c3769dd3c312e239d18a09"), looks := false }, kinds := [], alts := [], laidByText := true, laidKinds := [.data], laidTests := true, laidLooks := .later }
def FrameRangeCardSaid : Prop := Claim7.holds Tryd.pinned (.plain (OpenSpec.ofChange frameRangeSpec)) frameRangeCard

/-- THE TIED CARD OF 'coupletlaw12.FrameTurned'. -/
def frameTurnedCard : Claim7 := { stood := { row := frameTurnedRow, standIns := [], harness := (true, "b6d8c03616781264e46c06f32f3eb0f600499f0d77c3769dd3c312e239d18a09"), looks := false }, kinds := [], alts := [], laidByText := true, laidKinds := [.data], laidTests := true, laidLooks := .later }
def FrameTurnedCardSaid : Prop := Claim7.holds Tryd.pinned (.plain (OpenSpec.ofChange frameTurnedSpec)) frameTurnedCard

/-- THE TIED CARD OF 'coupletlaw12.FrameCuts'. -/
def frameCutsCard : Claim7 := { stood := { row := frameCutsRow, standIns := [], harness := (true, "b6d8c03616781264e46c06f32f3eb0f600499f0d77c3769dd3c312e239d18a09"), looks := false }, kinds := [], alts := [], laidByText := true, laidKinds := [.data], laidTests := true, laidLooks := .later }
def FrameCutsCardSaid : Prop := Claim7.holds Tryd.pinned (.plain (OpenSpec.ofChange frameCutsSpec)) frameCutsCard

/-- THE TIED CARD OF 'coupletlaw12.FrameLong'. -/
def frameLongCard : Claim7 := { stood := { row := frameLongRow, standIns := [], harness := (true, "b6d8c03616781264e46c06f32f3eb0f600499f0d77c3769dd3c312e239d18a09"), looks := false }, kinds := [], alts := [], laidByText := true, laidKinds := [.data], laidTests := true, laidLooks := .later }
def FrameLongCardSaid : Prop := Claim7.holds Tryd.pinned (.plain (OpenSpec.ofChange frameLongSpec)) frameLongCard

/-- THE TIED CARD OF 'coupletlaw12.FrameMany'. -/
def frameManyCard : Claim7 := { stood := { row := frameManyRow, standIns := [], harness := (true, "b6d8c03616781264e46c06f32f3eb0f600499f0d77c3769dd3c312e239d18a09"), looks := false }, kinds := [], alts := [], laidByText := true, laidKinds := [.data], laidTests := true, laidLooks := .later }
def FrameManyCardSaid : Prop := Claim7.holds Tryd.pinned (.plain (OpenSpec.ofChange frameManySpec)) frameManyCard

/-- THE TIED CARD OF 'coupletlaw18.ReportEncodes'. -/
def reportEncodesCard : Claim7 := { stood := { row := reportEncodesRow, standIns := [], harness := (true, "b6d8c03616781264e46c06f32f3eb0f600499f0d77c3769dd3c312e239d18a09"), looks := false }, kinds := [], alts := [], laidByText := true, laidKinds := [.data], laidTests := true, laidLooks := .later }
def ReportEncodesCardSaid : Prop := Claim7.holds Tryd.pinned (.plain (OpenSpec.ofChange reportEncodesSpec)) reportEncodesCard

/-- THE TIED CARD OF 'coupletlaw18.ReportDecodes'. -/
def reportDecodesCard : Claim7 := { stood := { row := reportDecodesRow, standIns := [], harness := (true, "b6d8c03616781264e46c06f32f3eb0f600499f0d77c3769dd3c312e239d18a09"), looks := false }, kinds := [], alts := [], laidByText := true, laidKinds := [.data], laidTests := true, laidLooks := .later }
def ReportDecodesCardSaid : Prop := Claim7.holds Tryd.pinned (.plain (OpenSpec.ofChange reportDecodesSpec)) reportDecodesCard

/-- THE TIED CARD OF 'coupletlaw18.ReportTurned'. -/
def reportTurnedCard : Claim7 := { stood := { row := reportTurnedRow, standIns := [], harness := (true, "b6d8c03616781264e46c06f32f3eb0f600499f0d77c3769dd3c312e239d18a09"), looks := false }, kinds := [], alts := [], laidByText := true, laidKinds := [.data], laidTests := true, laidLooks := .later }
def ReportTurnedCardSaid : Prop := Claim7.holds Tryd.pinned (.plain (OpenSpec.ofChange reportTurnedSpec)) reportTurnedCard

/-- THE TIED CARD OF 'coupletlaw18.ReportLong'. -/
def reportLongCard : Claim7 := { stood := { row := reportLongRow, standIns := [], harness := (true, "b6d8c03616781264e46c06f32f3eb0f600499f0d77c3769dd3c312e239d18a09"), looks := false }, kinds := [], alts := [], laidByText := true, laidKinds := [.data], laidTests := true, laidLooks := .later }
def ReportLongCardSaid : Prop := Claim7.holds Tryd.pinned (.plain (OpenSpec.ofChange reportLongSpec)) reportLongCard

/-- THE TIED CARD OF 'coupletlaw13.ScanFinds'. -/
def scanFindsCard : Claim7 := { stood := { row := scanFindsRow, standIns := [], harness := (true, "b6d8c03616781264e46c06f32f3eb0f600499f0d77c3769dd3c312e239d18a09"), looks := false }, kinds := [], alts := [], laidByText := true, laidKinds := [.data], laidTests := true, laidLooks := .later }
def ScanFindsCardSaid : Prop := Claim7.holds Tryd.pinned (.plain (OpenSpec.ofChange scanFindsSpec)) scanFindsCard

/-- THE TIED CARD OF 'coupletlaw13.ScanJoins'. -/
def scanJoinsCard : Claim7 := { stood := { row := scanJoinsRow, standIns := [], harness := (true, "b6d8c03616781264e46c06f32f3eb0f600499f0d77c3769dd3c312e239d18a09"), looks := false }, kinds := [], alts := [], laidByText := true, laidKinds := [.data], laidTests := true, laidLooks := .later }
def ScanJoinsCardSaid : Prop := Claim7.holds Tryd.pinned (.plain (OpenSpec.ofChange scanJoinsSpec)) scanJoinsCard

/-- THE TIED CARD OF 'coupletlaw13.ScanStops'. -/
def scanStopsCard : Claim7 := { stood := { row := scanStopsRow, standIns := [], harness := (true, "b6d8c03616781264e46c06f32f3eb0f600499f0d77c3769dd3c312e239d18a09"), looks := false }, kinds := [], alts := [], laidByText := true, laidKinds := [.data], laidTests := true, laidLooks := .later }
def ScanStopsCardSaid : Prop := Claim7.holds Tryd.pinned (.plain (OpenSpec.ofChange scanStopsSpec)) scanStopsCard

/-- THE TIED CARD OF 'coupletlaw13.ScanNoise'. -/
def scanNoiseCard : Claim7 := { stood := { row := scanNoiseRow, standIns := [], harness := (true, "b6d8c03616781264e46c06f32f3eb0f600499f0d77c3769dd3c312e239d18a09"), looks := false }, kinds := [], alts := [], laidByText := true, laidKinds := [.data], laidTests := true, laidLooks := .later }
def ScanNoiseCardSaid : Prop := Claim7.holds Tryd.pinned (.plain (OpenSpec.ofChange scanNoiseSpec)) scanNoiseCard

/-- THE TIED CARD OF 'coupletlaw13.ScanTwo'. -/
def scanTwoCard : Claim7 := { stood := { row := scanTwoRow, standIns := [], harness := (true, "b6d8c03616781264e46c06f32f3eb0f600499f0d77c3769dd3c312e239d18a09"), looks := false }, kinds := [], alts := [], laidByText := true, laidKinds := [.data], laidTests := true, laidLooks := .later }
def ScanTwoCardSaid : Prop := Claim7.holds Tryd.pinned (.plain (OpenSpec.ofChange scanTwoSpec)) scanTwoCard

/-- THE TIED CARD OF 'coupletlaw13.ScanNone'. -/
def scanNoneCard : Claim7 := { stood := { row := scanNoneRow, standIns := [], harness := (true, "b6d8c03616781264e46c06f32f3eb0f600499f0d77c3769dd3c312e239d18a09"), looks := false }, kinds := [], alts := [], laidByText := true, laidKinds := [.data], laidTests := true, laidLooks := .later }
def ScanNoneCardSaid : Prop := Claim7.holds Tryd.pinned (.plain (OpenSpec.ofChange scanNoneSpec)) scanNoneCard

/-- THE SECOND FORM's CARD OF 'coupletlaw12.FrameEncodes'. -/
def frameEncodesUptoCard : Claim7 := { stood := { row := frameEncodesUptoRow, standIns := [], harness := (true, "b6d8c03616781264e46c06f32f3eb0f600499f0d77c3769dd3c312e239d18a09"), looks := false }, kinds := [], alts := [], laidByText := true, laidKinds := [.data], laidTests := true, laidLooks := .later }
def FrameEncodesUptoCardSaid : Prop := Claim7.holds Tryd.pinned (.plain (OpenSpec.upto frameEncodesSpec)) frameEncodesUptoCard

/-- THE SECOND FORM's CARD OF 'coupletlaw12.FrameDecodes'. -/
def frameDecodesUptoCard : Claim7 := { stood := { row := frameDecodesUptoRow, standIns := [], harness := (true, "b6d8c03616781264e46c06f32f3eb0f600499f0d77c3769dd3c312e239d18a09"), looks := false }, kinds := [], alts := [], laidByText := true, laidKinds := [.data], laidTests := true, laidLooks := .later }
def FrameDecodesUptoCardSaid : Prop := Claim7.holds Tryd.pinned (.plain (OpenSpec.upto frameDecodesSpec)) frameDecodesUptoCard

/-- THE SECOND FORM's CARD OF 'coupletlaw12.FrameRange'. -/
def frameRangeUptoCard : Claim7 := { stood := { row := frameRangeUptoRow, standIns := [], harness := (true, "b6d8c03616781264e46c06f32f3eb0f600499f0d77c3769dd3c312e239d18a09"), looks := false }, kinds := [], alts := [], laidByText := true, laidKinds := [.data], laidTests := true, laidLooks := .later }
def FrameRangeUptoCardSaid : Prop := Claim7.holds Tryd.pinned (.plain (OpenSpec.upto frameRangeSpec)) frameRangeUptoCard

/-- THE SECOND FORM's CARD OF 'coupletlaw12.FrameTurned'. -/
def frameTurnedUptoCard : Claim7 := { stood := { row := frameTurnedUptoRow, standIns := [], harness := (true, "b6d8c03616781264e46c06f32f3eb0f600499f0d77c3769dd3c312e239d18a09"), looks := false }, kinds := [], alts := [], laidByText := true, laidKinds := [.data], laidTests := true, laidLooks := .later }
def FrameTurnedUptoCardSaid : Prop := Claim7.holds Tryd.pinned (.plain (OpenSpec.upto frameTurnedSpec)) frameTurnedUptoCard

/-- THE SECOND FORM's CARD OF 'coupletlaw12.FrameCuts'. -/
def frameCutsUptoCard : Claim7 := { stood := { row := frameCutsUptoRow, standIns := [], harness := (true, "b6d8c03616781264e46c06f32f3eb0f600499f0d77c3769dd3c312e239d18a09"), looks := false }, kinds := [], alts := [], laidByText := true, laidKinds := [.data], laidTests := true, laidLooks := .later }
def FrameCutsUptoCardSaid : Prop := Claim7.holds Tryd.pinned (.plain (OpenSpec.upto frameCutsSpec)) frameCutsUptoCard

/-- THE SECOND FORM's CARD OF 'coupletlaw12.FrameLong'. -/
def frameLongUptoCard : Claim7 := { stood := { row := frameLongUptoRow, standIns := [], harness := (true, "b6d8c03616781264e46c06f32f3eb0f600499f0d77c3769dd3c312e239d18a09"), looks := false }, kinds := [], alts := [], laidByText := true, laidKinds := [.data], laidTests := true, laidLooks := .later }
def FrameLongUptoCardSaid : Prop := Claim7.holds Tryd.pinned (.plain (OpenSpec.upto frameLongSpec)) frameLongUptoCard

/-- THE SECOND FORM's CARD OF 'coupletlaw12.FrameMany'. -/
def frameManyUptoCard : Claim7 := { stood := { row := frameManyUptoRow, standIns := [], harness := (true, "b6d8c03616781264e46c06f32f3eb0f600499f0d77c3769dd3c312e239d18a09"), looks := false }, kinds := [], alts := [], laidByText := true, laidKinds := [.data], laidTests := true, laidLooks := .later }
def FrameManyUptoCardSaid : Prop := Claim7.holds Tryd.pinned (.plain (OpenSpec.upto frameManySpec)) frameManyUptoCard

/-- THE SECOND FORM's CARD OF 'coupletlaw18.ReportEncodes'. -/
def reportEncodesUptoCard : Claim7 := { stood := { row := reportEncodesUptoRow, standIns := [], harness := (true, "b6d8c03616781264e46c06f32f3eb0f600499f0d77c3769dd3c312e239d18a09"), looks := false }, kinds := [], alts := [], laidByText := true, laidKinds := [.data], laidTests := true, laidLooks := .later }
def ReportEncodesUptoCardSaid : Prop := Claim7.holds Tryd.pinned (.plain (OpenSpec.upto reportEncodesSpec)) reportEncodesUptoCard

/-- THE SECOND FORM's CARD OF 'coupletlaw18.ReportDecodes'. -/
def reportDecodesUptoCard : Claim7 := { stood := { row := reportDecodesUptoRow, standIns := [], harness := (true, "b6d8c03616781264e46c06f32f3eb0f600499f0d77c3769dd3c312e239d18a09"), looks := false }, kinds := [], alts := [], laidByText := true, laidKinds := [.data], laidTests := true, laidLooks := .later }
def ReportDecodesUptoCardSaid : Prop := Claim7.holds Tryd.pinned (.plain (OpenSpec.upto reportDecodesSpec)) reportDecodesUptoCard

/-- THE SECOND FORM's CARD OF 'coupletlaw18.ReportTurned'. -/
def reportTurnedUptoCard : Claim7 := { stood := { row := reportTurnedUptoRow, standIns := [], harness := (true, "b6d8c03616781264e46c06f32f3eb0f600499f0d77c3769dd3c312e239d18a09"), looks := false }, kinds := [], alts := [], laidByText := true, laidKinds := [.data], laidTests := true, laidLooks := .later }
def ReportTurnedUptoCardSaid : Prop := Claim7.holds Tryd.pinned (.plain (OpenSpec.upto reportTurnedSpec)) reportTurnedUptoCard

/-- THE SECOND FORM's CARD OF 'coupletlaw18.ReportLong'. -/
def reportLongUptoCard : Claim7 := { stood := { row := reportLongUptoRow, standIns := [], harness := (true, "b6d8c03616781264e46c06f32f3eb0f600499f0d77c3769dd3c312e239d18a09"), looks := false }, kinds := [], alts := [], laidByText := true, laidKinds := [.data], laidTests := true, laidLooks := .later }
def ReportLongUptoCardSaid : Prop := Claim7.holds Tryd.pinned (.plain (OpenSpec.upto reportLongSpec)) reportLongUptoCard

/-- THE SECOND FORM's CARD OF 'coupletlaw13.ScanFinds'. -/
def scanFindsUptoCard : Claim7 := { stood := { row := scanFindsUptoRow, standIns := [], harness := (true, "b6d8c03616781264e46c06f32f3eb0f600499f0d77c3769dd3c312e239d18a09"), looks := false }, kinds := [], alts := [], laidByText := true, laidKinds := [.data], laidTests := true, laidLooks := .later }
def ScanFindsUptoCardSaid : Prop := Claim7.holds Tryd.pinned (.plain (OpenSpec.upto scanFindsSpec)) scanFindsUptoCard

/-- THE SECOND FORM's CARD OF 'coupletlaw13.ScanJoins'. -/
def scanJoinsUptoCard : Claim7 := { stood := { row := scanJoinsUptoRow, standIns := [], harness := (true, "b6d8c03616781264e46c06f32f3eb0f600499f0d77c3769dd3c312e239d18a09"), looks := false }, kinds := [], alts := [], laidByText := true, laidKinds := [.data], laidTests := true, laidLooks := .later }
def ScanJoinsUptoCardSaid : Prop := Claim7.holds Tryd.pinned (.plain (OpenSpec.upto scanJoinsSpec)) scanJoinsUptoCard

/-- THE SECOND FORM's CARD OF 'coupletlaw13.ScanStops'. -/
def scanStopsUptoCard : Claim7 := { stood := { row := scanStopsUptoRow, standIns := [], harness := (true, "b6d8c03616781264e46c06f32f3eb0f600499f0d77c3769dd3c312e239d18a09"), looks := false }, kinds := [], alts := [], laidByText := true, laidKinds := [.data], laidTests := true, laidLooks := .later }
def ScanStopsUptoCardSaid : Prop := Claim7.holds Tryd.pinned (.plain (OpenSpec.upto scanStopsSpec)) scanStopsUptoCard

/-- THE SECOND FORM's CARD OF 'coupletlaw13.ScanNoise'. -/
def scanNoiseUptoCard : Claim7 := { stood := { row := scanNoiseUptoRow, standIns := [], harness := (true, "b6d8c03616781264e46c06f32f3eb0f600499f0d77c3769dd3c312e239d18a09"), looks := false }, kinds := [], alts := [], laidByText := true, laidKinds := [.data], laidTests := true, laidLooks := .later }
def ScanNoiseUptoCardSaid : Prop := Claim7.holds Tryd.pinned (.plain (OpenSpec.upto scanNoiseSpec)) scanNoiseUptoCard

/-- THE SECOND FORM's CARD OF 'coupletlaw13.ScanTwo'. -/
def scanTwoUptoCard : Claim7 := { stood := { row := scanTwoUptoRow, standIns := [], harness := (true, "b6d8c03616781264e46c06f32f3eb0f600499f0d77c3769dd3c312e239d18a09"), looks := false }, kinds := [], alts := [], laidByText := true, laidKinds := [.data], laidTests := true, laidLooks := .later }
def ScanTwoUptoCardSaid : Prop := Claim7.holds Tryd.pinned (.plain (OpenSpec.upto scanTwoSpec)) scanTwoUptoCard

/-- THE SECOND FORM's CARD OF 'coupletlaw13.ScanNone'. -/
def scanNoneUptoCard : Claim7 := { stood := { row := scanNoneUptoRow, standIns := [], harness := (true, "b6d8c03616781264e46c06f32f3eb0f600499f0d77c3769dd3c312e239d18a09"), looks := false }, kinds := [], alts := [], laidByText := true, laidKinds := [.data], laidTests := true, laidLooks := .later }
def ScanNoneUptoCardSaid : Prop := Claim7.holds Tryd.pinned (.plain (OpenSpec.upto scanNoneSpec)) scanNoneUptoCard
end Rows
end Go.Proofs.YtajphaljpkeecaaDoor
