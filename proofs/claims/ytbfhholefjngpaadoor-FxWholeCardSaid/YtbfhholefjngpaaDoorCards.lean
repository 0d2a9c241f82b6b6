/-
  DERIVED. GIVEN WITH THE SEED: THE CARDS: each row of YtbfhholefjngpaaDoorRows.lean that lists a variable, with what it lists TIED to the program's text (the seventh form; the later family's looks); each row that meets fmt, with fmt's text TOLD by the authors' own Lean function (tested against real Go, not proved from fmt's source: count such statements apart). THE CARD IS WHAT COUNTS. Prove the row's statement (the work); the ties are given (YtbfhholefjngpaaDoorTie.lean); close each card by the builder's one call (the guide's Derived/Test/ToyasCard.lean, 'card_holds'). Laid BY PROGRAM, IN A SANDBOX (cutbox-door.mjs). By AI agents, Wed Nov 11 2026. No macro, syntax, notation, axiom, sorry.
-/
import Derived.Test.YtbfhholefjngpaaDoorRows
import GoSem.ClaimSeven
namespace Go.Proofs.YtbfhholefjngpaaDoor
namespace Rows

/-- THE TIED CARD OF 'coupletlaw02.FxWhole'. -/
def fxWholeCard : Claim7 := { stood := { row := fxWholeRow, standIns := [], harness := (true, "db1c1834e2f354fa787f90eadfd97fe85479a6a269ffa0197e9c1b7f75cc2301"), looks := false }, kinds := [], alts := [], laidByText := true, laidKinds := [.data, .data, .data, .listed, .data], laidTests := true, laidLooks := .later }
def FxWholeCardSaid : Prop := Claim7.holds Tryd.pinned (.plain (OpenSpec.ofChange fxWholeSpec)) fxWholeCard

/-- THE TIED CARD OF 'coupletlaw02.FxTexts'. -/
def fxTextsCard : Claim7 := { stood := { row := fxTextsRow, standIns := [], harness := (true, "db1c1834e2f354fa787f90eadfd97fe85479a6a269ffa0197e9c1b7f75cc2301"), looks := false }, kinds := [], alts := [], laidByText := true, laidKinds := [.data, .data, .data, .listed, .data], laidTests := true, laidLooks := .later }
def FxTextsCardSaid : Prop := Claim7.holds Tryd.pinned (.plain (OpenSpec.ofChange fxTextsSpec)) fxTextsCard

/-- THE TIED CARD OF 'coupletlaw02.FxProducts'. -/
def fxProductsCard : Claim7 := { stood := { row := fxProductsRow, standIns := [], harness := (true, "db1c1834e2f354fa787f90eadfd97fe85479a6a269ffa0197e9c1b7f75cc2301"), looks := false }, kinds := [], alts := [], laidByText := true, laidKinds := [.data, .data, .data, .listed, .data], laidTests := true, laidLooks := .later }
def FxProductsCardSaid : Prop := Claim7.holds Tryd.pinned (.plain (OpenSpec.ofChange fxProductsSpec)) fxProductsCard

/-- THE TIED CARD OF 'coupletlaw02.FxSums'. -/
def fxSumsCard : Claim7 := { stood := { row := fxSumsRow, standIns := [], harness := (true, "db1c1834e2f354fa787f90eadfd97fe85479a6a269ffa0197e9c1b7f75cc2301"), looks := false }, kinds := [], alts := [], laidByText := true, laidKinds := [.data, .data, .data, .listed, .data], laidTests := true, laidLooks := .later }
def FxSumsCardSaid : Prop := Claim7.holds Tryd.pinned (.plain (OpenSpec.ofChange fxSumsSpec)) fxSumsCard

/-- THE TIED CARD OF 'coupletlaw02.FxBack'. -/
def fxBackCard : Claim7 := { stood := { row := fxBackRow, standIns := [], harness := (true, "db1c1834e2f354fa787f90eadfd97fe85479a6a269ffa0197e9c1b7f75cc2301"), looks := false }, kinds := [], alts := [], laidByText := true, laidKinds := [.data, .data, .data, .listed, .data], laidTests := true, laidLooks := .later }
def FxBackCardSaid : Prop := Claim7.holds Tryd.pinned (.plain (OpenSpec.ofChange fxBackSpec)) fxBackCard

/-- THE TIED CARD OF 'coupletlaw02.FxRoots'. -/
def fxRootsCard : Claim7 := { stood := { row := fxRootsRow, standIns := [], harness := (true, "db1c1834e2f354fa787f90eadfd97fe85479a6a269ffa0197e9c1b7f75cc2301"), looks := false }, kinds := [], alts := [], laidByText := true, laidKinds := [.data, .data, .data, .listed, .data], laidTests := true, laidLooks := .later }
def FxRootsCardSaid : Prop := Claim7.holds Tryd.pinned (.plain (OpenSpec.ofChange fxRootsSpec)) fxRootsCard

/-- THE TIED CARD OF 'coupletlaw02.FxBetween'. -/
def fxBetweenCard : Claim7 := { stood := { row := fxBetweenRow, standIns := [], harness := (true, "db1c1834e2f354fa787f90eadfd97fe85479a6a269ffa0197e9c1b7f75cc2301"), looks := false }, kinds := [], alts := [], laidByText := true, laidKinds := [.data, .data, .data, .listed, .data], laidTests := true, laidLooks := .later }
def FxBetweenCardSaid : Prop := Claim7.holds Tryd.pinned (.plain (OpenSpec.ofChange fxBetweenSpec)) fxBetweenCard

/-- THE TIED CARD OF 'coupletlaw02.FxOrder'. -/
def fxOrderCard : Claim7 := { stood := { row := fxOrderRow, standIns := [], harness := (true, "db1c1834e2f354fa787f90eadfd97fe85479a6a269ffa0197e9c1b7f75cc2301"), looks := false }, kinds := [], alts := [], laidByText := true, laidKinds := [.data, .data, .data, .listed, .data], laidTests := true, laidLooks := .later }
def FxOrderCardSaid : Prop := Claim7.holds Tryd.pinned (.plain (OpenSpec.ofChange fxOrderSpec)) fxOrderCard

/-- THE SECOND FORM's CARD OF 'coupletlaw02.FxWhole'. -/
def fxWholeUptoCard : Claim7 := { stood := { row := fxWholeUptoRow, standIns := [], harness := (true, "db1c1834e2f354fa787f90eadfd97fe85479a6a269ffa0197e9c1b7f75cc2301"), looks := false }, kinds := [], alts := [], laidByText := true, laidKinds := [.data, .data, .data, .listed, .data], laidTests := true, laidLooks := .later }
def FxWholeUptoCardSaid : Prop := Claim7.holds Tryd.pinned (.plain (OpenSpec.upto fxWholeSpec)) fxWholeUptoCard

/-- THE SECOND FORM's CARD OF 'coupletlaw02.FxTexts'. -/
def fxTextsUptoCard : Claim7 := { stood := { row := fxTextsUptoRow, standIns := [], harness := (true, "db1c1834e2f354fa787f90eadfd97fe85479a6a269ffa0197e9c1b7f75cc2301"), looks := false }, kinds := [], alts := [], laidByText := true, laidKinds := [.data, .data, .data, .listed, .data], laidTests := true, laidLooks := .later }
def FxTextsUptoCardSaid : Prop := Claim7.holds Tryd.pinned (.plain (OpenSpec.upto fxTextsSpec)) fxTextsUptoCard

/-- THE SECOND FORM's CARD OF 'coupletlaw02.FxProducts'. -/
def fxProductsUptoCard : Claim7 := { stood := { row := fxProductsUptoRow, standIns := [], harness := (true, "db1c1834e2f354fa787f90eadfd97fe85479a6a269ffa0197e9c1b7f75cc2301"), looks := false }, kinds := [], alts := [], laidByText := true, laidKinds := [.data, .data, .data, .listed, .data], laidTests := true, laidLooks := .later }
def FxProductsUptoCardSaid : Prop := Claim7.holds Tryd.pinned (.plain (OpenSpec.upto fxProductsSpec)) fxProductsUptoCard

/-- THE SECOND FORM's CARD OF 'coupletlaw02.FxSums'. -/
def fxSumsUptoCard : Claim7 := { stood := { row := fxSumsUptoRow, standIns := [], harness := (true, "db1c1834e2f354fa787f90eadfd97fe85479a6a269ffa0197e9c1b7f75cc2301"), looks := false }, kinds := [], alts := [], laidByText := true, laidKinds := [.data, .data, .data, .listed, .data], laidTests := true, laidLooks := .later }
def FxSumsUptoCardSaid : Prop := Claim7.holds Tryd.pinned (.plain (OpenSpec.upto fxSumsSpec)) fxSumsUptoCard

/-- THE SECOND FORM's CARD OF 'coupletlaw02.FxBack'. -/
def fxBackUptoCard : Claim7 := { stood := { row := fxBackUptoRow, standIns := [], harness := (true, "db1c1834e2f354fa787f90eadfd97fe85479a6a269ffa0197e9c1b7f75cc2301"), looks := false }, kinds := [], alts := [], laidByText := true, laidKinds := [.data, .data, .data, .listed, .data], laidTests := true, laidLooks := .later }
def FxBackUptoCardSaid : Prop := Claim7.holds Tryd.pinned (.plain (OpenSpec.upto fxBackSpec)) fxBackUptoCard

/-- THE SECOND FORM's CARD OF 'coupletlaw02.FxRoots'. -/
def fxRootsUptoCard : Claim7 := { stood := { row := fxRootsUptoRow, standIns := [], harness := (true, "db1c1834e2f354fa787f90eadfd97fe85479a6a269ffa0197e9c1b7f75cc2301"), looks := false }, kinds := [], alts := [], laidByText := true, laidKinds := [.data, .data, .data, .listed, .data], laidTests := true, laidLooks := .later }
def FxRootsUptoCardSaid : Prop := Claim7.holds Tryd.pinned (.plain (OpenSpec.upto fxRootsSpec)) fxRootsUptoCard

/-- THE SECOND FORM's CARD OF 'coupletlaw02.FxBetween'. -/
def fxBetweenUptoCard : Claim7 := { stood := { row := fxBetweenUptoRow, standIns := [], harness := (true, "db1c1834e2f354fa787f90eadfd97fe85479a6a269ffa0197e9c1b7f75cc2301"), looks := false }, kinds := [], alts := [], laidByText := true, laidKinds := [.data, .data, .data, .listed, .data], laidTests := true, laidLooks := .later }
def FxBetweenUptoCardSaid : Prop := Claim7.holds Tryd.pinned (.plain (OpenSpec.upto fxBetweenSpec)) fxBetweenUptoCard

/-- THE SECOND FORM's CARD OF 'coupletlaw02.FxOrder'. -/
def fxOrderUptoCard : Claim7 := { stood := { row := fxOrderUptoRow, standIns := [], harness := (true, "db1c1834e2f354fa787f90eadfd97fe85479a6a269ffa0197e9c1b7f75cc2301"), looks := false }, kinds := [], alts := [], laidByText := true, laidKinds := [.data, .data, .data, .listed, .data], laidTests := true, laidLooks := .later }
def FxOrderUptoCardSaid : Prop := Claim7.holds Tryd.pinned (.plain (OpenSpec.upto fxOrderSpec)) fxOrderUptoCard
end Rows
end Go.Proofs.YtbfhholefjngpaaDoor
