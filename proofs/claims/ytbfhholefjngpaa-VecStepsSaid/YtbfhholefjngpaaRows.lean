/-
  No cell of these rows narrows 'for every input' (looked for: loops, veiled, ifaces, maps, wideKeys, modest, calm, conditions, laid).
  DERIVED. THE GIVEN ROWS OF THIS SEAT. 21 by the template 'for every input the law returns true; each argument reads behind the call as it read before'; 0 by the template 'total and deterministic' (their statements: YtbfhholefjngpaaTotals.lean).
  GIVEN WITH THE SEED: the statements are not yours to turn. If you find one false, say at which input.
  Laid BY PROGRAM, IN A SANDBOX (cutbox-rows.mjs): the forced cells as the released guide's own fill.sh prints them over the translation 49628a15818bcc37… (all of the seat's roots in one cut). By AI agents, Wed Nov 11 2026. No macro, syntax, notation, axiom, sorry.
-/
import Derived.Test.YtbfhholefjngpaaChecked
import GoSem.Claim
import GoSem.ClaimJoined
import GoSem.ClaimMapViews
import Derived.JoinedTies
import Derived.KernelRfl
namespace Go.Proofs.Ytbfhholefjngpaa
/- THE CELL 'sum', in the pinned program and in every row, IS THE sha256 OF THE DUMP (.gsa) THAT YtbfhholefjngpaaProg.lean LOADS. Nothing in Lean hashes anything: it is a label: what it is worth is what the hold of that sum in a sandbox is worth. -/
noncomputable def Try.pinned : Pinned := { name := "ytbfhholefjngpaa", sum := "49628a15818bcc37c4909d4e51f252f1fa55e0e23c8165b380ab370f8f63c562", checked := Try.checked }
namespace Rows
def none {H : Type} : Left H := { results := [], args := [] }

/-- 'coupletlaw01.WideDivides': WHATEVER THE INPUT: true; the input reads as it did. -/
def wideDividesSpec : ChangeSpec := { name := "wideDivides", fn := fun _ => fun
  | [d1, d2, d3, d4] => { results := [.lit (.bool true)], args := [d1, d2, d3, d4] }
  | _ => none }
def wideDividesRow : OpenClaim := { program := "ytbfhholefjngpaa", sum := "49628a15818bcc37c4909d4e51f252f1fa55e0e23c8165b380ab370f8f63c562", func := "couplet/coupletlaw01.WideDivides", spec := "wideDivides", unfollowed := true, recurses := true, named := ["math/bits.divideError", "math/bits.overflowError"], apart := false }
def WideDividesSaid : Prop := wideDividesRow.holds Try.pinned (OpenSpec.ofChange wideDividesSpec)

/-- ITS FALSE NEIGHBOUR: 'it returns false'. Refute it at one input. -/
def wideDividesWrong : ChangeSpec := { name := "wideDivides", fn := fun _ => fun
  | [d1, d2, d3, d4] => { results := [.lit (.bool false)], args := [d1, d2, d3, d4] }
  | _ => none }
def WideDividesWrongFalsely : Prop := wideDividesRow.holds Try.pinned (OpenSpec.ofChange wideDividesWrong)

/-- 'coupletlaw01.WideCompares': WHATEVER THE INPUT: true; the input reads as it did. -/
def wideComparesSpec : ChangeSpec := { name := "wideCompares", fn := fun _ => fun
  | [d1, d2, d3, d4] => { results := [.lit (.bool true)], args := [d1, d2, d3, d4] }
  | _ => none }
def wideComparesRow : OpenClaim := { program := "ytbfhholefjngpaa", sum := "49628a15818bcc37c4909d4e51f252f1fa55e0e23c8165b380ab370f8f63c562", func := "couplet/coupletlaw01.WideCompares", spec := "wideCompares", unfollowed := true, recurses := true, named := ["math/bits.divideError", "math/bits.overflowError"], apart := false }
def WideComparesSaid : Prop := wideComparesRow.holds Try.pinned (OpenSpec.ofChange wideComparesSpec)

/-- ITS FALSE NEIGHBOUR: 'it returns false'. Refute it at one input. -/
def wideComparesWrong : ChangeSpec := { name := "wideCompares", fn := fun _ => fun
  | [d1, d2, d3, d4] => { results := [.lit (.bool false)], args := [d1, d2, d3, d4] }
  | _ => none }
def WideComparesWrongFalsely : Prop := wideComparesRow.holds Try.pinned (OpenSpec.ofChange wideComparesWrong)

/-- 'coupletlaw01.WideRoots': WHATEVER THE INPUT: true; the input reads as it did. -/
def wideRootsSpec : ChangeSpec := { name := "wideRoots", fn := fun _ => fun
  | [d1, d2] => { results := [.lit (.bool true)], args := [d1, d2] }
  | _ => none }
def wideRootsRow : OpenClaim := { program := "ytbfhholefjngpaa", sum := "49628a15818bcc37c4909d4e51f252f1fa55e0e23c8165b380ab370f8f63c562", func := "couplet/coupletlaw01.WideRoots", spec := "wideRoots", unfollowed := true, recurses := true, named := ["math/bits.divideError", "math/bits.overflowError"], apart := false }
def WideRootsSaid : Prop := wideRootsRow.holds Try.pinned (OpenSpec.ofChange wideRootsSpec)

/-- ITS FALSE NEIGHBOUR: 'it returns false'. Refute it at one input. -/
def wideRootsWrong : ChangeSpec := { name := "wideRoots", fn := fun _ => fun
  | [d1, d2] => { results := [.lit (.bool false)], args := [d1, d2] }
  | _ => none }
def WideRootsWrongFalsely : Prop := wideRootsRow.holds Try.pinned (OpenSpec.ofChange wideRootsWrong)

/-- 'coupletlaw01.WideNearest': WHATEVER THE INPUT: true; the input reads as it did. -/
def wideNearestSpec : ChangeSpec := { name := "wideNearest", fn := fun _ => fun
  | [d1, d2] => { results := [.lit (.bool true)], args := [d1, d2] }
  | _ => none }
def wideNearestRow : OpenClaim := { program := "ytbfhholefjngpaa", sum := "49628a15818bcc37c4909d4e51f252f1fa55e0e23c8165b380ab370f8f63c562", func := "couplet/coupletlaw01.WideNearest", spec := "wideNearest", unfollowed := true, recurses := true, named := ["math/bits.divideError", "math/bits.overflowError"], apart := false }
def WideNearestSaid : Prop := wideNearestRow.holds Try.pinned (OpenSpec.ofChange wideNearestSpec)

/-- ITS FALSE NEIGHBOUR: 'it returns false'. Refute it at one input. -/
def wideNearestWrong : ChangeSpec := { name := "wideNearest", fn := fun _ => fun
  | [d1, d2] => { results := [.lit (.bool false)], args := [d1, d2] }
  | _ => none }
def WideNearestWrongFalsely : Prop := wideNearestRow.holds Try.pinned (OpenSpec.ofChange wideNearestWrong)

/-- 'coupletlaw01.WideModes': WHATEVER THE INPUT: true; the input reads as it did. -/
def wideModesSpec : ChangeSpec := { name := "wideModes", fn := fun _ => fun
  | [d1, d2, d3, d4] => { results := [.lit (.bool true)], args := [d1, d2, d3, d4] }
  | _ => none }
def wideModesRow : OpenClaim := { program := "ytbfhholefjngpaa", sum := "49628a15818bcc37c4909d4e51f252f1fa55e0e23c8165b380ab370f8f63c562", func := "couplet/coupletlaw01.WideModes", spec := "wideModes", unfollowed := true, recurses := true, named := ["math/bits.divideError", "math/bits.overflowError"], apart := false }
def WideModesSaid : Prop := wideModesRow.holds Try.pinned (OpenSpec.ofChange wideModesSpec)

/-- ITS FALSE NEIGHBOUR: 'it returns false'. Refute it at one input. -/
def wideModesWrong : ChangeSpec := { name := "wideModes", fn := fun _ => fun
  | [d1, d2, d3, d4] => { results := [.lit (.bool false)], args := [d1, d2, d3, d4] }
  | _ => none }
def WideModesWrongFalsely : Prop := wideModesRow.holds Try.pinned (OpenSpec.ofChange wideModesWrong)

/-- 'coupletlaw01.WideBack': WHATEVER THE INPUT: true; the input reads as it did. -/
def wideBackSpec : ChangeSpec := { name := "wideBack", fn := fun _ => fun
  | [d1, d2, d3] => { results := [.lit (.bool true)], args := [d1, d2, d3] }
  | _ => none }
def wideBackRow : OpenClaim := { program := "ytbfhholefjngpaa", sum := "49628a15818bcc37c4909d4e51f252f1fa55e0e23c8165b380ab370f8f63c562", func := "couplet/coupletlaw01.WideBack", spec := "wideBack", unfollowed := true, recurses := true, named := ["math/bits.divideError", "math/bits.overflowError"], apart := false }
def WideBackSaid : Prop := wideBackRow.holds Try.pinned (OpenSpec.ofChange wideBackSpec)

/-- ITS FALSE NEIGHBOUR: 'it returns false'. Refute it at one input. -/
def wideBackWrong : ChangeSpec := { name := "wideBack", fn := fun _ => fun
  | [d1, d2, d3] => { results := [.lit (.bool false)], args := [d1, d2, d3] }
  | _ => none }
def WideBackWrongFalsely : Prop := wideBackRow.holds Try.pinned (OpenSpec.ofChange wideBackWrong)

/-- 'coupletlaw01.WideSigns': WHATEVER THE INPUT: true; the input reads as it did. -/
def wideSignsSpec : ChangeSpec := { name := "wideSigns", fn := fun _ => fun
  | [d1, d2, d3] => { results := [.lit (.bool true)], args := [d1, d2, d3] }
  | _ => none }
def wideSignsRow : OpenClaim := { program := "ytbfhholefjngpaa", sum := "49628a15818bcc37c4909d4e51f252f1fa55e0e23c8165b380ab370f8f63c562", func := "couplet/coupletlaw01.WideSigns", spec := "wideSigns", unfollowed := true, recurses := true, named := ["math/bits.divideError", "math/bits.overflowError"], apart := false }
def WideSignsSaid : Prop := wideSignsRow.holds Try.pinned (OpenSpec.ofChange wideSignsSpec)

/-- ITS FALSE NEIGHBOUR: 'it returns false'. Refute it at one input. -/
def wideSignsWrong : ChangeSpec := { name := "wideSigns", fn := fun _ => fun
  | [d1, d2, d3] => { results := [.lit (.bool false)], args := [d1, d2, d3] }
  | _ => none }
def WideSignsWrongFalsely : Prop := wideSignsRow.holds Try.pinned (OpenSpec.ofChange wideSignsWrong)

/-- 'coupletlaw01.WideSquares': WHATEVER THE INPUT: true; the input reads as it did. -/
def wideSquaresSpec : ChangeSpec := { name := "wideSquares", fn := fun _ => fun
  | [d] => { results := [.lit (.bool true)], args := [d] }
  | _ => none }
def wideSquaresRow : OpenClaim := { program := "ytbfhholefjngpaa", sum := "49628a15818bcc37c4909d4e51f252f1fa55e0e23c8165b380ab370f8f63c562", func := "couplet/coupletlaw01.WideSquares", spec := "wideSquares", unfollowed := true, recurses := true, named := ["math/bits.divideError", "math/bits.overflowError"], apart := false }
def WideSquaresSaid : Prop := wideSquaresRow.holds Try.pinned (OpenSpec.ofChange wideSquaresSpec)

/-- ITS FALSE NEIGHBOUR: 'it returns false'. Refute it at one input. -/
def wideSquaresWrong : ChangeSpec := { name := "wideSquares", fn := fun _ => fun
  | [d] => { results := [.lit (.bool false)], args := [d] }
  | _ => none }
def WideSquaresWrongFalsely : Prop := wideSquaresRow.holds Try.pinned (OpenSpec.ofChange wideSquaresWrong)

/-- 'coupletlaw03.EnvTells': WHATEVER THE INPUT: true; the input reads as it did. -/
def envTellsSpec : ChangeSpec := { name := "envTells", fn := fun _ => fun
  | [d1, d2] => { results := [.lit (.bool true)], args := [d1, d2] }
  | _ => none }
def envTellsRow : OpenClaim := { program := "ytbfhholefjngpaa", sum := "49628a15818bcc37c4909d4e51f252f1fa55e0e23c8165b380ab370f8f63c562", func := "couplet/coupletlaw03.EnvTells", spec := "envTells", unfollowed := true, recurses := true, named := ["math/bits.divideError", "math/bits.overflowError"], apart := false }
def EnvTellsSaid : Prop := envTellsRow.holds Try.pinned (OpenSpec.ofChange envTellsSpec)

/-- ITS FALSE NEIGHBOUR: 'it returns false'. Refute it at one input. -/
def envTellsWrong : ChangeSpec := { name := "envTells", fn := fun _ => fun
  | [d1, d2] => { results := [.lit (.bool false)], args := [d1, d2] }
  | _ => none }
def EnvTellsWrongFalsely : Prop := envTellsRow.holds Try.pinned (OpenSpec.ofChange envTellsWrong)

/-- 'coupletlaw03.EnvOrder': WHATEVER THE INPUT: true; the input reads as it did. -/
def envOrderSpec : ChangeSpec := { name := "envOrder", fn := fun _ => fun
  | [d1, d2] => { results := [.lit (.bool true)], args := [d1, d2] }
  | _ => none }
def envOrderRow : OpenClaim := { program := "ytbfhholefjngpaa", sum := "49628a15818bcc37c4909d4e51f252f1fa55e0e23c8165b380ab370f8f63c562", func := "couplet/coupletlaw03.EnvOrder", spec := "envOrder", unfollowed := true, recurses := true, named := ["math/bits.divideError", "math/bits.overflowError"], apart := false }
def EnvOrderSaid : Prop := envOrderRow.holds Try.pinned (OpenSpec.ofChange envOrderSpec)

/-- ITS FALSE NEIGHBOUR: 'it returns false'. Refute it at one input. -/
def envOrderWrong : ChangeSpec := { name := "envOrder", fn := fun _ => fun
  | [d1, d2] => { results := [.lit (.bool false)], args := [d1, d2] }
  | _ => none }
def EnvOrderWrongFalsely : Prop := envOrderRow.holds Try.pinned (OpenSpec.ofChange envOrderWrong)

/-- 'coupletlaw03.EnvExact': WHATEVER THE INPUT: true; the input reads as it did. -/
def envExactSpec : ChangeSpec := { name := "envExact", fn := fun _ => fun
  | [d1, d2] => { results := [.lit (.bool true)], args := [d1, d2] }
  | _ => none }
def envExactRow : OpenClaim := { program := "ytbfhholefjngpaa", sum := "49628a15818bcc37c4909d4e51f252f1fa55e0e23c8165b380ab370f8f63c562", func := "couplet/coupletlaw03.EnvExact", spec := "envExact", unfollowed := true, recurses := true, named := ["math/bits.divideError", "math/bits.overflowError"], apart := false }
def EnvExactSaid : Prop := envExactRow.holds Try.pinned (OpenSpec.ofChange envExactSpec)

/-- ITS FALSE NEIGHBOUR: 'it returns false'. Refute it at one input. -/
def envExactWrong : ChangeSpec := { name := "envExact", fn := fun _ => fun
  | [d1, d2] => { results := [.lit (.bool false)], args := [d1, d2] }
  | _ => none }
def EnvExactWrongFalsely : Prop := envExactRow.holds Try.pinned (OpenSpec.ofChange envExactWrong)

/-- 'coupletlaw05.VecSteps': WHATEVER THE INPUT: true; the input reads as it did. -/
def vecStepsSpec : ChangeSpec := { name := "vecSteps", fn := fun _ => fun
  | [d1, d2] => { results := [.lit (.bool true)], args := [d1, d2] }
  | _ => none }
def vecStepsRow : OpenClaim := { program := "ytbfhholefjngpaa", sum := "49628a15818bcc37c4909d4e51f252f1fa55e0e23c8165b380ab370f8f63c562", func := "couplet/coupletlaw05.VecSteps", spec := "vecSteps", unfollowed := true, recurses := true, apart := false }
def VecStepsSaid : Prop := vecStepsRow.holds Try.pinned (OpenSpec.ofChange vecStepsSpec)

/-- ITS FALSE NEIGHBOUR: 'it returns false'. Refute it at one input. -/
def vecStepsWrong : ChangeSpec := { name := "vecSteps", fn := fun _ => fun
  | [d1, d2] => { results := [.lit (.bool false)], args := [d1, d2] }
  | _ => none }
def VecStepsWrongFalsely : Prop := vecStepsRow.holds Try.pinned (OpenSpec.ofChange vecStepsWrong)

/-- 'coupletlaw05.VecPairs': WHATEVER THE INPUT: true; the input reads as it did. -/
def vecPairsSpec : ChangeSpec := { name := "vecPairs", fn := fun _ => fun
  | [d1, d2, d3] => { results := [.lit (.bool true)], args := [d1, d2, d3] }
  | _ => none }
def vecPairsRow : OpenClaim := { program := "ytbfhholefjngpaa", sum := "49628a15818bcc37c4909d4e51f252f1fa55e0e23c8165b380ab370f8f63c562", func := "couplet/coupletlaw05.VecPairs", spec := "vecPairs", unfollowed := true, recurses := true, apart := false }
def VecPairsSaid : Prop := vecPairsRow.holds Try.pinned (OpenSpec.ofChange vecPairsSpec)

/-- ITS FALSE NEIGHBOUR: 'it returns false'. Refute it at one input. -/
def vecPairsWrong : ChangeSpec := { name := "vecPairs", fn := fun _ => fun
  | [d1, d2, d3] => { results := [.lit (.bool false)], args := [d1, d2, d3] }
  | _ => none }
def VecPairsWrongFalsely : Prop := vecPairsRow.holds Try.pinned (OpenSpec.ofChange vecPairsWrong)

/-- 'coupletlaw05.VecSplits': WHATEVER THE INPUT: true; the input reads as it did. -/
def vecSplitsSpec : ChangeSpec := { name := "vecSplits", fn := fun _ => fun
  | [d1, d2] => { results := [.lit (.bool true)], args := [d1, d2] }
  | _ => none }
def vecSplitsRow : OpenClaim := { program := "ytbfhholefjngpaa", sum := "49628a15818bcc37c4909d4e51f252f1fa55e0e23c8165b380ab370f8f63c562", func := "couplet/coupletlaw05.VecSplits", spec := "vecSplits", unfollowed := true, recurses := true, apart := false }
def VecSplitsSaid : Prop := vecSplitsRow.holds Try.pinned (OpenSpec.ofChange vecSplitsSpec)

/-- ITS FALSE NEIGHBOUR: 'it returns false'. Refute it at one input. -/
def vecSplitsWrong : ChangeSpec := { name := "vecSplits", fn := fun _ => fun
  | [d1, d2] => { results := [.lit (.bool false)], args := [d1, d2] }
  | _ => none }
def VecSplitsWrongFalsely : Prop := vecSplitsRow.holds Try.pinned (OpenSpec.ofChange vecSplitsWrong)

/-- 'coupletlaw03.EnvDoes': WHATEVER THE INPUT: true; the input reads as it did. -/
def envDoesSpec : ChangeSpec := { name := "envDoes", fn := fun _ => fun
  | [d1, d2] => { results := [.lit (.bool true)], args := [d1, d2] }
  | _ => none }
def envDoesRow : OpenClaim := { program := "ytbfhholefjngpaa", sum := "49628a15818bcc37c4909d4e51f252f1fa55e0e23c8165b380ab370f8f63c562", func := "couplet/coupletlaw03.EnvDoes", spec := "envDoes", unfollowed := true, recurses := true, named := ["math/bits.divideError", "math/bits.overflowError"], apart := false }
def EnvDoesSaid : Prop := envDoesRow.holds Try.pinned (OpenSpec.ofChange envDoesSpec)

/-- ITS FALSE NEIGHBOUR: 'it returns false'. Refute it at one input. -/
def envDoesWrong : ChangeSpec := { name := "envDoes", fn := fun _ => fun
  | [d1, d2] => { results := [.lit (.bool false)], args := [d1, d2] }
  | _ => none }
def EnvDoesWrongFalsely : Prop := envDoesRow.holds Try.pinned (OpenSpec.ofChange envDoesWrong)

/-- 'coupletlaw03.EnvFine': WHATEVER THE INPUT: true; the input reads as it did. -/
def envFineSpec : ChangeSpec := { name := "envFine", fn := fun _ => fun
  | [d1, d2] => { results := [.lit (.bool true)], args := [d1, d2] }
  | _ => none }
def envFineRow : OpenClaim := { program := "ytbfhholefjngpaa", sum := "49628a15818bcc37c4909d4e51f252f1fa55e0e23c8165b380ab370f8f63c562", func := "couplet/coupletlaw03.EnvFine", spec := "envFine", unfollowed := true, recurses := true, named := ["math/bits.divideError", "math/bits.overflowError"], apart := false }
def EnvFineSaid : Prop := envFineRow.holds Try.pinned (OpenSpec.ofChange envFineSpec)

/-- ITS FALSE NEIGHBOUR: 'it returns false'. Refute it at one input. -/
def envFineWrong : ChangeSpec := { name := "envFine", fn := fun _ => fun
  | [d1, d2] => { results := [.lit (.bool false)], args := [d1, d2] }
  | _ => none }
def EnvFineWrongFalsely : Prop := envFineRow.holds Try.pinned (OpenSpec.ofChange envFineWrong)

/-- 'coupletlaw03.EnvHolds': WHATEVER THE INPUT: true; the input reads as it did. -/
def envHoldsSpec : ChangeSpec := { name := "envHolds", fn := fun _ => fun
  | [d1, d2, d3, d4] => { results := [.lit (.bool true)], args := [d1, d2, d3, d4] }
  | _ => none }
def envHoldsRow : OpenClaim := { program := "ytbfhholefjngpaa", sum := "49628a15818bcc37c4909d4e51f252f1fa55e0e23c8165b380ab370f8f63c562", func := "couplet/coupletlaw03.EnvHolds", spec := "envHolds", unfollowed := true, recurses := true, named := ["math/bits.divideError", "math/bits.overflowError"], apart := false }
def EnvHoldsSaid : Prop := envHoldsRow.holds Try.pinned (OpenSpec.ofChange envHoldsSpec)

/-- ITS FALSE NEIGHBOUR: 'it returns false'. Refute it at one input. -/
def envHoldsWrong : ChangeSpec := { name := "envHolds", fn := fun _ => fun
  | [d1, d2, d3, d4] => { results := [.lit (.bool false)], args := [d1, d2, d3, d4] }
  | _ => none }
def EnvHoldsWrongFalsely : Prop := envHoldsRow.holds Try.pinned (OpenSpec.ofChange envHoldsWrong)

/-- 'coupletlaw03.EnvPoints': WHATEVER THE INPUT: true; the input reads as it did. -/
def envPointsSpec : ChangeSpec := { name := "envPoints", fn := fun _ => fun
  | [d1, d2] => { results := [.lit (.bool true)], args := [d1, d2] }
  | _ => none }
def envPointsRow : OpenClaim := { program := "ytbfhholefjngpaa", sum := "49628a15818bcc37c4909d4e51f252f1fa55e0e23c8165b380ab370f8f63c562", func := "couplet/coupletlaw03.EnvPoints", spec := "envPoints", unfollowed := true, recurses := true, named := ["math/bits.divideError", "math/bits.overflowError"], apart := false }
def EnvPointsSaid : Prop := envPointsRow.holds Try.pinned (OpenSpec.ofChange envPointsSpec)

/-- ITS FALSE NEIGHBOUR: 'it returns false'. Refute it at one input. -/
def envPointsWrong : ChangeSpec := { name := "envPoints", fn := fun _ => fun
  | [d1, d2] => { results := [.lit (.bool false)], args := [d1, d2] }
  | _ => none }
def EnvPointsWrongFalsely : Prop := envPointsRow.holds Try.pinned (OpenSpec.ofChange envPointsWrong)

/-- 'coupletlaw05.VecWhole': WHATEVER THE INPUT: true; the input reads as it did. -/
def vecWholeSpec : ChangeSpec := { name := "vecWhole", fn := fun _ => fun
  | [d1, d2, d3] => { results := [.lit (.bool true)], args := [d1, d2, d3] }
  | _ => none }
def vecWholeRow : OpenClaim := { program := "ytbfhholefjngpaa", sum := "49628a15818bcc37c4909d4e51f252f1fa55e0e23c8165b380ab370f8f63c562", func := "couplet/coupletlaw05.VecWhole", spec := "vecWhole", unfollowed := true, recurses := true, apart := false }
def VecWholeSaid : Prop := vecWholeRow.holds Try.pinned (OpenSpec.ofChange vecWholeSpec)

/-- ITS FALSE NEIGHBOUR: 'it returns false'. Refute it at one input. -/
def vecWholeWrong : ChangeSpec := { name := "vecWhole", fn := fun _ => fun
  | [d1, d2, d3] => { results := [.lit (.bool false)], args := [d1, d2, d3] }
  | _ => none }
def VecWholeWrongFalsely : Prop := vecWholeRow.holds Try.pinned (OpenSpec.ofChange vecWholeWrong)

/-- 'coupletlaw05.VecRules': WHATEVER THE INPUT: true; the input reads as it did. -/
def vecRulesSpec : ChangeSpec := { name := "vecRules", fn := fun _ => fun
  | [d1, d2, d3, d4] => { results := [.lit (.bool true)], args := [d1, d2, d3, d4] }
  | _ => none }
def vecRulesRow : OpenClaim := { program := "ytbfhholefjngpaa", sum := "49628a15818bcc37c4909d4e51f252f1fa55e0e23c8165b380ab370f8f63c562", func := "couplet/coupletlaw05.VecRules", spec := "vecRules", unfollowed := true, recurses := true, apart := false }
def VecRulesSaid : Prop := vecRulesRow.holds Try.pinned (OpenSpec.ofChange vecRulesSpec)

/-- ITS FALSE NEIGHBOUR: 'it returns false'. Refute it at one input. -/
def vecRulesWrong : ChangeSpec := { name := "vecRules", fn := fun _ => fun
  | [d1, d2, d3, d4] => { results := [.lit (.bool false)], args := [d1, d2, d3, d4] }
  | _ => none }
def VecRulesWrongFalsely : Prop := vecRulesRow.holds Try.pinned (OpenSpec.ofChange vecRulesWrong)

/-- 'coupletlaw05.VecEncloses': WHATEVER THE INPUT: true; the input reads as it did. -/
def vecEnclosesSpec : ChangeSpec := { name := "vecEncloses", fn := fun _ => fun
  | [d1, d2] => { results := [.lit (.bool true)], args := [d1, d2] }
  | _ => none }
def vecEnclosesRow : OpenClaim := { program := "ytbfhholefjngpaa", sum := "49628a15818bcc37c4909d4e51f252f1fa55e0e23c8165b380ab370f8f63c562", func := "couplet/coupletlaw05.VecEncloses", spec := "vecEncloses", unfollowed := true, recurses := true, apart := false }
def VecEnclosesSaid : Prop := vecEnclosesRow.holds Try.pinned (OpenSpec.ofChange vecEnclosesSpec)

/-- ITS FALSE NEIGHBOUR: 'it returns false'. Refute it at one input. -/
def vecEnclosesWrong : ChangeSpec := { name := "vecEncloses", fn := fun _ => fun
  | [d1, d2] => { results := [.lit (.bool false)], args := [d1, d2] }
  | _ => none }
def VecEnclosesWrongFalsely : Prop := vecEnclosesRow.holds Try.pinned (OpenSpec.ofChange vecEnclosesWrong)

/- THE SECOND FORM. 'bulk': how many values and letters a reading holds, each counted each time it is reached (what is shared counts as often as it is met; a slice's spare places count too). A statement '..UptoSaid' is the law's where the arguments, and the package variables that the reading takes, are together of bulk at most 1048576: NARROWER than '..Said'. Prove '..Said' where nothing that the law and all that it calls make is longer than what came in: it says more and counts as full. Else prove '..UptoSaid'. A law counts once. -/
mutual
def uptoBulk {H : Type} : DataW H → Nat
  | .lit (.string bytes) => bytes.length + 1
  | .lit _ => 1
  | .nil => 1
  | .ptr d => uptoBulk d + 1
  | .slice elems spare => uptoBulkAll elems + uptoBulkAll spare + 1
  | .agg parts => uptoBulkAll parts + 1
  | .iface _ d => uptoBulk d + 1
  | .map entries => uptoBulkEntries entries + 1
  | .held _ => 1
def uptoBulkAll {H : Type} : List (DataW H) → Nat
  | [] => 0
  | d :: r => uptoBulk d + uptoBulkAll r
def uptoBulkEntries {H : Type} : List (Lit × DataW H) → Nat
  | [] => 0
  | x :: r => uptoBulkEntry x + uptoBulkEntries r
def uptoBulkEntry {H : Type} : Lit × DataW H → Nat
  | (.string bytes, d) => bytes.length + uptoBulk d + 1
  | (_, d) => uptoBulk d + 1
 end
def uptoSmall : (H : Type) → List (DataW H) → Bool := fun _ ds => decide (uptoBulkAll ds ≤ 1048576)
def OpenSpec.upto (s : _root_.Go.ChangeSpec) : _root_.Go.OpenSpec := { _root_.Go.OpenSpec.ofChange s with cond := some uptoSmall }

/-- 'coupletlaw01.WideDivides', WHERE WHAT IT READS IS OF BULK AT MOST 1048576: true; the input reads as it did. -/
def wideDividesUptoRow : OpenClaim := { program := "ytbfhholefjngpaa", sum := "49628a15818bcc37c4909d4e51f252f1fa55e0e23c8165b380ab370f8f63c562", func := "couplet/coupletlaw01.WideDivides", spec := "wideDivides", unfollowed := true, recurses := true, named := ["math/bits.divideError", "math/bits.overflowError"], apart := false, narrowed := true }
def WideDividesUptoSaid : Prop := wideDividesUptoRow.holds Try.pinned (OpenSpec.upto wideDividesSpec)

/-- 'coupletlaw01.WideCompares', WHERE WHAT IT READS IS OF BULK AT MOST 1048576: true; the input reads as it did. -/
def wideComparesUptoRow : OpenClaim := { program := "ytbfhholefjngpaa", sum := "49628a15818bcc37c4909d4e51f252f1fa55e0e23c8165b380ab370f8f63c562", func := "couplet/coupletlaw01.WideCompares", spec := "wideCompares", unfollowed := true, recurses := true, named := ["math/bits.divideError", "math/bits.overflowError"], apart := false, narrowed := true }
def WideComparesUptoSaid : Prop := wideComparesUptoRow.holds Try.pinned (OpenSpec.upto wideComparesSpec)

/-- 'coupletlaw01.WideRoots', WHERE WHAT IT READS IS OF BULK AT MOST 1048576: true; the input reads as it did. -/
def wideRootsUptoRow : OpenClaim := { program := "ytbfhholefjngpaa", sum := "49628a15818bcc37c4909d4e51f252f1fa55e0e23c8165b380ab370f8f63c562", func := "couplet/coupletlaw01.WideRoots", spec := "wideRoots", unfollowed := true, recurses := true, named := ["math/bits.divideError", "math/bits.overflowError"], apart := false, narrowed := true }
def WideRootsUptoSaid : Prop := wideRootsUptoRow.holds Try.pinned (OpenSpec.upto wideRootsSpec)

/-- 'coupletlaw01.WideNearest', WHERE WHAT IT READS IS OF BULK AT MOST 1048576: true; the input reads as it did. -/
def wideNearestUptoRow : OpenClaim := { program := "ytbfhholefjngpaa", sum := "49628a15818bcc37c4909d4e51f252f1fa55e0e23c8165b380ab370f8f63c562", func := "couplet/coupletlaw01.WideNearest", spec := "wideNearest", unfollowed := true, recurses := true, named := ["math/bits.divideError", "math/bits.overflowError"], apart := false, narrowed := true }
def WideNearestUptoSaid : Prop := wideNearestUptoRow.holds Try.pinned (OpenSpec.upto wideNearestSpec)

/-- 'coupletlaw01.WideModes', WHERE WHAT IT READS IS OF BULK AT MOST 1048576: true; the input reads as it did. -/
def wideModesUptoRow : OpenClaim := { program := "ytbfhholefjngpaa", sum := "49628a15818bcc37c4909d4e51f252f1fa55e0e23c8165b380ab370f8f63c562", func := "couplet/coupletlaw01.WideModes", spec := "wideModes", unfollowed := true, recurses := true, named := ["math/bits.divideError", "math/bits.overflowError"], apart := false, narrowed := true }
def WideModesUptoSaid : Prop := wideModesUptoRow.holds Try.pinned (OpenSpec.upto wideModesSpec)

/-- 'coupletlaw01.WideBack', WHERE WHAT IT READS IS OF BULK AT MOST 1048576: true; the input reads as it did. -/
def wideBackUptoRow : OpenClaim := { program := "ytbfhholefjngpaa", sum := "49628a15818bcc37c4909d4e51f252f1fa55e0e23c8165b380ab370f8f63c562", func := "couplet/coupletlaw01.WideBack", spec := "wideBack", unfollowed := true, recurses := true, named := ["math/bits.divideError", "math/bits.overflowError"], apart := false, narrowed := true }
def WideBackUptoSaid : Prop := wideBackUptoRow.holds Try.pinned (OpenSpec.upto wideBackSpec)

/-- 'coupletlaw01.WideSigns', WHERE WHAT IT READS IS OF BULK AT MOST 1048576: true; the input reads as it did. -/
def wideSignsUptoRow : OpenClaim := { program := "ytbfhholefjngpaa", sum := "49628a15818bcc37c4909d4e51f252f1fa55e0e23c8165b380ab370f8f63c562", func := "couplet/coupletlaw01.WideSigns", spec := "wideSigns", unfollowed := true, recurses := true, named := ["math/bits.divideError", "math/bits.overflowError"], apart := false, narrowed := true }
def WideSignsUptoSaid : Prop := wideSignsUptoRow.holds Try.pinned (OpenSpec.upto wideSignsSpec)

/-- 'coupletlaw01.WideSquares', WHERE WHAT IT READS IS OF BULK AT MOST 1048576: true; the input reads as it did. -/
def wideSquaresUptoRow : OpenClaim := { program := "ytbfhholefjngpaa", sum := "49628a15818bcc37c4909d4e51f252f1fa55e0e23c8165b380ab370f8f63c562", func := "couplet/coupletlaw01.WideSquares", spec := "wideSquares", unfollowed := true, recurses := true, named := ["math/bits.divideError", "math/bits.overflowError"], apart := false, narrowed := true }
def WideSquaresUptoSaid : Prop := wideSquaresUptoRow.holds Try.pinned (OpenSpec.upto wideSquaresSpec)

/-- 'coupletlaw03.EnvTells', WHERE WHAT IT READS IS OF BULK AT MOST 1048576: true; the input reads as it did. -/
def envTellsUptoRow : OpenClaim := { program := "ytbfhholefjngpaa", sum := "49628a15818bcc37c4909d4e51f252f1fa55e0e23c8165b380ab370f8f63c562", func := "couplet/coupletlaw03.EnvTells", spec := "envTells", unfollowed := true, recurses := true, named := ["math/bits.divideError", "math/bits.overflowError"], apart := false, narrowed := true }
def EnvTellsUptoSaid : Prop := envTellsUptoRow.holds Try.pinned (OpenSpec.upto envTellsSpec)

/-- 'coupletlaw03.EnvOrder', WHERE WHAT IT READS IS OF BULK AT MOST 1048576: true; the input reads as it did. -/
def envOrderUptoRow : OpenClaim := { program := "ytbfhholefjngpaa", sum := "49628a15818bcc37c4909d4e51f252f1fa55e0e23c8165b380ab370f8f63c562", func := "couplet/coupletlaw03.EnvOrder", spec := "envOrder", unfollowed := true, recurses := true, named := ["math/bits.divideError", "math/bits.overflowError"], apart := false, narrowed := true }
def EnvOrderUptoSaid : Prop := envOrderUptoRow.holds Try.pinned (OpenSpec.upto envOrderSpec)

/-- 'coupletlaw03.EnvExact', WHERE WHAT IT READS IS OF BULK AT MOST 1048576: true; the input reads as it did. -/
def envExactUptoRow : OpenClaim := { program := "ytbfhholefjngpaa", sum := "49628a15818bcc37c4909d4e51f252f1fa55e0e23c8165b380ab370f8f63c562", func := "couplet/coupletlaw03.EnvExact", spec := "envExact", unfollowed := true, recurses := true, named := ["math/bits.divideError", "math/bits.overflowError"], apart := false, narrowed := true }
def EnvExactUptoSaid : Prop := envExactUptoRow.holds Try.pinned (OpenSpec.upto envExactSpec)

/-- 'coupletlaw05.VecSteps', WHERE WHAT IT READS IS OF BULK AT MOST 1048576: true; the input reads as it did. -/
def vecStepsUptoRow : OpenClaim := { program := "ytbfhholefjngpaa", sum := "49628a15818bcc37c4909d4e51f252f1fa55e0e23c8165b380ab370f8f63c562", func := "couplet/coupletlaw05.VecSteps", spec := "vecSteps", unfollowed := true, recurses := true, apart := false, narrowed := true }
def VecStepsUptoSaid : Prop := vecStepsUptoRow.holds Try.pinned (OpenSpec.upto vecStepsSpec)

/-- 'coupletlaw05.VecPairs', WHERE WHAT IT READS IS OF BULK AT MOST 1048576: true; the input reads as it did. -/
def vecPairsUptoRow : OpenClaim := { program := "ytbfhholefjngpaa", sum := "49628a15818bcc37c4909d4e51f252f1fa55e0e23c8165b380ab370f8f63c562", func := "couplet/coupletlaw05.VecPairs", spec := "vecPairs", unfollowed := true, recurses := true, apart := false, narrowed := true }
def VecPairsUptoSaid : Prop := vecPairsUptoRow.holds Try.pinned (OpenSpec.upto vecPairsSpec)

/-- 'coupletlaw05.VecSplits', WHERE WHAT IT READS IS OF BULK AT MOST 1048576: true; the input reads as it did. -/
def vecSplitsUptoRow : OpenClaim := { program := "ytbfhholefjngpaa", sum := "49628a15818bcc37c4909d4e51f252f1fa55e0e23c8165b380ab370f8f63c562", func := "couplet/coupletlaw05.VecSplits", spec := "vecSplits", unfollowed := true, recurses := true, apart := false, narrowed := true }
def VecSplitsUptoSaid : Prop := vecSplitsUptoRow.holds Try.pinned (OpenSpec.upto vecSplitsSpec)

/-- 'coupletlaw03.EnvDoes', WHERE WHAT IT READS IS OF BULK AT MOST 1048576: true; the input reads as it did. -/
def envDoesUptoRow : OpenClaim := { program := "ytbfhholefjngpaa", sum := "49628a15818bcc37c4909d4e51f252f1fa55e0e23c8165b380ab370f8f63c562", func := "couplet/coupletlaw03.EnvDoes", spec := "envDoes", unfollowed := true, recurses := true, named := ["math/bits.divideError", "math/bits.overflowError"], apart := false, narrowed := true }
def EnvDoesUptoSaid : Prop := envDoesUptoRow.holds Try.pinned (OpenSpec.upto envDoesSpec)

/-- 'coupletlaw03.EnvFine', WHERE WHAT IT READS IS OF BULK AT MOST 1048576: true; the input reads as it did. -/
def envFineUptoRow : OpenClaim := { program := "ytbfhholefjngpaa", sum := "49628a15818bcc37c4909d4e51f252f1fa55e0e23c8165b380ab370f8f63c562", func := "couplet/coupletlaw03.EnvFine", spec := "envFine", unfollowed := true, recurses := true, named := ["math/bits.divideError", "math/bits.overflowError"], apart := false, narrowed := true }
def EnvFineUptoSaid : Prop := envFineUptoRow.holds Try.pinned (OpenSpec.upto envFineSpec)

/-- 'coupletlaw03.EnvHolds', WHERE WHAT IT READS IS OF BULK AT MOST 1048576: true; the input reads as it did. -/
def envHoldsUptoRow : OpenClaim := { program := "ytbfhholefjngpaa", sum := "49628a15818bcc37c4909d4e51f252f1fa55e0e23c8165b380ab370f8f63c562", func := "couplet/coupletlaw03.EnvHolds", spec := "envHolds", unfollowed := true, recurses := true, named := ["math/bits.divideError", "math/bits.overflowError"], apart := false, narrowed := true }
def EnvHoldsUptoSaid : Prop := envHoldsUptoRow.holds Try.pinned (OpenSpec.upto envHoldsSpec)

/-- 'coupletlaw03.EnvPoints', WHERE WHAT IT READS IS OF BULK AT MOST 1048576: true; the input reads as it did. -/
def envPointsUptoRow : OpenClaim := { program := "ytbfhholefjngpaa", sum := "49628a15818bcc37c4909d4e51f252f1fa55e0e23c8165b380ab370f8f63c562", func := "couplet/coupletlaw03.EnvPoints", spec := "envPoints", unfollowed := true, recurses := true, named := ["math/bits.divideError", "math/bits.overflowError"], apart := false, narrowed := true }
def EnvPointsUptoSaid : Prop := envPointsUptoRow.holds Try.pinned (OpenSpec.upto envPointsSpec)

/-- 'coupletlaw05.VecWhole', WHERE WHAT IT READS IS OF BULK AT MOST 1048576: true; the input reads as it did. -/
def vecWholeUptoRow : OpenClaim := { program := "ytbfhholefjngpaa", sum := "49628a15818bcc37c4909d4e51f252f1fa55e0e23c8165b380ab370f8f63c562", func := "couplet/coupletlaw05.VecWhole", spec := "vecWhole", unfollowed := true, recurses := true, apart := false, narrowed := true }
def VecWholeUptoSaid : Prop := vecWholeUptoRow.holds Try.pinned (OpenSpec.upto vecWholeSpec)

/-- 'coupletlaw05.VecRules', WHERE WHAT IT READS IS OF BULK AT MOST 1048576: true; the input reads as it did. -/
def vecRulesUptoRow : OpenClaim := { program := "ytbfhholefjngpaa", sum := "49628a15818bcc37c4909d4e51f252f1fa55e0e23c8165b380ab370f8f63c562", func := "couplet/coupletlaw05.VecRules", spec := "vecRules", unfollowed := true, recurses := true, apart := false, narrowed := true }
def VecRulesUptoSaid : Prop := vecRulesUptoRow.holds Try.pinned (OpenSpec.upto vecRulesSpec)

/-- 'coupletlaw05.VecEncloses', WHERE WHAT IT READS IS OF BULK AT MOST 1048576: true; the input reads as it did. -/
def vecEnclosesUptoRow : OpenClaim := { program := "ytbfhholefjngpaa", sum := "49628a15818bcc37c4909d4e51f252f1fa55e0e23c8165b380ab370f8f63c562", func := "couplet/coupletlaw05.VecEncloses", spec := "vecEncloses", unfollowed := true, recurses := true, apart := false, narrowed := true }
def VecEnclosesUptoSaid : Prop := vecEnclosesUptoRow.holds Try.pinned (OpenSpec.upto vecEnclosesSpec)

end Rows
end Go.Proofs.Ytbfhholefjngpaa
