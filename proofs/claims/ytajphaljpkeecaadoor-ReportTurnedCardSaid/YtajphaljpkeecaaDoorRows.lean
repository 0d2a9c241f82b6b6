/-
  NARROWER THAN 'FOR EVERY INPUT', by the rows' own cells (each row's printed sentence says how): FrameEncodes: laid · FrameDecodes: laid · FrameRange: laid · FrameTurned: laid · FrameCuts: laid · FrameLong: laid · FrameMany: laid · ReportEncodes: laid · ReportDecodes: laid · ReportTurned: laid · ReportLong: laid · ScanFinds: laid · ScanJoins: laid · ScanStops: laid · ScanNoise: laid · ScanTwo: laid · ScanNone: laid.
  DERIVED. THE GIVEN ROWS OF THIS SEAT. 17 by the template 'for every input the law returns true; each argument reads behind the call as it read before'; 0 by the template 'total and deterministic' (their statements: YtajphaljpkeecaaDoorTotals.lean).
  GIVEN WITH THE SEED: the statements are not yours to turn. If you find one false, say at which input.
  Laid BY PROGRAM, IN A SANDBOX (cutbox-rows.mjs): the forced cells as the released guide's own fill.sh prints them over the translation a2ffaa2a6d10f3c1… (all of the seat's roots in one cut). By AI agents, Wed Nov 11 2026. No macro, syntax, notation, axiom, sorry.
-/
import Derived.Test.YtajphaljpkeecaaDoorChecked
import GoSem.Claim
import GoSem.ClaimJoined
import GoSem.ClaimMapViews
import Derived.JoinedTies
import Derived.KernelRfl
namespace Go.Proofs.YtajphaljpkeecaaDoor
/- THE CELL 'sum', in the pinned program and in every row, IS THE sha256 OF THE DUMP (.gsa) THAT YtajphaljpkeecaaDoorProg.lean LOADS. Nothing in Lean hashes anything: it is a label: what it is worth is what the hold of that sum in a sandbox is worth. -/
noncomputable def Tryd.pinned : Pinned := { name := "ytajphaljpkeecaadoor", sum := "a2ffaa2a6d10f3c135aaece5f95d7fb50cb75d8394b2f846e6a587e69a8ecde2", checked := Tryd.checked }
namespace Rows
def none {H : Type} : Left H := { results := [], args := [] }

/- WHAT THE LISTED PACKAGE-LEVEL VARIABLES READ AS WHEN THE CALL BEGINS. Each datum BY PROGRAM (the guide's laid-datum.mjs) off the statement by which the dump's own 'gosem.cut.vars' lays the variable. In a bare row this is a premise. The card (YtajphaljpkeecaaDoorCards.lean) ties it to the program's text. -/
def laid_couplet_sum_nibbles {H : Type} : DataW H := .agg [.lit (.int .u32 0), .lit (.int .u32 498536548), .lit (.int .u32 997073096), .lit (.int .u32 651767980), .lit (.int .u32 1994146192), .lit (.int .u32 1802195444), .lit (.int .u32 1303535960), .lit (.int .u32 1342533948), .lit (.int .u32 3988292384), .lit (.int .u32 4027552580), .lit (.int .u32 3604390888), .lit (.int .u32 3412177804), .lit (.int .u32 2607071920), .lit (.int .u32 2262029012), .lit (.int .u32 2685067896), .lit (.int .u32 3183342108)]

/-- 'coupletlaw12.FrameEncodes': WHATEVER THE INPUT: true; the input reads as it did. -/
def frameEncodesSpec : ChangeSpec := { name := "frameEncodes", fn := fun _ => fun
  | [d] => { results := [.lit (.bool true)], args := [d] }
  | _ => none }
def frameEncodesRow : OpenClaim := { program := "ytajphaljpkeecaadoor", sum := "a2ffaa2a6d10f3c135aaece5f95d7fb50cb75d8394b2f846e6a587e69a8ecde2", func := "couplet/coupletlaw12.FrameEncodes", spec := "frameEncodes", unfollowed := true, recurses := true, named := ["couplet/sum.nibbles"], apart := false, laid := [("couplet/sum.nibbles", laid_couplet_sum_nibbles)] }
def FrameEncodesSaid : Prop := frameEncodesRow.holds Tryd.pinned (OpenSpec.ofChange frameEncodesSpec)

/-- ITS FALSE NEIGHBOUR: 'it returns false'. Refute it at one input. -/
def frameEncodesWrong : ChangeSpec := { name := "frameEncodes", fn := fun _ => fun
  | [d] => { results := [.lit (.bool false)], args := [d] }
  | _ => none }
def FrameEncodesWrongFalsely : Prop := frameEncodesRow.holds Tryd.pinned (OpenSpec.ofChange frameEncodesWrong)

/-- 'coupletlaw12.FrameDecodes': WHATEVER THE INPUT: true; the input reads as it did. -/
def frameDecodesSpec : ChangeSpec := { name := "frameDecodes", fn := fun _ => fun
  | [d] => { results := [.lit (.bool true)], args := [d] }
  | _ => none }
def frameDecodesRow : OpenClaim := { program := "ytajphaljpkeecaadoor", sum := "a2ffaa2a6d10f3c135aaece5f95d7fb50cb75d8394b2f846e6a587e69a8ecde2", func := "couplet/coupletlaw12.FrameDecodes", spec := "frameDecodes", unfollowed := true, recurses := true, named := ["couplet/sum.nibbles"], apart := false, laid := [("couplet/sum.nibbles", laid_couplet_sum_nibbles)] }
def FrameDecodesSaid : Prop := frameDecodesRow.holds Tryd.pinned (OpenSpec.ofChange frameDecodesSpec)

/-- ITS FALSE NEIGHBOUR: 'it returns false'. Refute it at one input. -/
def frameDecodesWrong : ChangeSpec := { name := "frameDecodes", fn := fun _ => fun
  | [d] => { results := [.lit (.bool false)], args := [d] }
  | _ => none }
def FrameDecodesWrongFalsely : Prop := frameDecodesRow.holds Tryd.pinned (OpenSpec.ofChange frameDecodesWrong)

/-- 'coupletlaw12.FrameRange': WHATEVER THE INPUT: true; the input reads as it did. -/
def frameRangeSpec : ChangeSpec := { name := "frameRange", fn := fun _ => fun
  | [d1, d2, d3] => { results := [.lit (.bool true)], args := [d1, d2, d3] }
  | _ => none }
def frameRangeRow : OpenClaim := { program := "ytajphaljpkeecaadoor", sum := "a2ffaa2a6d10f3c135aaece5f95d7fb50cb75d8394b2f846e6a587e69a8ecde2", func := "couplet/coupletlaw12.FrameRange", spec := "frameRange", unfollowed := true, recurses := true, named := ["couplet/sum.nibbles"], apart := false, laid := [("couplet/sum.nibbles", laid_couplet_sum_nibbles)] }
def FrameRangeSaid : Prop := frameRangeRow.holds Tryd.pinned (OpenSpec.ofChange frameRangeSpec)

/-- ITS FALSE NEIGHBOUR: 'it returns false'. Refute it at one input. -/
def frameRangeWrong : ChangeSpec := { name := "frameRange", fn := fun _ => fun
  | [d1, d2, d3] => { results := [.lit (.bool false)], args := [d1, d2, d3] }
  | _ => none }
def FrameRangeWrongFalsely : Prop := frameRangeRow.holds Tryd.pinned (OpenSpec.ofChange frameRangeWrong)

/-- 'coupletlaw12.FrameTurned': WHATEVER THE INPUT: true; the input reads as it did. -/
def frameTurnedSpec : ChangeSpec := { name := "frameTurned", fn := fun _ => fun
  | [d1, d2, d3] => { results := [.lit (.bool true)], args := [d1, d2, d3] }
  | _ => none }
def frameTurnedRow : OpenClaim := { program := "ytajphaljpkeecaadoor", sum := "a2ffaa2a6d10f3c135aaece5f95d7fb50cb75d8394b2f846e6a587e69a8ecde2", func := "couplet/coupletlaw12.FrameTurned", spec := "frameTurned", unfollowed := true, recurses := true, named := ["couplet/sum.nibbles"], apart := false, laid := [("couplet/sum.nibbles", laid_couplet_sum_nibbles)] }
def FrameTurnedSaid : Prop := frameTurnedRow.holds Tryd.pinned (OpenSpec.ofChange frameTurnedSpec)

/-- ITS FALSE NEIGHBOUR: 'it returns false'. Refute it at one input. -/
def frameTurnedWrong : ChangeSpec := { name := "frameTurned", fn := fun _ => fun
  | [d1, d2, d3] => { results := [.lit (.bool false)], args := [d1, d2, d3] }
  | _ => none }
def FrameTurnedWrongFalsely : Prop := frameTurnedRow.holds Tryd.pinned (OpenSpec.ofChange frameTurnedWrong)

/-- 'coupletlaw12.FrameCuts': WHATEVER THE INPUT: true; the input reads as it did. -/
def frameCutsSpec : ChangeSpec := { name := "frameCuts", fn := fun _ => fun
  | [d1, d2, d3] => { results := [.lit (.bool true)], args := [d1, d2, d3] }
  | _ => none }
def frameCutsRow : OpenClaim := { program := "ytajphaljpkeecaadoor", sum := "a2ffaa2a6d10f3c135aaece5f95d7fb50cb75d8394b2f846e6a587e69a8ecde2", func := "couplet/coupletlaw12.FrameCuts", spec := "frameCuts", unfollowed := true, recurses := true, named := ["couplet/sum.nibbles"], apart := false, laid := [("couplet/sum.nibbles", laid_couplet_sum_nibbles)] }
def FrameCutsSaid : Prop := frameCutsRow.holds Tryd.pinned (OpenSpec.ofChange frameCutsSpec)

/-- ITS FALSE NEIGHBOUR: 'it returns false'. Refute it at one input. -/
def frameCutsWrong : ChangeSpec := { name := "frameCuts", fn := fun _ => fun
  | [d1, d2, d3] => { results := [.lit (.bool false)], args := [d1, d2, d3] }
  | _ => none }
def FrameCutsWrongFalsely : Prop := frameCutsRow.holds Tryd.pinned (OpenSpec.ofChange frameCutsWrong)

/-- 'coupletlaw12.FrameLong': WHATEVER THE INPUT: true; the input reads as it did. -/
def frameLongSpec : ChangeSpec := { name := "frameLong", fn := fun _ => fun
  | [d1, d2] => { results := [.lit (.bool true)], args := [d1, d2] }
  | _ => none }
def frameLongRow : OpenClaim := { program := "ytajphaljpkeecaadoor", sum := "a2ffaa2a6d10f3c135aaece5f95d7fb50cb75d8394b2f846e6a587e69a8ecde2", func := "couplet/coupletlaw12.FrameLong", spec := "frameLong", unfollowed := true, recurses := true, named := ["couplet/sum.nibbles"], apart := false, laid := [("couplet/sum.nibbles", laid_couplet_sum_nibbles)] }
def FrameLongSaid : Prop := frameLongRow.holds Tryd.pinned (OpenSpec.ofChange frameLongSpec)

/-- ITS FALSE NEIGHBOUR: 'it returns false'. Refute it at one input. -/
def frameLongWrong : ChangeSpec := { name := "frameLong", fn := fun _ => fun
  | [d1, d2] => { results := [.lit (.bool false)], args := [d1, d2] }
  | _ => none }
def FrameLongWrongFalsely : Prop := frameLongRow.holds Tryd.pinned (OpenSpec.ofChange frameLongWrong)

/-- 'coupletlaw12.FrameMany': WHATEVER THE INPUT: true; the input reads as it did. -/
def frameManySpec : ChangeSpec := { name := "frameMany", fn := fun _ => fun
  | [d1, d2] => { results := [.lit (.bool true)], args := [d1, d2] }
  | _ => none }
def frameManyRow : OpenClaim := { program := "ytajphaljpkeecaadoor", sum := "a2ffaa2a6d10f3c135aaece5f95d7fb50cb75d8394b2f846e6a587e69a8ecde2", func := "couplet/coupletlaw12.FrameMany", spec := "frameMany", unfollowed := true, recurses := true, named := ["couplet/sum.nibbles"], apart := false, laid := [("couplet/sum.nibbles", laid_couplet_sum_nibbles)] }
def FrameManySaid : Prop := frameManyRow.holds Tryd.pinned (OpenSpec.ofChange frameManySpec)

/-- ITS FALSE NEIGHBOUR: 'it returns false'. Refute it at one input. -/
def frameManyWrong : ChangeSpec := { name := "frameMany", fn := fun _ => fun
  | [d1, d2] => { results := [.lit (.bool false)], args := [d1, d2] }
  | _ => none }
def FrameManyWrongFalsely : Prop := frameManyRow.holds Tryd.pinned (OpenSpec.ofChange frameManyWrong)

/-- 'coupletlaw18.ReportEncodes': WHATEVER THE INPUT: true; the input reads as it did. -/
def reportEncodesSpec : ChangeSpec := { name := "reportEncodes", fn := fun _ => fun
  | [d] => { results := [.lit (.bool true)], args := [d] }
  | _ => none }
def reportEncodesRow : OpenClaim := { program := "ytajphaljpkeecaadoor", sum := "a2ffaa2a6d10f3c135aaece5f95d7fb50cb75d8394b2f846e6a587e69a8ecde2", func := "couplet/coupletlaw18.ReportEncodes", spec := "reportEncodes", unfollowed := true, recurses := true, named := ["couplet/sum.nibbles"], apart := false, laid := [("couplet/sum.nibbles", laid_couplet_sum_nibbles)] }
def ReportEncodesSaid : Prop := reportEncodesRow.holds Tryd.pinned (OpenSpec.ofChange reportEncodesSpec)

/-- ITS FALSE NEIGHBOUR: 'it returns false'. Refute it at one input. -/
def reportEncodesWrong : ChangeSpec := { name := "reportEncodes", fn := fun _ => fun
  | [d] => { results := [.lit (.bool false)], args := [d] }
  | _ => none }
def ReportEncodesWrongFalsely : Prop := reportEncodesRow.holds Tryd.pinned (OpenSpec.ofChange reportEncodesWrong)

/-- 'coupletlaw18.ReportDecodes': WHATEVER THE INPUT: true; the input reads as it did. -/
def reportDecodesSpec : ChangeSpec := { name := "reportDecodes", fn := fun _ => fun
  | [d] => { results := [.lit (.bool true)], args := [d] }
  | _ => none }
def reportDecodesRow : OpenClaim := { program := "ytajphaljpkeecaadoor", sum := "a2ffaa2a6d10f3c135aaece5f95d7fb50cb75d8394b2f846e6a587e69a8ecde2", func := "couplet/coupletlaw18.ReportDecodes", spec := "reportDecodes", unfollowed := true, recurses := true, named := ["couplet/sum.nibbles"], apart := false, laid := [("couplet/sum.nibbles", laid_couplet_sum_nibbles)] }
def ReportDecodesSaid : Prop := reportDecodesRow.holds Tryd.pinned (OpenSpec.ofChange reportDecodesSpec)

/-- ITS FALSE NEIGHBOUR: 'it returns false'. Refute it at one input. -/
def reportDecodesWrong : ChangeSpec := { name := "reportDecodes", fn := fun _ => fun
  | [d] => { results := [.lit (.bool false)], args := [d] }
  | _ => none }
def ReportDecodesWrongFalsely : Prop := reportDecodesRow.holds Tryd.pinned (OpenSpec.ofChange reportDecodesWrong)

/-- 'coupletlaw18.ReportTurned': WHATEVER THE INPUT: true; the input reads as it did. -/
def reportTurnedSpec : ChangeSpec := { name := "reportTurned", fn := fun _ => fun
  | [d1, d2, d3, d4] => { results := [.lit (.bool true)], args := [d1, d2, d3, d4] }
  | _ => none }
def reportTurnedRow : OpenClaim := { program := "ytajphaljpkeecaadoor", sum := "a2ffaa2a6d10f3c135aaece5f95d7fb50cb75d8394b2f846e6a587e69a8ecde2", func := "couplet/coupletlaw18.ReportTurned", spec := "reportTurned", unfollowed := true, recurses := true, named := ["couplet/sum.nibbles"], apart := false, laid := [("couplet/sum.nibbles", laid_couplet_sum_nibbles)] }
def ReportTurnedSaid : Prop := reportTurnedRow.holds Tryd.pinned (OpenSpec.ofChange reportTurnedSpec)

/-- ITS FALSE NEIGHBOUR: 'it returns false'. Refute it at one input. -/
def reportTurnedWrong : ChangeSpec := { name := "reportTurned", fn := fun _ => fun
  | [d1, d2, d3, d4] => { results := [.lit (.bool false)], args := [d1, d2, d3, d4] }
  | _ => none }
def ReportTurnedWrongFalsely : Prop := reportTurnedRow.holds Tryd.pinned (OpenSpec.ofChange reportTurnedWrong)

/-- 'coupletlaw18.ReportLong': WHATEVER THE INPUT: true; the input reads as it did. -/
def reportLongSpec : ChangeSpec := { name := "reportLong", fn := fun _ => fun
  | [d1, d2] => { results := [.lit (.bool true)], args := [d1, d2] }
  | _ => none }
def reportLongRow : OpenClaim := { program := "ytajphaljpkeecaadoor", sum := "a2ffaa2a6d10f3c135aaece5f95d7fb50cb75d8394b2f846e6a587e69a8ecde2", func := "couplet/coupletlaw18.ReportLong", spec := "reportLong", unfollowed := true, recurses := true, named := ["couplet/sum.nibbles"], apart := false, laid := [("couplet/sum.nibbles", laid_couplet_sum_nibbles)] }
def ReportLongSaid : Prop := reportLongRow.holds Tryd.pinned (OpenSpec.ofChange reportLongSpec)

/-- ITS FALSE NEIGHBOUR: 'it returns false'. Refute it at one input. -/
def reportLongWrong : ChangeSpec := { name := "reportLong", fn := fun _ => fun
  | [d1, d2] => { results := [.lit (.bool false)], args := [d1, d2] }
  | _ => none }
def ReportLongWrongFalsely : Prop := reportLongRow.holds Tryd.pinned (OpenSpec.ofChange reportLongWrong)

/-- 'coupletlaw13.ScanFinds': WHATEVER THE INPUT: true; the input reads as it did. -/
def scanFindsSpec : ChangeSpec := { name := "scanFinds", fn := fun _ => fun
  | [d] => { results := [.lit (.bool true)], args := [d] }
  | _ => none }
def scanFindsRow : OpenClaim := { program := "ytajphaljpkeecaadoor", sum := "a2ffaa2a6d10f3c135aaece5f95d7fb50cb75d8394b2f846e6a587e69a8ecde2", func := "couplet/coupletlaw13.ScanFinds", spec := "scanFinds", unfollowed := true, recurses := true, named := ["couplet/sum.nibbles"], apart := false, laid := [("couplet/sum.nibbles", laid_couplet_sum_nibbles)] }
def ScanFindsSaid : Prop := scanFindsRow.holds Tryd.pinned (OpenSpec.ofChange scanFindsSpec)

/-- ITS FALSE NEIGHBOUR: 'it returns false'. Refute it at one input. -/
def scanFindsWrong : ChangeSpec := { name := "scanFinds", fn := fun _ => fun
  | [d] => { results := [.lit (.bool false)], args := [d] }
  | _ => none }
def ScanFindsWrongFalsely : Prop := scanFindsRow.holds Tryd.pinned (OpenSpec.ofChange scanFindsWrong)

/-- 'coupletlaw13.ScanJoins': WHATEVER THE INPUT: true; the input reads as it did. -/
def scanJoinsSpec : ChangeSpec := { name := "scanJoins", fn := fun _ => fun
  | [d] => { results := [.lit (.bool true)], args := [d] }
  | _ => none }
def scanJoinsRow : OpenClaim := { program := "ytajphaljpkeecaadoor", sum := "a2ffaa2a6d10f3c135aaece5f95d7fb50cb75d8394b2f846e6a587e69a8ecde2", func := "couplet/coupletlaw13.ScanJoins", spec := "scanJoins", unfollowed := true, recurses := true, named := ["couplet/sum.nibbles"], apart := false, laid := [("couplet/sum.nibbles", laid_couplet_sum_nibbles)] }
def ScanJoinsSaid : Prop := scanJoinsRow.holds Tryd.pinned (OpenSpec.ofChange scanJoinsSpec)

/-- ITS FALSE NEIGHBOUR: 'it returns false'. Refute it at one input. -/
def scanJoinsWrong : ChangeSpec := { name := "scanJoins", fn := fun _ => fun
  | [d] => { results := [.lit (.bool false)], args := [d] }
  | _ => none }
def ScanJoinsWrongFalsely : Prop := scanJoinsRow.holds Tryd.pinned (OpenSpec.ofChange scanJoinsWrong)

/-- 'coupletlaw13.ScanStops': WHATEVER THE INPUT: true; the input reads as it did. -/
def scanStopsSpec : ChangeSpec := { name := "scanStops", fn := fun _ => fun
  | [d1, d2] => { results := [.lit (.bool true)], args := [d1, d2] }
  | _ => none }
def scanStopsRow : OpenClaim := { program := "ytajphaljpkeecaadoor", sum := "a2ffaa2a6d10f3c135aaece5f95d7fb50cb75d8394b2f846e6a587e69a8ecde2", func := "couplet/coupletlaw13.ScanStops", spec := "scanStops", unfollowed := true, recurses := true, named := ["couplet/sum.nibbles"], apart := false, laid := [("couplet/sum.nibbles", laid_couplet_sum_nibbles)] }
def ScanStopsSaid : Prop := scanStopsRow.holds Tryd.pinned (OpenSpec.ofChange scanStopsSpec)

/-- ITS FALSE NEIGHBOUR: 'it returns false'. Refute it at one input. -/
def scanStopsWrong : ChangeSpec := { name := "scanStops", fn := fun _ => fun
  | [d1, d2] => { results := [.lit (.bool false)], args := [d1, d2] }
  | _ => none }
def ScanStopsWrongFalsely : Prop := scanStopsRow.holds Tryd.pinned (OpenSpec.ofChange scanStopsWrong)

/-- 'coupletlaw13.ScanNoise': WHATEVER THE INPUT: true; the input reads as it did. -/
def scanNoiseSpec : ChangeSpec := { name := "scanNoise", fn := fun _ => fun
  | [d1, d2] => { results := [.lit (.bool true)], args := [d1, d2] }
  | _ => none }
def scanNoiseRow : OpenClaim := { program := "ytajphaljpkeecaadoor", sum := "a2ffaa2a6d10f3c135aaece5f95d7fb50cb75d8394b2f846e6a587e69a8ecde2", func := "couplet/coupletlaw13.ScanNoise", spec := "scanNoise", unfollowed := true, recurses := true, named := ["couplet/sum.nibbles"], apart := false, laid := [("couplet/sum.nibbles", laid_couplet_sum_nibbles)] }
def ScanNoiseSaid : Prop := scanNoiseRow.holds Tryd.pinned (OpenSpec.ofChange scanNoiseSpec)

/-- ITS FALSE NEIGHBOUR: 'it returns false'. Refute it at one input. -/
def scanNoiseWrong : ChangeSpec := { name := "scanNoise", fn := fun _ => fun
  | [d1, d2] => { results := [.lit (.bool false)], args := [d1, d2] }
  | _ => none }
def ScanNoiseWrongFalsely : Prop := scanNoiseRow.holds Tryd.pinned (OpenSpec.ofChange scanNoiseWrong)

/-- 'coupletlaw13.ScanTwo': WHATEVER THE INPUT: true; the input reads as it did. -/
def scanTwoSpec : ChangeSpec := { name := "scanTwo", fn := fun _ => fun
  | [d1, d2] => { results := [.lit (.bool true)], args := [d1, d2] }
  | _ => none }
def scanTwoRow : OpenClaim := { program := "ytajphaljpkeecaadoor", sum := "a2ffaa2a6d10f3c135aaece5f95d7fb50cb75d8394b2f846e6a587e69a8ecde2", func := "couplet/coupletlaw13.ScanTwo", spec := "scanTwo", unfollowed := true, recurses := true, named := ["couplet/sum.nibbles"], apart := false, laid := [("couplet/sum.nibbles", laid_couplet_sum_nibbles)] }
def ScanTwoSaid : Prop := scanTwoRow.holds Tryd.pinned (OpenSpec.ofChange scanTwoSpec)

/-- ITS FALSE NEIGHBOUR: 'it returns false'. Refute it at one input. -/
def scanTwoWrong : ChangeSpec := { name := "scanTwo", fn := fun _ => fun
  | [d1, d2] => { results := [.lit (.bool false)], args := [d1, d2] }
  | _ => none }
def ScanTwoWrongFalsely : Prop := scanTwoRow.holds Tryd.pinned (OpenSpec.ofChange scanTwoWrong)

/-- 'coupletlaw13.ScanNone': WHATEVER THE INPUT: true; the input reads as it did. -/
def scanNoneSpec : ChangeSpec := { name := "scanNone", fn := fun _ => fun
  | [d] => { results := [.lit (.bool true)], args := [d] }
  | _ => none }
def scanNoneRow : OpenClaim := { program := "ytajphaljpkeecaadoor", sum := "a2ffaa2a6d10f3c135aaece5f95d7fb50cb75d8394b2f846e6a587e69a8ecde2", func := "couplet/coupletlaw13.ScanNone", spec := "scanNone", unfollowed := true, recurses := true, named := ["couplet/sum.nibbles"], apart := false, laid := [("couplet/sum.nibbles", laid_couplet_sum_nibbles)] }
def ScanNoneSaid : Prop := scanNoneRow.holds Tryd.pinned (OpenSpec.ofChange scanNoneSpec)

/-- ITS FALSE NEIGHBOUR: 'it returns false'. Refute it at one input. -/
def scanNoneWrong : ChangeSpec := { name := "scanNone", fn := fun _ => fun
  | [d] => { results := [.lit (.bool false)], args := [d] }
  | _ => none }
def ScanNoneWrongFalsely : Prop := scanNoneRow.holds Tryd.pinned (OpenSpec.ofChange scanNoneWrong)

/- THE SECOND FORM. 'bulk': how many values and letters a reading holds, each counted each time it is reached (what is shared counts as often as it is met; a slice's spare places count too). A statement '..UptoSaid' is the law's where the arguments, and the package variables that the reading takes, are together of bulk at most 1048576: NARROWER than '..Said'. Prove '..Said' where nothing that the law and all that it calls make is longer than what came in: it says more and counts as full. Else prove '..UptoSaid'. A law counts once. -/
mutual
def uptoBulk {H : Type} : DataW H → Nat
  | .lit (.string bytes) => bytes.length + 1
  | .lit _ => 1
  | .nil => 1
  | .ptr d => uptoBulk d + 1
  | .slice elems spare => uptoBulkAll elems + uptoBulkAll spare + 1
  | .agg parts => uptoBulkAll parts + 1
  | .iface _ d => uptoBulk d + 1
  | .map entries => uptoBulkEntries entries + 1
  | .held _ => 1
def uptoBulkAll {H : Type} : List (DataW H) → Nat
  | [] => 0
  | d :: r => uptoBulk d + uptoBulkAll r
def uptoBulkEntries {H : Type} : List (Lit × DataW H) → Nat
  | [] => 0
  | x :: r => uptoBulkEntry x + uptoBulkEntries r
def uptoBulkEntry {H : Type} : Lit × DataW H → Nat
  | (.string bytes, d) => bytes.length + uptoBulk d + 1
  | (_, d) => uptoBulk d + 1
 end
def uptoSmall : (H : Type) → List (DataW H) → Bool := fun _ ds => decide (uptoBulkAll ds ≤ 1048576)
def OpenSpec.upto (s : _root_.Go.ChangeSpec) : _root_.Go.OpenSpec := { _root_.Go.OpenSpec.ofChange s with cond := some uptoSmall }

/-- 'coupletlaw12.FrameEncodes', WHERE WHAT IT READS IS OF BULK AT MOST 1048576: true; the input reads as it did. -/
def frameEncodesUptoRow : OpenClaim := { program := "ytajphaljpkeecaadoor", sum := "a2ffaa2a6d10f3c135aaece5f95d7fb50cb75d8394b2f846e6a587e69a8ecde2", func := "couplet/coupletlaw12.FrameEncodes", spec := "frameEncodes", unfollowed := true, recurses := true, named := ["couplet/sum.nibbles"], apart := false, laid := [("couplet/sum.nibbles", laid_couplet_sum_nibbles)], narrowed := true }
def FrameEncodesUptoSaid : Prop := frameEncodesUptoRow.holds Tryd.pinned (OpenSpec.upto frameEncodesSpec)

/-- 'coupletlaw12.FrameDecodes', WHERE WHAT IT READS IS OF BULK AT MOST 1048576: true; the input reads as it did. -/
def frameDecodesUptoRow : OpenClaim := { program := "ytajphaljpkeecaadoor", sum := "a2ffaa2a6d10f3c135aaece5f95d7fb50cb75d8394b2f846e6a587e69a8ecde2", func := "couplet/coupletlaw12.FrameDecodes", spec := "frameDecodes", unfollowed := true, recurses := true, named := ["couplet/sum.nibbles"], apart := false, laid := [("couplet/sum.nibbles", laid_couplet_sum_nibbles)], narrowed := true }
def FrameDecodesUptoSaid : Prop := frameDecodesUptoRow.holds Tryd.pinned (OpenSpec.upto frameDecodesSpec)

/-- 'coupletlaw12.FrameRange', WHERE WHAT IT READS IS OF BULK AT MOST 1048576: true; the input reads as it did. -/
def frameRangeUptoRow : OpenClaim := { program := "ytajphaljpkeecaadoor", sum := "a2ffaa2a6d10f3c135aaece5f95d7fb50cb75d8394b2f846e6a587e69a8ecde2", func := "couplet/coupletlaw12.FrameRange", spec := "frameRange", unfollowed := true, recurses := true, named := ["couplet/sum.nibbles"], apart := false, laid := [("couplet/sum.nibbles", laid_couplet_sum_nibbles)], narrowed := true }
def FrameRangeUptoSaid : Prop := frameRangeUptoRow.holds Tryd.pinned (OpenSpec.upto frameRangeSpec)

/-- 'coupletlaw12.FrameTurned', WHERE WHAT IT READS IS OF BULK AT MOST 1048576: true; the input reads as it did. -/
def frameTurnedUptoRow : OpenClaim := { program := "ytajphaljpkeecaadoor", sum := "a2ffaa2a6d10f3c135aaece5f95d7fb50cb75d8394b2f846e6a587e69a8ecde2", func := "couplet/coupletlaw12.FrameTurned", spec := "frameTurned", unfollowed := true, recurses := true, named := ["couplet/sum.nibbles"], apart := false, laid := [("couplet/sum.nibbles", laid_couplet_sum_nibbles)], narrowed := true }
def FrameTurnedUptoSaid : Prop := frameTurnedUptoRow.holds Tryd.pinned (OpenSpec.upto frameTurnedSpec)

/-- 'coupletlaw12.FrameCuts', WHERE WHAT IT READS IS OF BULK AT MOST 1048576: true; the input reads as it did. -/
def frameCutsUptoRow : OpenClaim := { program := "ytajphaljpkeecaadoor", sum := "a2ffaa2a6d10f3c135aaece5f95d7fb50cb75d8394b2f846e6a587e69a8ecde2", func := "couplet/coupletlaw12.FrameCuts", spec := "frameCuts", unfollowed := true, recurses := true, named := ["couplet/sum.nibbles"], apart := false, laid := [("couplet/sum.nibbles", laid_couplet_sum_nibbles)], narrowed := true }
def FrameCutsUptoSaid : Prop := frameCutsUptoRow.holds Tryd.pinned (OpenSpec.upto frameCutsSpec)

/-- 'coupletlaw12.FrameLong', WHERE WHAT IT READS IS OF BULK AT MOST 1048576: true; the input reads as it did. -/
def frameLongUptoRow : OpenClaim := { program := "ytajphaljpkeecaadoor", sum := "a2ffaa2a6d10f3c135aaece5f95d7fb50cb75d8394b2f846e6a587e69a8ecde2", func := "couplet/coupletlaw12.FrameLong", spec := "frameLong", unfollowed := true, recurses := true, named := ["couplet/sum.nibbles"], apart := false, laid := [("couplet/sum.nibbles", laid_couplet_sum_nibbles)], narrowed := true }
def FrameLongUptoSaid : Prop := frameLongUptoRow.holds Tryd.pinned (OpenSpec.upto frameLongSpec)

/-- 'coupletlaw12.FrameMany', WHERE WHAT IT READS IS OF BULK AT MOST 1048576: true; the input reads as it did. -/
def frameManyUptoRow : OpenClaim := { program := "ytajphaljpkeecaadoor", sum := "a2ffaa2a6d10f3c135aaece5f95d7fb50cb75d8394b2f846e6a587e69a8ecde2", func := "couplet/coupletlaw12.FrameMany", spec := "frameMany", unfollowed := true, recurses := true, named := ["couplet/sum.nibbles"], apart := false, laid := [("couplet/sum.nibbles", laid_couplet_sum_nibbles)], narrowed := true }
def FrameManyUptoSaid : Prop := frameManyUptoRow.holds Tryd.pinned (OpenSpec.upto frameManySpec)

/-- 'coupletlaw18.ReportEncodes', WHERE WHAT IT READS IS OF BULK AT MOST 1048576: true; the input reads as it did. -/
def reportEncodesUptoRow : OpenClaim := { program := "ytajphaljpkeecaadoor", sum := "a2ffaa2a6d10f3c135aaece5f95d7fb50cb75d8394b2f846e6a587e69a8ecde2", func := "couplet/coupletlaw18.ReportEncodes", spec := "reportEncodes", unfollowed := true, recurses := true, named := ["couplet/sum.nibbles"], apart := false, laid := [("couplet/sum.nibbles", laid_couplet_sum_nibbles)], narrowed := true }
def ReportEncodesUptoSaid : Prop := reportEncodesUptoRow.holds Tryd.pinned (OpenSpec.upto reportEncodesSpec)

/-- 'coupletlaw18.ReportDecodes', WHERE WHAT IT READS IS OF BULK AT MOST 1048576: true; the input reads as it did. -/
def reportDecodesUptoRow : OpenClaim := { program := "ytajphaljpkeecaadoor", sum := "a2ffaa2a6d10f3c135aaece5f95d7fb50cb75d8394b2f846e6a587e69a8ecde2", func := "couplet/coupletlaw18.ReportDecodes", spec := "reportDecodes", unfollowed := true, recurses := true, named := ["couplet/sum.nibbles"], apart := false, laid := [("couplet/sum.nibbles", laid_couplet_sum_nibbles)], narrowed := true }
def ReportDecodesUptoSaid : Prop := reportDecodesUptoRow.holds Tryd.pinned (OpenSpec.upto reportDecodesSpec)

/-- 'coupletlaw18.ReportTurned', WHERE WHAT IT READS IS OF BULK AT MOST 1048576: true; the input reads as it did. -/
def reportTurnedUptoRow : OpenClaim := { program := "ytajphaljpkeecaadoor", sum := "a2ffaa2a6d10f3c135aaece5f95d7fb50cb75d8394b2f846e6a587e69a8ecde2", func := "couplet/coupletlaw18.ReportTurned", spec := "reportTurned", unfollowed := true, recurses := true, named := ["couplet/sum.nibbles"], apart := false, laid := [("couplet/sum.nibbles", laid_couplet_sum_nibbles)], narrowed := true }
def ReportTurnedUptoSaid : Prop := reportTurnedUptoRow.holds Tryd.pinned (OpenSpec.upto reportTurnedSpec)

/-- 'coupletlaw18.ReportLong', WHERE WHAT IT READS IS OF BULK AT MOST 1048576: true; the input reads as it did. -/
def reportLongUptoRow : OpenClaim := { program := "ytajphaljpkeecaadoor", sum := "a2ffaa2a6d10f3c135aaece5f95d7fb50cb75d8394b2f846e6a587e69a8ecde2", func := "couplet/coupletlaw18.ReportLong", spec := "reportLong", unfollowed := true, recurses := true, named := ["couplet/sum.nibbles"], apart := false, laid := [("couplet/sum.nibbles", laid_couplet_sum_nibbles)], narrowed := true }
def ReportLongUptoSaid : Prop := reportLongUptoRow.holds Tryd.pinned (OpenSpec.upto reportLongSpec)

/-- 'coupletlaw13.ScanFinds', WHERE WHAT IT READS IS OF BULK AT MOST 1048576: true; the input reads as it did. -/
def scanFindsUptoRow : OpenClaim := { program := "ytajphaljpkeecaadoor", sum := "a2ffaa2a6d10f3c135aaece5f95d7fb50cb75d8394b2f846e6a587e69a8ecde2", func := "couplet/coupletlaw13.ScanFinds", spec := "scanFinds", unfollowed := true, recurses := true, named := ["couplet/sum.nibbles"], apart := false, laid := [("couplet/sum.nibbles", laid_couplet_sum_nibbles)], narrowed := true }
def ScanFindsUptoSaid : Prop := scanFindsUptoRow.holds Tryd.pinned (OpenSpec.upto scanFindsSpec)

/-- 'coupletlaw13.ScanJoins', WHERE WHAT IT READS IS OF BULK AT MOST 1048576: true; the input reads as it did. -/
def scanJoinsUptoRow : OpenClaim := { program := "ytajphaljpkeecaadoor", sum := "a2ffaa2a6d10f3c135aaece5f95d7fb50cb75d8394b2f846e6a587e69a8ecde2", func := "couplet/coupletlaw13.ScanJoins", spec := "scanJoins", unfollowed := true, recurses := true, named := ["couplet/sum.nibbles"], apart := false, laid := [("couplet/sum.nibbles", laid_couplet_sum_nibbles)], narrowed := true }
def ScanJoinsUptoSaid : Prop := scanJoinsUptoRow.holds Tryd.pinned (OpenSpec.upto scanJoinsSpec)

/-- 'coupletlaw13.ScanStops', WHERE WHAT IT READS IS OF BULK AT MOST 1048576: true; the input reads as it did. -/
def scanStopsUptoRow : OpenClaim := { program := "ytajphaljpkeecaadoor", sum := "a2ffaa2a6d10f3c135aaece5f95d7fb50cb75d8394b2f846e6a587e69a8ecde2", func := "couplet/coupletlaw13.ScanStops", spec := "scanStops", unfollowed := true, recurses := true, named := ["couplet/sum.nibbles"], apart := false, laid := [("couplet/sum.nibbles", laid_couplet_sum_nibbles)], narrowed := true }
def ScanStopsUptoSaid : Prop := scanStopsUptoRow.holds Tryd.pinned (OpenSpec.upto scanStopsSpec)

/-- 'coupletlaw13.ScanNoise', WHERE WHAT IT READS IS OF BULK AT MOST 1048576: true; the input reads as it did. -/
def scanNoiseUptoRow : OpenClaim := { program := "ytajphaljpkeecaadoor", sum := "a2ffaa2a6d10f3c135aaece5f95d7fb50cb75d8394b2f846e6a587e69a8ecde2", func := "couplet/coupletlaw13.ScanNoise", spec := "scanNoise", unfollowed := true, recurses := true, named := ["couplet/sum.nibbles"], apart := false, laid := [("couplet/sum.nibbles", laid_couplet_sum_nibbles)], narrowed := true }
def ScanNoiseUptoSaid : Prop := scanNoiseUptoRow.holds Tryd.pinned (OpenSpec.upto scanNoiseSpec)

/-- 'coupletlaw13.ScanTwo', WHERE WHAT IT READS IS OF BULK AT MOST 1048576: true; the input reads as it did. -/
def scanTwoUptoRow : OpenClaim := { program := "ytajphaljpkeecaadoor", sum := "a2ffaa2a6d10f3c135aaece5f95d7fb50cb75d8394b2f846e6a587e69a8ecde2", func := "couplet/coupletlaw13.ScanTwo", spec := "scanTwo", unfollowed := true, recurses := true, named := ["couplet/sum.nibbles"], apart := false, laid := [("couplet/sum.nibbles", laid_couplet_sum_nibbles)], narrowed := true }
def ScanTwoUptoSaid : Prop := scanTwoUptoRow.holds Tryd.pinned (OpenSpec.upto scanTwoSpec)

/-- 'coupletlaw13.ScanNone', WHERE WHAT IT READS IS OF BULK AT MOST 1048576: true; the input reads as it did. -/
def scanNoneUptoRow : OpenClaim := { program := "ytajphaljpkeecaadoor", sum := "a2ffaa2a6d10f3c135aaece5f95d7fb50cb75d8394b2f846e6a587e69a8ecde2", func := "couplet/coupletlaw13.ScanNone", spec := "scanNone", unfollowed := true, recurses := true, named := ["couplet/sum.nibbles"], apart := false, laid := [("couplet/sum.nibbles", laid_couplet_sum_nibbles)], narrowed := true }
def ScanNoneUptoSaid : Prop := scanNoneUptoRow.holds Tryd.pinned (OpenSpec.upto scanNoneSpec)

end Rows
end Go.Proofs.YtajphaljpkeecaaDoor
