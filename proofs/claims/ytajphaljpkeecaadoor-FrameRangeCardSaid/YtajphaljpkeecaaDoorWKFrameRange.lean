/-
  A closed fact of the row FrameRange, part by part, in a text of its own (in one piece the kernel wants more than 10 GB for it).
-/
import Derived.Test.YtajphaljpkeecaaDoorRows
import Derived.Test.YtajphaljpkeecaaDoorFxRow
namespace Go.Proofs.YtajphaljpkeecaaDoor
open Go Go.Fx Go.ChangeShapes Go.WideShapes Go.ChangeAt Go.RowKit Go.Proofs
set_option maxRecDepth 100000

theorem and_i {a b : Bool} (h : a = true) (h' : b = true) : (a && b) = true := by rw [h, h']; rfl
theorem frameRange_q0 : (Rows.frameRangeRow.wf (OpenSpec.ofChange Rows.frameRangeSpec)) = true := by kernel_rfl
theorem frameRange_q1 : (laidOutB Tryd.pinned.checked.prog) = true := by kernel_rfl
theorem frameRange_q2 : (mapsRowed Tryd.pinned.checked.prog) = true := by kernel_rfl
theorem frameRange_q3 : (Tryd.f5.params.all (Tryd.pinned.checked.prog.readableRec ·)) = true := by kernel_rfl
theorem frameRange_q4 : (namedTie Tryd.pinned.checked.prog Rows.frameRangeRow.named Rows.frameRangeSpec.vars) = true := by kernel_rfl
theorem frameRange_q5 : ((Rows.frameRangeRow.stops == [])) = true := by kernel_rfl
theorem frameRange_q6 : ((Tryd.pinned.checked.prog.stops == [])) = true := by kernel_rfl
theorem frameRange_q7 : ((Rows.frameRangeRow.knobs == [])) = true := by kernel_rfl
theorem frameRange_q8 : ((Tryd.pinned.checked.prog.stopKnobs == [])) = true := by kernel_rfl
theorem frameRange_q9 : ((Rows.frameRangeRow.inPlace == Tryd.pinned.checked.prog.inPlace 5)) = true := by kernel_rfl
theorem frameRange_q10 : ((Rows.frameRangeRow.unfollowed == Tryd.pinned.checked.prog.unfollowed 5)) = true := by kernel_rfl
theorem frameRange_q11 : ((Rows.frameRangeRow.recurses == Tryd.pinned.checked.prog.recurses 5)) = true := by kernel_rfl
theorem frameRange_q12 : ((Rows.frameRangeRow.named == Tryd.pinned.checked.prog.varsNamed 5)) = true := by kernel_rfl
theorem frameRange_q13 : ((Rows.frameRangeRow.maps == (Tryd.f5.params.toList ++ Rows.frameRangeSpec.plain.varTypes Tryd.pinned.checked.prog).any (Tryd.pinned.checked.prog.mapsRec ·))) = true := by kernel_rfl
theorem frameRange_q14 : ((Rows.frameRangeRow.ifaces == (Tryd.f5.params.toList ++ Rows.frameRangeSpec.plain.varTypes Tryd.pinned.checked.prog).any (Tryd.pinned.checked.prog.ifacesRec ·))) = true := by kernel_rfl
theorem frameRange_q15 : ((Rows.frameRangeRow.mapsOut == Tryd.pinned.checked.prog.mapsAmong Tryd.f5.resultTypes.toList)) = true := by kernel_rfl
theorem frameRange_q16 : ((Rows.frameRangeRow.loops == (Tryd.f5.params.toList ++ Rows.frameRangeSpec.plain.varTypes Tryd.pinned.checked.prog).any (Tryd.pinned.checked.prog.loopsFrom ·))) = true := by kernel_rfl
theorem frameRange_q17 : ((Rows.frameRangeRow.wideKeys == (Tryd.f5.params.toList ++ Rows.frameRangeSpec.plain.varTypes Tryd.pinned.checked.prog ++ Tryd.f5.resultTypes.toList).any (Tryd.pinned.checked.prog.wideKeysFrom ·))) = true := by kernel_rfl
theorem frameRange_q18 : (Rows.frameRangeSpec.vars.all (Tryd.pinned.checked.prog.varReadable ·)) = true := by kernel_rfl
theorem frameRange_q19 : (Tryd.f5.resultTypes.all (fun t => Tryd.pinned.checked.prog.readableRec t && decide (t < Tryd.pinned.checked.prog.types.size))) = true := by kernel_rfl
theorem frameRange_q20 : ((Rows.frameRangeRow.ifacesOut == Tryd.f5.resultTypes.toList.any (Tryd.pinned.checked.prog.ifacesRec ·))) = true := by kernel_rfl
theorem frameRange_q21 : ((Rows.frameRangeRow.loopsOut == Tryd.f5.resultTypes.toList.any (Tryd.pinned.checked.prog.loopsFrom ·))) = true := by kernel_rfl
theorem frameRange_q22 : ((Rows.frameRangeRow.plainKeys == Tryd.pinned.checked.prog.plainKeys)) = true := by kernel_rfl
theorem frameRange_q23 : (Rows.frameRangeRow.shortTexts.isNone) = true := by kernel_rfl
theorem frameRange_q24 : (Tryd.pinned.checked.prog.stopsHeard) = true := by kernel_rfl
theorem frameRange_q25 : (Tryd.pinned.checked.prog.mayEnter) = true := by kernel_rfl
theorem frameRange_q26 : ((Rows.frameRangeRow.lifted == Tryd.pinned.checked.prog.liftsFinal)) = true := by kernel_rfl
theorem frameRange_q27 : ((Tryd.pinned.checked.prog.make == some Rows.frameRangeRow.make)) = true := by kernel_rfl
theorem frameRange_q28 : ((Rows.frameRangeRow.kinds == (if Rows.frameRangeRow.domain.isEmpty then [] else Tryd.f5.params.toList.map fun t => match Tryd.pinned.checked.prog.underlying t with | some (.int k) => some k | _ => none))) = true := by kernel_rfl
theorem frameRange_q29 : ((Rows.frameRangeRow.pinned == Rows.frameRangeRow.pinnedBy)) = true := by kernel_rfl
theorem frameRange_q30 : ((Rows.frameRangeRow.veiled == (Tryd.f5.params.toList ++ Rows.frameRangeSpec.plain.varTypes Tryd.pinned.checked.prog ++ Tryd.f5.resultTypes.toList).any (Tryd.pinned.checked.prog.veiledRec ·))) = true := by kernel_rfl
theorem frameRange_q31 : (Rows.frameRangeRow.veiledFits Tryd.pinned.checked.prog Tryd.f5.params.toList (Tryd.f5.params.toList ++ Rows.frameRangeSpec.plain.varTypes Tryd.pinned.checked.prog ++ Tryd.f5.resultTypes.toList)) = true := by kernel_rfl
theorem frameRange_k2 : joinedFacts Tryd.pinned.checked.prog 5 Tryd.f5 Rows.frameRangeSpec Rows.frameRangeRow = true := (and_i (and_i (and_i (and_i (and_i (and_i (and_i (and_i (and_i (and_i (and_i (and_i (and_i (and_i (and_i (and_i (and_i (and_i (and_i (and_i (and_i (and_i (and_i (and_i (and_i (and_i (and_i (and_i (and_i (and_i (and_i frameRange_q0 frameRange_q1) frameRange_q2) frameRange_q3) frameRange_q4) frameRange_q5) frameRange_q6) frameRange_q7) frameRange_q8) frameRange_q9) frameRange_q10) frameRange_q11) frameRange_q12) frameRange_q13) frameRange_q14) frameRange_q15) frameRange_q16) frameRange_q17) frameRange_q18) frameRange_q19) frameRange_q20) frameRange_q21) frameRange_q22) frameRange_q23) frameRange_q24) frameRange_q25) frameRange_q26) frameRange_q27) frameRange_q28) frameRange_q29) frameRange_q30) frameRange_q31)

end Go.Proofs.YtajphaljpkeecaaDoor
