/-
  A closed fact of the row ReportTurned, part by part, in a text of its own (in one piece the kernel wants more than 10 GB for it).
-/
import Derived.Test.YtajphaljpkeecaaDoorRows
import Derived.Test.YtajphaljpkeecaaDoorFxRow
namespace Go.Proofs.YtajphaljpkeecaaDoor
open Go Go.Fx Go.ChangeShapes Go.WideShapes Go.ChangeAt Go.RowKit Go.Proofs
set_option maxRecDepth 100000
theorem and_i {a b : Bool} (h : a = true) (h' : b = true) : (a && b) = true := by rw [h, h']; rfl
theorem reportTurned_q0 : (Rows.reportTurnedRow.wf (OpenSpec.ofChange Rows.reportTurnedSpec)) = true := by kernel_rfl
theorem reportTurned_q1 : (laidOutB Tryd.pinned.checked.prog) = true := by kernel_rfl
theorem reportTurned_q2 : (mapsRowed Tryd.pinned.checked.prog) = true := by kernel_rfl
theorem reportTurned_q3 : (Tryd.f12.params.all (Tryd.pinned.checked.prog.readableRec ·)) = true := by kernel_rfl
theorem reportTurned_q4 : (namedTie Tryd.pinned.checked.prog Rows.reportTurnedRow.named Rows.reportTurnedSpec.vars) = true := by kernel_rfl
theorem reportTurned_q5 : ((Rows.reportTurnedRow.stops == [])) = true := by kernel_rfl
theorem reportTurned_q6 : ((Tryd.pinned.checked.prog.stops == [])) = true := by kernel_rfl
theorem reportTurned_q7 : ((Rows.reportTurnedRow.knobs == [])) = true := by kernel_rfl
theorem reportTurned_q8 : ((Tryd.pinned.checked.prog.stopKnobs == [])) = true := by kernel_rfl
theorem reportTurned_q9 : ((Rows.reportTurnedRow.inPlace == Tryd.pinned.checked.prog.inPlace 12)) = true := by kernel_rfl
theorem reportTurned_q10 : ((Rows.reportTurnedRow.unfollowed == Tryd.pinned.checked.prog.unfollowed 12)) = true := by kernel_rfl
theorem reportTurned_q11 : ((Rows.reportTurnedRow.recurses == Tryd.pinned.checked.prog.recurses 12)) = true := by kernel_rfl
theorem reportTurned_q12 : ((Rows.reportTurnedRow.named == Tryd.pinned.checked.prog.varsNamed 12)) = true := by kernel_rfl
theorem reportTurned_q13 : ((Rows.reportTurnedRow.maps == (Tryd.f12.params.toList ++ Rows.reportTurnedSpec.plain.varTypes Tryd.pinned.checked.prog).any (Tryd.pinned.checked.prog.mapsRec ·))) = true := by kernel_rfl
theorem reportTurned_q14 : ((Rows.reportTurnedRow.ifaces == (Tryd.f12.params.toList ++ Rows.reportTurnedSpec.plain.varTypes Tryd.pinned.checked.prog).any (Tryd.pinned.checked.prog.ifacesRec ·))) = true := by kernel_rfl
theorem reportTurned_q15 : ((Rows.reportTurnedRow.mapsOut == Tryd.pinned.checked.prog.mapsAmong Tryd.f12.resultTypes.toList)) = true := by kernel_rfl
theorem reportTurned_q16 : ((Rows.reportTurnedRow.loops == (Tryd.f12.params.toList ++ Rows.reportTurnedSpec.plain.varTypes Tryd.pinned.checked.prog).any (Tryd.pinned.checked.prog.loopsFrom ·))) = true := by kernel_rfl
theorem reportTurned_q17 : ((Rows.reportTurnedRow.wideKeys == (Tryd.f12.params.toList ++ Rows.reportTurnedSpec.plain.varTypes Tryd.pinned.checked.prog ++ Tryd.f12.resultTypes.toList).any (Tryd.pinned.checked.prog.wideKeysFrom ·))) = true := by kernel_rfl
theorem reportTurned_q18 : (Rows.reportTurnedSpec.vars.all (Tryd.pinned.checked.prog.varReadable ·)) = true := by kernel_rfl
theorem reportTurned_q19 : (Tryd.f12.resultTypes.all (fun t => Tryd.pinned.checked.prog.readableRec t && decide (t < Tryd.pinned.checked.prog.types.size))) = true := by kernel_rfl
theorem reportTurned_q20 : ((Rows.reportTurnedRow.ifacesOut == Tryd.f12.resultTypes.toList.any (Tryd.pinned.checked.prog.ifacesRec ·))) = true := by kernel_rfl
theorem reportTurned_q21 : ((Rows.reportTurnedRow.loopsOut == Tryd.f12.resultTypes.toList.any (Tryd.pinned.checked.prog.loopsFrom ·))) = true := by kernel_rfl
theorem reportTurned_q22 : ((Rows.reportTurnedRow.plainKeys == Tryd.pinned.checked.prog.plainKeys)) = true := by kernel_rfl
theorem reportTurned_q23 : (Rows.reportTurnedRow.shortTexts.isNone) = true := by kernel_rfl
theorem reportTurned_q24 : (Tryd.pinned.checked.prog.stopsHeard) = true := by kernel_rfl
theorem reportTurned_q25 : (Tryd.pinned.checked.prog.mayEnter) = true := by kernel_rfl
theorem reportTurned_q26 : ((Rows.reportTurnedRow.lifted == Tryd.pinned.checked.prog.liftsFinal)) = true := by kernel_rfl
theorem reportTurned_q27 : ((Tryd.pinned.checked.prog.make == some Rows.reportTurnedRow.make)) = true := by kernel_rfl
theorem reportTurned_q28 : ((Rows.reportTurnedRow.kinds == (if Rows.reportTurnedRow.domain.isEmpty then [] else Tryd.f12.params.toList.map fun t => match Tryd.pinned.checked.prog.underlying t with | some (.int k) => some k | _ => none))) = true := by kernel_rfl
theorem reportTurned_q29 : ((Rows.reportTurnedRow.pinned == Rows.reportTurnedRow.pinnedBy)) = true := by kernel_rfl
theorem reportTurned_q30 : ((Rows.reportTurnedRow.veiled == (Tryd.f12.params.toList ++ Rows.reportTurnedSpec.plain.varTypes Tryd.pinned.checked.prog ++ Tryd.f12.resultTypes.toList).any (Tryd.pinned.checked.prog.veiledRec ·))) = true := by kernel_rfl
theorem reportTurned_q31 : (Rows.reportTurnedRow.veiledFits Tryd.pinned.checked.prog Tryd.f12.params.toList (Tryd.f12.params.toList ++ Rows.reportTurnedSpec.plain.varTypes Tryd.pinned.checked.prog ++ Tryd.f12.resultTypes.toList)) = true := by kernel_rfl
theorem reportTurned_k2 : joinedFacts Tryd.pinned.checked.prog 12 Tryd.f12 Rows.reportTurnedSpec Rows.reportTurnedRow = true := (and_i (and_i (and_i (and_i (and_i (and_i (and_i (and_i (and_i (and_i (and_i (and_i (and_i (and_i (and_i (and_i (and_i (and_i (and_i (and_i (and_i (and_i (and_i (and_i (and_i (and_i (and_i (and_i (and_i (and_i (and_i reportTurned_q0 reportTurned_q1) reportTurned_q2) reportTurned_q3) reportTurned_q4) reportTurned_q5) reportTurned_q6) reportTurned_q7) reportTurned_q8) reportTurned_q9) reportTurned_q10) reportTurned_q11) reportTurned_q12) reportTurned_q13) reportTurned_q14) reportTurned_q15) reportTurned_q16) reportTurned_q17) reportTurned_q18) reportTurned_q19) reportTurned_q20) reportTurned_q21) reportTurned_q22) reportTurned_q23) reportTurned_q24) reportTurned_q25) reportTurned_q26) reportTurned_q27) reportTurned_q28) reportTurned_q29) reportTurned_q30) reportTurned_q31)
end Go.Proofs.YtajphaljpkeecaaDoor
