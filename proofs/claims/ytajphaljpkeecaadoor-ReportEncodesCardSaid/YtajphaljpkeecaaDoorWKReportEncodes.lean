/-
  A closed fact of the row ReportEncodes, part by part, in a text of its own (in one piece the kernel wants more than 10 GB for it).
-/
import Derived.Test.YtajphaljpkeecaaDoorRows
import Derived.Test.YtajphaljpkeecaaDoorFxRow
namespace Go.Proofs.YtajphaljpkeecaaDoor
open Go Go.Fx Go.ChangeShapes Go.WideShapes Go.ChangeAt Go.RowKit Go.Proofs
set_option maxRecDepth 100000

theorem and_i {a b : Bool} (h : a = true) (h' : b = true) : (a && b) = true := by rw [h, h']; rfl
theorem reportEncodes_q0 : (Rows.reportEncodesRow.wf (OpenSpec.ofChange Rows.reportEncodesSpec)) = true := by kernel_rfl
theorem reportEncodes_q1 : (laidOutB Tryd.pinned.checked.prog) = true := by kernel_rfl
theorem reportEncodes_q2 : (mapsRowed Tryd.pinned.checked.prog) = true := by kernel_rfl
theorem reportEncodes_q3 : (Tryd.f10.params.all (Tryd.pinned.checked.prog.readableRec ·)) = true := by kernel_rfl
theorem reportEncodes_q4 : (namedTie Tryd.pinned.checked.prog Rows.reportEncodesRow.named Rows.reportEncodesSpec.vars) = true := by kernel_rfl
theorem reportEncodes_q5 : ((Rows.reportEncodesRow.stops == [])) = true := by kernel_rfl
theorem reportEncodes_q6 : ((Tryd.pinned.checked.prog.stops == [])) = true := by kernel_rfl
theorem reportEncodes_q7 : ((Rows.reportEncodesRow.knobs == [])) = true := by kernel_rfl
theorem reportEncodes_q8 : ((Tryd.pinned.checked.prog.stopKnobs == [])) = true := by kernel_rfl
theorem reportEncodes_q9 : ((Rows.reportEncodesRow.inPlace == Tryd.pinned.checked.prog.inPlace 10)) = true := by kernel_rfl
theorem reportEncodes_q10 : ((Rows.reportEncodesRow.unfollowed == Tryd.pinned.checked.prog.unfollowed 10)) = true := by kernel_rfl
theorem reportEncodes_q11 : ((Rows.reportEncodesRow.recurses == Tryd.pinned.checked.prog.recurses 10)) = true := by kernel_rfl
theorem reportEncodes_q12 : ((Rows.reportEncodesRow.named == Tryd.pinned.checked.prog.varsNamed 10)) = true := by kernel_rfl
theorem reportEncodes_q13 : ((Rows.reportEncodesRow.maps == (Tryd.f10.params.toList ++ Rows.reportEncodesSpec.plain.varTypes Tryd.pinned.checked.prog).any (Tryd.pinned.checked.prog.mapsRec ·))) = true := by kernel_rfl
theorem reportEncodes_q14 : ((Rows.reportEncodesRow.ifaces == (Tryd.f10.params.toList ++ Rows.reportEncodesSpec.plain.varTypes Tryd.pinned.checked.prog).any (Tryd.pinned.checked.prog.ifacesRec ·))) = true := by kernel_rfl
theorem reportEncodes_q15 : ((Rows.reportEncodesRow.mapsOut == Tryd.pinned.checked.prog.mapsAmong Tryd.f10.resultTypes.toList)) = true := by kernel_rfl
theorem reportEncodes_q16 : ((Rows.reportEncodesRow.loops == (Tryd.f10.params.toList ++ Rows.reportEncodesSpec.plain.varTypes Tryd.pinned.checked.prog).any (Tryd.pinned.checked.prog.loopsFrom ·))) = true := by kernel_rfl
theorem reportEncodes_q17 : ((Rows.reportEncodesRow.wideKeys == (Tryd.f10.params.toList ++ Rows.reportEncodesSpec.plain.varTypes Tryd.pinned.checked.prog ++ Tryd.f10.resultTypes.toList).any (Tryd.pinned.checked.prog.wideKeysFrom ·))) = true := by kernel_rfl
theorem reportEncodes_q18 : (Rows.reportEncodesSpec.vars.all (Tryd.pinned.checked.prog.varReadable ·)) = true := by kernel_rfl
theorem reportEncodes_q19 : (Tryd.f10.resultTypes.all (fun t => Tryd.pinned.checked.prog.readableRec t && decide (t < Tryd.pinned.checked.prog.types.size))) = true := by kernel_rfl
theorem reportEncodes_q20 : ((Rows.reportEncodesRow.ifacesOut == Tryd.f10.resultTypes.toList.any (Tryd.pinned.checked.prog.ifacesRec ·))) = true := by kernel_rfl
theorem reportEncodes_q21 : ((Rows.reportEncodesRow.loopsOut == Tryd.f10.resultTypes.toList.any (Tryd.pinned.checked.prog.loopsFrom ·))) = true := by kernel_rfl
theorem reportEncodes_q22 : ((Rows.reportEncodesRow.plainKeys == Tryd.pinned.checked.prog.plainKeys)) = true := by kernel_rfl
theorem reportEncodes_q23 : (Rows.reportEncodesRow.shortTexts.isNone) = true := by kernel_rfl
theorem reportEncodes_q24 : (Tryd.pinned.checked.prog.stopsHeard) = true := by kernel_rfl
theorem reportEncodes_q25 : (Tryd.pinned.checked.prog.mayEnter) = true := by kernel_rfl
theorem reportEncodes_q26 : ((Rows.reportEncodesRow.lifted == Tryd.pinned.checked.prog.liftsFinal)) = true := by kernel_rfl
theorem reportEncodes_q27 : ((Tryd.pinned.checked.prog.make == some Rows.reportEncodesRow.make)) = true := by kernel_rfl
theorem reportEncodes_q28 : ((Rows.reportEncodesRow.kinds == (if Rows.reportEncodesRow.domain.isEmpty then [] else Tryd.f10.params.toList.map fun t => match Tryd.pinned.checked.prog.underlying t with | some (.int k) => some k | _ => none))) = true := by kernel_rfl
theorem reportEncodes_q29 : ((Rows.reportEncodesRow.pinned == Rows.reportEncodesRow.pinnedBy)) = true := by kernel_rfl
theorem reportEncodes_q30 : ((Rows.reportEncodesRow.veiled == (Tryd.f10.params.toList ++ Rows.reportEncodesSpec.plain.varTypes Tryd.pinned.checked.prog ++ Tryd.f10.resultTypes.toList).any (Tryd.pinned.checked.prog.veiledRec ·))) = true := by kernel_rfl
theorem reportEncodes_q31 : (Rows.reportEncodesRow.veiledFits Tryd.pinned.checked.prog Tryd.f10.params.toList (Tryd.f10.params.toList ++ Rows.reportEncodesSpec.plain.varTypes Tryd.pinned.checked.prog ++ Tryd.f10.resultTypes.toList)) = true := by kernel_rfl
theorem reportEncodes_k2 : joinedFacts Tryd.pinned.checked.prog 10 Tryd.f10 Rows.reportEncodesSpec Rows.reportEncodesRow = true := (and_i (and_i (and_i (and_i (and_i (and_i (and_i (and_i (and_i (and_i (and_i (and_i (and_i (and_i (and_i (and_i (and_i (and_i (and_i (and_i (and_i (and_i (and_i (and_i (and_i (and_i (and_i (and_i (and_i (and_i (and_i reportEncodes_q0 reportEncodes_q1) reportEncodes_q2) reportEncodes_q3) reportEncodes_q4) reportEncodes_q5) reportEncodes_q6) reportEncodes_q7) reportEncodes_q8) reportEncodes_q9) reportEncodes_q10) reportEncodes_q11) reportEncodes_q12) reportEncodes_q13) reportEncodes_q14) reportEncodes_q15) reportEncodes_q16) reportEncodes_q17) reportEncodes_q18) reportEncodes_q19) reportEncodes_q20) reportEncodes_q21) reportEncodes_q22) reportEncodes_q23) reportEncodes_q24) reportEncodes_q25) reportEncodes_q26) reportEncodes_q27) reportEncodes_q28) reportEncodes_q29) reportEncodes_q30) reportEncodes_q31)

end Go.Proofs.YtajphaljpkeecaaDoor
