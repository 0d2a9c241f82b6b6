/-
  A closed fact of the row ReportLong, part by part, in a text of its own (in one piece the kernel wants more than 10 GB for it).
-/
import Derived.Test.YtajphaljpkeecaaDoorRows
import Derived.Test.YtajphaljpkeecaaDoorFxRow
namespace Go.Proofs.YtajphaljpkeecaaDoor
open Go Go.Fx Go.ChangeShapes Go.WideShapes Go.ChangeAt Go.RowKit Go.Proofs
set_option maxRecDepth 100000

theorem and_i {a b : Bool} (h : a = true) (h' : b = true) : (a && b) = true := by rw [h, h']; rfl
theorem reportLong_q0 : (Rows.reportLongRow.wf (OpenSpec.ofChange Rows.reportLongSpec)) = true := by kernel_rfl
theorem reportLong_q1 : (laidOutB Tryd.pinned.checked.prog) = true := by kernel_rfl
theorem reportLong_q2 : (mapsRowed Tryd.pinned.checked.prog) = true := by kernel_rfl
theorem reportLong_q3 : (Tryd.f13.params.all (Tryd.pinned.checked.prog.readableRec ·)) = true := by kernel_rfl
theorem reportLong_q4 : (namedTie Tryd.pinned.checked.prog Rows.reportLongRow.named Rows.reportLongSpec.vars) = true := by kernel_rfl
theorem reportLong_q5 : ((Rows.reportLongRow.stops == [])) = true := by kernel_rfl
theorem reportLong_q6 : ((Tryd.pinned.checked.prog.stops == [])) = true := by kernel_rfl
theorem reportLong_q7 : ((Rows.reportLongRow.knobs == [])) = true := by kernel_rfl
theorem reportLong_q8 : ((Tryd.pinned.checked.prog.stopKnobs == [])) = true := by kernel_rfl
theorem reportLong_q9 : ((Rows.reportLongRow.inPlace == Tryd.pinned.checked.prog.inPlace 13)) = true := by kernel_rfl
theorem reportLong_q10 : ((Rows.reportLongRow.unfollowed == Tryd.pinned.checked.prog.unfollowed 13)) = true := by kernel_rfl
theorem reportLong_q11 : ((Rows.reportLongRow.recurses == Tryd.pinned.checked.prog.recurses 13)) = true := by kernel_rfl
theorem reportLong_q12 : ((Rows.reportLongRow.named == Tryd.pinned.checked.prog.varsNamed 13)) = true := by kernel_rfl
theorem reportLong_q13 : ((Rows.reportLongRow.maps == (Tryd.f13.params.toList ++ Rows.reportLongSpec.plain.varTypes Tryd.pinned.checked.prog).any (Tryd.pinned.checked.prog.mapsRec ·))) = true := by kernel_rfl
theorem reportLong_q14 : ((Rows.reportLongRow.ifaces == (Tryd.f13.params.toList ++ Rows.reportLongSpec.plain.varTypes Tryd.pinned.checked.prog).any (Tryd.pinned.checked.prog.ifacesRec ·))) = true := by kernel_rfl
theorem reportLong_q15 : ((Rows.reportLongRow.mapsOut == Tryd.pinned.checked.prog.mapsAmong Tryd.f13.resultTypes.toList)) = true := by kernel_rfl
theorem reportLong_q16 : ((Rows.reportLongRow.loops == (Tryd.f13.params.toList ++ Rows.reportLongSpec.plain.varTypes Tryd.pinned.checked.prog).any (Tryd.pinned.checked.prog.loopsFrom ·))) = true := by kernel_rfl
theorem reportLong_q17 : ((Rows.reportLongRow.wideKeys == (Tryd.f13.params.toList ++ Rows.reportLongSpec.plain.varTypes Tryd.pinned.checked.prog ++ Tryd.f13.resultTypes.toList).any (Tryd.pinned.checked.prog.wideKeysFrom ·))) = true := by kernel_rfl
theorem reportLong_q18 : (Rows.reportLongSpec.vars.all (Tryd.pinned.checked.prog.varReadable ·)) = true := by kernel_rfl
theorem reportLong_q19 : (Tryd.f13.resultTypes.all (fun t => Tryd.pinned.checked.prog.readableRec t && decide (t < Tryd.pinned.checked.prog.types.size))) = true := by kernel_rfl
theorem reportLong_q20 : ((Rows.reportLongRow.ifacesOut == Tryd.f13.resultTypes.toList.any (Tryd.pinned.checked.prog.ifacesRec ·))) = true := by kernel_rfl
theorem reportLong_q21 : ((Rows.reportLongRow.loopsOut == Tryd.f13.resultTypes.toList.any (Tryd.pinned.checked.prog.loopsFrom ·))) = true := by kernel_rfl
theorem reportLong_q22 : ((Rows.reportLongRow.plainKeys == Tryd.pinned.checked.prog.plainKeys)) = true := by kernel_rfl
theorem reportLong_q23 : (Rows.reportLongRow.shortTexts.isNone) = true := by kernel_rfl
theorem reportLong_q24 : (Tryd.pinned.checked.prog.stopsHeard) = true := by kernel_rfl
theorem reportLong_q25 : (Tryd.pinned.checked.prog.mayEnter) = true := by kernel_rfl
theorem reportLong_q26 : ((Rows.reportLongRow.lifted == Tryd.pinned.checked.prog.liftsFinal)) = true := by kernel_rfl
theorem reportLong_q27 : ((Tryd.pinned.checked.prog.make == some Rows.reportLongRow.make)) = true := by kernel_rfl
theorem reportLong_q28 : ((Rows.reportLongRow.kinds == (if Rows.reportLongRow.domain.isEmpty then [] else Tryd.f13.params.toList.map fun t => match Tryd.pinned.checked.prog.underlying t with | some (.int k) => some k | _ => none))) = true := by kernel_rfl
theorem reportLong_q29 : ((Rows.reportLongRow.pinned == Rows.reportLongRow.pinnedBy)) = true := by kernel_rfl
theorem reportLong_q30 : ((Rows.reportLongRow.veiled == (Tryd.f13.params.toList ++ Rows.reportLongSpec.plain.varTypes Tryd.pinned.checked.prog ++ Tryd.f13.resultTypes.toList).any (Tryd.pinned.checked.prog.veiledRec ·))) = true := by kernel_rfl
theorem reportLong_q31 : (Rows.reportLongRow.veiledFits Tryd.pinned.checked.prog Tryd.f13.params.toList (Tryd.f13.params.toList ++ Rows.reportLongSpec.plain.varTypes Tryd.pinned.checked.prog ++ Tryd.f13.resultTypes.toList)) = true := by kernel_rfl
theorem reportLong_k2 : joinedFacts Tryd.pinned.checked.prog 13 Tryd.f13 Rows.reportLongSpec Rows.reportLongRow = true := (and_i (and_i (and_i (and_i (and_i (and_i (and_i (and_i (and_i (and_i (and_i (and_i (and_i (and_i (and_i (and_i (and_i (and_i (and_i (and_i (and_i (and_i (and_i (and_i (and_i (and_i (and_i (and_i (and_i (and_i (and_i reportLong_q0 reportLong_q1) reportLong_q2) reportLong_q3) reportLong_q4) reportLong_q5) reportLong_q6) reportLong_q7) reportLong_q8) reportLong_q9) reportLong_q10) reportLong_q11) reportLong_q12) reportLong_q13) reportLong_q14) reportLong_q15) reportLong_q16) reportLong_q17) reportLong_q18) reportLong_q19) reportLong_q20) reportLong_q21) reportLong_q22) reportLong_q23) reportLong_q24) reportLong_q25) reportLong_q26) reportLong_q27) reportLong_q28) reportLong_q29) reportLong_q30) reportLong_q31)

end Go.Proofs.YtajphaljpkeecaaDoor
