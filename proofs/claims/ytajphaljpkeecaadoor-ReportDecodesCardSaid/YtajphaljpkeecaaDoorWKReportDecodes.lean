/-
  A closed fact of the row ReportDecodes, part by part, in a text of its own (in one piece the kernel wants more than 10 GB for it).
-/
import Derived.Test.YtajphaljpkeecaaDoorRows
import Derived.Test.YtajphaljpkeecaaDoorFxRow
namespace Go.Proofs.YtajphaljpkeecaaDoor
open Go Go.Fx Go.ChangeShapes Go.WideShapes Go.ChangeAt Go.RowKit Go.Proofs
set_option maxRecDepth 100000

theorem and_i {a b : Bool} (h : a = true) (h' : b = true) : (a && b) = true := by rw [h, h']; rfl
theorem reportDecodes_q0 : (Rows.reportDecodesRow.wf (OpenSpec.ofChange Rows.reportDecodesSpec)) = true := by kernel_rfl
theorem reportDecodes_q1 : (laidOutB Tryd.pinned.checked.prog) = true := by kernel_rfl
theorem reportDecodes_q2 : (mapsRowed Tryd.pinned.checked.prog) = true := by kernel_rfl
theorem reportDecodes_q3 : (Tryd.f11.params.all (Tryd.pinned.checked.prog.readableRec ·)) = true := by kernel_rfl
theorem reportDecodes_q4 : (namedTie Tryd.pinned.checked.prog Rows.reportDecodesRow.named Rows.reportDecodesSpec.vars) = true := by kernel_rfl
theorem reportDecodes_q5 : ((Rows.reportDecodesRow.stops == [])) = true := by kernel_rfl
theorem reportDecodes_q6 : ((Tryd.pinned.checked.prog.stops == [])) = true := by kernel_rfl
theorem reportDecodes_q7 : ((Rows.reportDecodesRow.knobs == [])) = true := by kernel_rfl
theorem reportDecodes_q8 : ((Tryd.pinned.checked.prog.stopKnobs == [])) = true := by kernel_rfl
theorem reportDecodes_q9 : ((Rows.reportDecodesRow.inPlace == Tryd.pinned.checked.prog.inPlace 11)) = true := by kernel_rfl
theorem reportDecodes_q10 : ((Rows.reportDecodesRow.unfollowed == Tryd.pinned.checked.prog.unfollowed 11)) = true := by kernel_rfl
theorem reportDecodes_q11 : ((Rows.reportDecodesRow.recurses == Tryd.pinned.checked.prog.recurses 11)) = true := by kernel_rfl
theorem reportDecodes_q12 : ((Rows.reportDecodesRow.named == Tryd.pinned.checked.prog.varsNamed 11)) = true := by kernel_rfl
theorem reportDecodes_q13 : ((Rows.reportDecodesRow.maps == (Tryd.f11.params.toList ++ Rows.reportDecodesSpec.plain.varTypes Tryd.pinned.checked.prog).any (Tryd.pinned.checked.prog.mapsRec ·))) = true := by kernel_rfl
theorem reportDecodes_q14 : ((Rows.reportDecodesRow.ifaces == (Tryd.f11.params.toList ++ Rows.reportDecodesSpec.plain.varTypes Tryd.pinned.checked.prog).any (Tryd.pinned.checked.prog.ifacesRec ·))) = true := by kernel_rfl
theorem reportDecodes_q15 : ((Rows.reportDecodesRow.mapsOut == Tryd.pinned.checked.prog.mapsAmong Tryd.f11.resultTypes.toList)) = true := by kernel_rfl
theorem reportDecodes_q16 : ((Rows.reportDecodesRow.loops == (Tryd.f11.params.toList ++ Rows.reportDecodesSpec.plain.varTypes Tryd.pinned.checked.prog).any (Tryd.pinned.checked.prog.loopsFrom ·))) = true := by kernel_rfl
theorem reportDecodes_q17 : ((Rows.reportDecodesRow.wideKeys == (Tryd.f11.params.toList ++ Rows.reportDecodesSpec.plain.varTypes Tryd.pinned.checked.prog ++ Tryd.f11.resultTypes.toList).any (Tryd.pinned.checked.prog.wideKeysFrom ·))) = true := by kernel_rfl
theorem reportDecodes_q18 : (Rows.reportDecodesSpec.vars.all (Tryd.pinned.checked.prog.varReadable ·)) = true := by kernel_rfl
theorem reportDecodes_q19 : (Tryd.f11.resultTypes.all (fun t => Tryd.pinned.checked.prog.readableRec t && decide (t < Tryd.pinned.checked.prog.types.size))) = true := by kernel_rfl
theorem reportDecodes_q20 : ((Rows.reportDecodesRow.ifacesOut == Tryd.f11.resultTypes.toList.any (Tryd.pinned.checked.prog.ifacesRec ·))) = true := by kernel_rfl
theorem reportDecodes_q21 : ((Rows.reportDecodesRow.loopsOut == Tryd.f11.resultTypes.toList.any (Tryd.pinned.checked.prog.loopsFrom ·))) = true := by kernel_rfl
theorem reportDecodes_q22 : ((Rows.reportDecodesRow.plainKeys == Tryd.pinned.checked.prog.plainKeys)) = true := by kernel_rfl
theorem reportDecodes_q23 : (Rows.reportDecodesRow.shortTexts.isNone) = true := by kernel_rfl
theorem reportDecodes_q24 : (Tryd.pinned.checked.prog.stopsHeard) = true := by kernel_rfl
theorem reportDecodes_q25 : (Tryd.pinned.checked.prog.mayEnter) = true := by kernel_rfl
theorem reportDecodes_q26 : ((Rows.reportDecodesRow.lifted == Tryd.pinned.checked.prog.liftsFinal)) = true := by kernel_rfl
theorem reportDecodes_q27 : ((Tryd.pinned.checked.prog.make == some Rows.reportDecodesRow.make)) = true := by kernel_rfl
theorem reportDecodes_q28 : ((Rows.reportDecodesRow.kinds == (if Rows.reportDecodesRow.domain.isEmpty then [] else Tryd.f11.params.toList.map fun t => match Tryd.pinned.checked.prog.underlying t with | some (.int k) => some k | _ => none))) = true := by kernel_rfl
theorem reportDecodes_q29 : ((Rows.reportDecodesRow.pinned == Rows.reportDecodesRow.pinnedBy)) = true := by kernel_rfl
theorem reportDecodes_q30 : ((Rows.reportDecodesRow.veiled == (Tryd.f11.params.toList ++ Rows.reportDecodesSpec.plain.varTypes Tryd.pinned.checked.prog ++ Tryd.f11.resultTypes.toList).any (Tryd.pinned.checked.prog.veiledRec ·))) = true := by kernel_rfl
theorem reportDecodes_q31 : (Rows.reportDecodesRow.veiledFits Tryd.pinned.checked.prog Tryd.f11.params.toList (Tryd.f11.params.toList ++ Rows.reportDecodesSpec.plain.varTypes Tryd.pinned.checked.prog ++ Tryd.f11.resultTypes.toList)) = true := by kernel_rfl
theorem reportDecodes_k2 : joinedFacts Tryd.pinned.checked.prog 11 Tryd.f11 Rows.reportDecodesSpec Rows.reportDecodesRow = true := (and_i (and_i (and_i (and_i (and_i (and_i (and_i (and_i (and_i (and_i (and_i (and_i (and_i (and_i (and_i (and_i (and_i (and_i (and_i (and_i (and_i (and_i (and_i (and_i (and_i (and_i (and_i (and_i (and_i (and_i (and_i reportDecodes_q0 reportDecodes_q1) reportDecodes_q2) reportDecodes_q3) reportDecodes_q4) reportDecodes_q5) reportDecodes_q6) reportDecodes_q7) reportDecodes_q8) reportDecodes_q9) reportDecodes_q10) reportDecodes_q11) reportDecodes_q12) reportDecodes_q13) reportDecodes_q14) reportDecodes_q15) reportDecodes_q16) reportDecodes_q17) reportDecodes_q18) reportDecodes_q19) reportDecodes_q20) reportDecodes_q21) reportDecodes_q22) reportDecodes_q23) reportDecodes_q24) reportDecodes_q25) reportDecodes_q26) reportDecodes_q27) reportDecodes_q28) reportDecodes_q29) reportDecodes_q30) reportDecodes_q31)

end Go.Proofs.YtajphaljpkeecaaDoor
