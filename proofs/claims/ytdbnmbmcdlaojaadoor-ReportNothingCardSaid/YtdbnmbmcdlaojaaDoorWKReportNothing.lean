/-
  A closed fact of the row ReportNothing, part by part, in a text of its own (in one piece the kernel wants more than 10 GB for it).
-/
import Derived.Test.YtdbnmbmcdlaojaaDoorRows
import Derived.Test.YtdbnmbmcdlaojaaDoorFxRow
namespace Go.Proofs.YtdbnmbmcdlaojaaDoor
open Go Go.Fx Go.ChangeShapes Go.WideShapes Go.ChangeAt Go.RowKit Go.Proofs
set_option maxRecDepth 100000
theorem and_i {a b : Bool} (h : a = true) (h' : b = true) : (a && b) = true := by rw [h, h']; rfl
theorem reportNothing_q0 : (Rows.reportNothingRow.wf (OpenSpec.ofChange Rows.reportNothingSpec)) = true := by kernel_rfl
theorem reportNothing_q1 : (laidOutB Tryd.pinned.checked.prog) = true := by kernel_rfl
theorem reportNothing_q2 : (mapsRowed Tryd.pinned.checked.prog) = true := by kernel_rfl
theorem reportNothing_q3 : (Tryd.f3.params.all (Tryd.pinned.checked.prog.readableRec ·)) = true := by kernel_rfl
theorem reportNothing_q4 : (namedTie Tryd.pinned.checked.prog Rows.reportNothingRow.named Rows.reportNothingSpec.vars) = true := by kernel_rfl
theorem reportNothing_q5 : ((Rows.reportNothingRow.stops == [])) = true := by kernel_rfl
theorem reportNothing_q6 : ((Tryd.pinned.checked.prog.stops == [])) = true := by kernel_rfl
theorem reportNothing_q7 : ((Rows.reportNothingRow.knobs == [])) = true := by kernel_rfl
theorem reportNothing_q8 : ((Tryd.pinned.checked.prog.stopKnobs == [])) = true := by kernel_rfl
theorem reportNothing_q9 : ((Rows.reportNothingRow.inPlace == Tryd.pinned.checked.prog.inPlace 3)) = true := by kernel_rfl
theorem reportNothing_q10 : ((Rows.reportNothingRow.unfollowed == Tryd.pinned.checked.prog.unfollowed 3)) = true := by kernel_rfl
theorem reportNothing_q11 : ((Rows.reportNothingRow.recurses == Tryd.pinned.checked.prog.recurses 3)) = true := by kernel_rfl
theorem reportNothing_q12 : ((Rows.reportNothingRow.named == Tryd.pinned.checked.prog.varsNamed 3)) = true := by kernel_rfl
theorem reportNothing_q13 : ((Rows.reportNothingRow.maps == (Tryd.f3.params.toList ++ Rows.reportNothingSpec.plain.varTypes Tryd.pinned.checked.prog).any (Tryd.pinned.checked.prog.mapsRec ·))) = true := by kernel_rfl
theorem reportNothing_q14 : ((Rows.reportNothingRow.ifaces == (Tryd.f3.params.toList ++ Rows.reportNothingSpec.plain.varTypes Tryd.pinned.checked.prog).any (Tryd.pinned.checked.prog.ifacesRec ·))) = true := by kernel_rfl
theorem reportNothing_q15 : ((Rows.reportNothingRow.mapsOut == Tryd.pinned.checked.prog.mapsAmong Tryd.f3.resultTypes.toList)) = true := by kernel_rfl
theorem reportNothing_q16 : ((Rows.reportNothingRow.loops == (Tryd.f3.params.toList ++ Rows.reportNothingSpec.plain.varTypes Tryd.pinned.checked.prog).any (Tryd.pinned.checked.prog.loopsFrom ·))) = true := by kernel_rfl
theorem reportNothing_q17 : ((Rows.reportNothingRow.wideKeys == (Tryd.f3.params.toList ++ Rows.reportNothingSpec.plain.varTypes Tryd.pinned.checked.prog ++ Tryd.f3.resultTypes.toList).any (Tryd.pinned.checked.prog.wideKeysFrom ·))) = true := by kernel_rfl
theorem reportNothing_q18 : (Rows.reportNothingSpec.vars.all (Tryd.pinned.checked.prog.varReadable ·)) = true := by kernel_rfl
theorem reportNothing_q19 : (Tryd.f3.resultTypes.all (fun t => Tryd.pinned.checked.prog.readableRec t && decide (t < Tryd.pinned.checked.prog.types.size))) = true := by kernel_rfl
theorem reportNothing_q20 : ((Rows.reportNothingRow.ifacesOut == Tryd.f3.resultTypes.toList.any (Tryd.pinned.checked.prog.ifacesRec ·))) = true := by kernel_rfl
theorem reportNothing_q21 : ((Rows.reportNothingRow.loopsOut == Tryd.f3.resultTypes.toList.any (Tryd.pinned.checked.prog.loopsFrom ·))) = true := by kernel_rfl
theorem reportNothing_q22 : ((Rows.reportNothingRow.plainKeys == Tryd.pinned.checked.prog.plainKeys)) = true := by kernel_rfl
theorem reportNothing_q23 : (Rows.reportNothingRow.shortTexts.isNone) = true := by kernel_rfl
theorem reportNothing_q24 : (Tryd.pinned.checked.prog.stopsHeard) = true := by kernel_rfl
theorem reportNothing_q25 : (Tryd.pinned.checked.prog.mayEnter) = true := by kernel_rfl
theorem reportNothing_q26 : ((Rows.reportNothingRow.lifted == Tryd.pinned.checked.prog.liftsFinal)) = true := by kernel_rfl
theorem reportNothing_q27 : ((Tryd.pinned.checked.prog.make == some Rows.reportNothingRow.make)) = true := by kernel_rfl
theorem reportNothing_q28 : ((Rows.reportNothingRow.kinds == (if Rows.reportNothingRow.domain.isEmpty then [] else Tryd.f3.params.toList.map fun t => match Tryd.pinned.checked.prog.underlying t with | some (.int k) => some k | _ => none))) = true := by kernel_rfl
theorem reportNothing_q29 : ((Rows.reportNothingRow.pinned == Rows.reportNothingRow.pinnedBy)) = true := by kernel_rfl
theorem reportNothing_q30 : ((Rows.reportNothingRow.veiled == (Tryd.f3.params.toList ++ Rows.reportNothingSpec.plain.varTypes Tryd.pinned.checked.prog ++ Tryd.f3.resultTypes.toList).any (Tryd.pinned.checked.prog.veiledRec ·))) = true := by kernel_rfl
theorem reportNothing_q31 : (Rows.reportNothingRow.veiledFits Tryd.pinned.checked.prog Tryd.f3.params.toList (Tryd.f3.params.toList ++ Rows.reportNothingSpec.plain.varTypes Tryd.pinned.checked.prog ++ Tryd.f3.resultTypes.toList)) = true := by kernel_rfl
theorem reportNothing_k2 : joinedFacts Tryd.pinned.checked.prog 3 Tryd.f3 Rows.reportNothingSpec Rows.reportNothingRow = true := (and_i (and_i (and_i (and_i (and_i (and_i (and_i (and_i (and_i (and_i (and_i (and_i (and_i (and_i (and_i (and_i (and_i (and_i (and_i (and_i (and_i (and_i (and_i (and_i (and_i (and_i (and_i (and_i (and_i (and_i (and_i reportNothing_q0 reportNothing_q1) reportNothing_q2) reportNothing_q3) reportNothing_q4) reportNothing_q5) reportNothing_q6) reportNothing_q7) reportNothing_q8) reportNothing_q9) reportNothing_q10) reportNothing_q11) reportNothing_q12) reportNothing_q13) reportNothing_q14) reportNothing_q15) reportNothing_q16) reportNothing_q17) reportNothing_q18) reportNothing_q19) reportNothing_q20) reportNothing_q21) reportNothing_q22) reportNothing_q23) reportNothing_q24) reportNothing_q25) reportNothing_q26) reportNothing_q27) reportNothing_q28) reportNothing_q29) reportNothing_q30) reportNothing_q31)
end Go.Proofs.YtdbnmbmcdlaojaaDoor
