/-
  A closed fact of the row FxBetween, part by part, in a text of its own (in one piece the kernel wants more than 10 GB for it).
-/
import Derived.Test.YtbfhholefjngpaaDoorRows
import Derived.Test.YtbfhholefjngpaaDoorFxRow
namespace Go.Proofs.YtbfhholefjngpaaDoor
open Go Go.Fx Go.ChangeShapes Go.WideShapes Go.ChangeAt Go.RowKit Go.Proofs
set_option maxRecDepth 100000

theorem and_i {a b : Bool} (h : a = true) (h' : b = true) : (a && b) = true := by rw [h, h']; rfl
theorem fxBetween_q0 : (Rows.fxBetweenRow.wf (OpenSpec.ofChange Rows.fxBetweenSpec)) = true := by kernel_rfl
theorem fxBetween_q1 : (laidOutB Tryd.pinned.checked.prog) = true := by kernel_rfl
theorem fxBetween_q2 : (mapsRowed Tryd.pinned.checked.prog) = true := by kernel_rfl
theorem fxBetween_q3 : (Tryd.f9.params.all (Tryd.pinned.checked.prog.readableRec ·)) = true := by kernel_rfl
theorem fxBetween_q4 : (namedTie Tryd.pinned.checked.prog Rows.fxBetweenRow.named Rows.fxBetweenSpec.vars) = true := by kernel_rfl
theorem fxBetween_q5 : ((Rows.fxBetweenRow.stops == [])) = true := by kernel_rfl
theorem fxBetween_q6 : ((Tryd.pinned.checked.prog.stops == [])) = true := by kernel_rfl
theorem fxBetween_q7 : ((Rows.fxBetweenRow.knobs == [])) = true := by kernel_rfl
theorem fxBetween_q8 : ((Tryd.pinned.checked.prog.stopKnobs == [])) = true := by kernel_rfl
theorem fxBetween_q9 : ((Rows.fxBetweenRow.inPlace == Tryd.pinned.checked.prog.inPlace 9)) = true := by kernel_rfl
theorem fxBetween_q10 : ((Rows.fxBetweenRow.unfollowed == Tryd.pinned.checked.prog.unfollowed 9)) = true := by kernel_rfl
theorem fxBetween_q11 : ((Rows.fxBetweenRow.recurses == Tryd.pinned.checked.prog.recurses 9)) = true := by kernel_rfl
theorem fxBetween_q12 : ((Rows.fxBetweenRow.named == Tryd.pinned.checked.prog.varsNamed 9)) = true := by kernel_rfl
theorem fxBetween_q13 : ((Rows.fxBetweenRow.maps == (Tryd.f9.params.toList ++ Rows.fxBetweenSpec.plain.varTypes Tryd.pinned.checked.prog).any (Tryd.pinned.checked.prog.mapsRec ·))) = true := by kernel_rfl
theorem fxBetween_q14 : ((Rows.fxBetweenRow.ifaces == (Tryd.f9.params.toList ++ Rows.fxBetweenSpec.plain.varTypes Tryd.pinned.checked.prog).any (Tryd.pinned.checked.prog.ifacesRec ·))) = true := by kernel_rfl
theorem fxBetween_q15 : ((Rows.fxBetweenRow.mapsOut == Tryd.pinned.checked.prog.mapsAmong Tryd.f9.resultTypes.toList)) = true := by kernel_rfl
theorem fxBetween_q16 : ((Rows.fxBetweenRow.loops == (Tryd.f9.params.toList ++ Rows.fxBetweenSpec.plain.varTypes Tryd.pinned.checked.prog).any (Tryd.pinned.checked.prog.loopsFrom ·))) = true := by kernel_rfl
theorem fxBetween_q17 : ((Rows.fxBetweenRow.wideKeys == (Tryd.f9.params.toList ++ Rows.fxBetweenSpec.plain.varTypes Tryd.pinned.checked.prog ++ Tryd.f9.resultTypes.toList).any (Tryd.pinned.checked.prog.wideKeysFrom ·))) = true := by kernel_rfl
theorem fxBetween_q18 : (Rows.fxBetweenSpec.vars.all (Tryd.pinned.checked.prog.varReadable ·)) = true := by kernel_rfl
theorem fxBetween_q19 : (Tryd.f9.resultTypes.all (fun t => Tryd.pinned.checked.prog.readableRec t && decide (t < Tryd.pinned.checked.prog.types.size))) = true := by kernel_rfl
theorem fxBetween_q20 : ((Rows.fxBetweenRow.ifacesOut == Tryd.f9.resultTypes.toList.any (Tryd.pinned.checked.prog.ifacesRec ·))) = true := by kernel_rfl
theorem fxBetween_q21 : ((Rows.fxBetweenRow.loopsOut == Tryd.f9.resultTypes.toList.any (Tryd.pinned.checked.prog.loopsFrom ·))) = true := by kernel_rfl
theorem fxBetween_q22 : ((Rows.fxBetweenRow.plainKeys == Tryd.pinned.checked.prog.plainKeys)) = true := by kernel_rfl
theorem fxBetween_q23 : (Rows.fxBetweenRow.shortTexts.isNone) = true := by kernel_rfl
theorem fxBetween_q24 : (Tryd.pinned.checked.prog.stopsHeard) = true := by kernel_rfl
theorem fxBetween_q25 : (Tryd.pinned.checked.prog.mayEnter) = true := by kernel_rfl
theorem fxBetween_q26 : ((Rows.fxBetweenRow.lifted == Tryd.pinned.checked.prog.liftsFinal)) = true := by kernel_rfl
theorem fxBetween_q27 : ((Tryd.pinned.checked.prog.make == some Rows.fxBetweenRow.make)) = true := by kernel_rfl
theorem fxBetween_q28 : ((Rows.fxBetweenRow.kinds == (if Rows.fxBetweenRow.domain.isEmpty then [] else Tryd.f9.params.toList.map fun t => match Tryd.pinned.checked.prog.underlying t with | some (.int k) => some k | _ => none))) = true := by kernel_rfl
theorem fxBetween_q29 : ((Rows.fxBetweenRow.pinned == Rows.fxBetweenRow.pinnedBy)) = true := by kernel_rfl
theorem fxBetween_q30 : ((Rows.fxBetweenRow.veiled == (Tryd.f9.params.toList ++ Rows.fxBetweenSpec.plain.varTypes Tryd.pinned.checked.prog ++ Tryd.f9.resultTypes.toList).any (Tryd.pinned.checked.prog.veiledRec ·))) = true := by kernel_rfl
theorem fxBetween_q31 : (Rows.fxBetweenRow.veiledFits Tryd.pinned.checked.prog Tryd.f9.params.toList (Tryd.f9.params.toList ++ Rows.fxBetweenSpec.plain.varTypes Tryd.pinned.checked.prog ++ Tryd.f9.resultTypes.toList)) = true := by kernel_rfl
theorem fxBetween_k2 : joinedFacts Tryd.pinned.checked.prog 9 Tryd.f9 Rows.fxBetweenSpec Rows.fxBetweenRow = true := (and_i (and_i (and_i (and_i (and_i (and_i (and_i (and_i (and_i (and_i (and_i (and_i (and_i (and_i (and_i (and_i (and_i (and_i (and_i (and_i (and_i (and_i (and_i (and_i (and_i (and_i (and_i (and_i (and_i (and_i (and_i fxBetween_q0 fxBetween_q1) fxBetween_q2) fxBetween_q3) fxBetween_q4) fxBetween_q5) fxBetween_q6) fxBetween_q7) fxBetween_q8) fxBetween_q9) fxBetween_q10) fxBetween_q11) fxBetween_q12) fxBetween_q13) fxBetween_q14) fxBetween_q15) fxBetween_q16) fxBetween_q17) fxBetween_q18) fxBetween_q19) fxBetween_q20) fxBetween_q21) fxBetween_q22) fxBetween_q23) fxBetween_q24) fxBetween_q25) fxBetween_q26) fxBetween_q27) fxBetween_q28) fxBetween_q29) fxBetween_q30) fxBetween_q31)

end Go.Proofs.YtbfhholefjngpaaDoor
