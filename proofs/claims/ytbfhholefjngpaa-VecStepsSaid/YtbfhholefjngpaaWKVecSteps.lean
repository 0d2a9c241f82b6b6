/-
  A closed fact of the row VecSteps, part by part, in a text of its own (in one piece the kernel wants more than 10 GB for it).
-/
import Derived.Test.YtbfhholefjngpaaRows
import Derived.Test.YtbfhholefjngpaaFxRow
namespace Go.Proofs.Ytbfhholefjngpaa
open Go Go.Fx Go.ChangeShapes Go.WideShapes Go.ChangeAt Go.RowKit Go.Proofs
set_option maxRecDepth 100000
theorem and_i {a b : Bool} (h : a = true) (h' : b = true) : (a && b) = true := by rw [h, h']; rfl
theorem vecSteps_q0 : (Rows.vecStepsRow.wf (OpenSpec.ofChange Rows.vecStepsSpec)) = true := by kernel_rfl
theorem vecSteps_q1 : (laidOutB Try.pinned.checked.prog) = true := by kernel_rfl
theorem vecSteps_q2 : (mapsRowed Try.pinned.checked.prog) = true := by kernel_rfl
theorem vecSteps_q3 : (Try.f14.params.all (Try.pinned.checked.prog.readableRec ·)) = true := by kernel_rfl
theorem vecSteps_q4 : (namedTie Try.pinned.checked.prog Rows.vecStepsRow.named Rows.vecStepsSpec.vars) = true := by kernel_rfl
theorem vecSteps_q5 : ((Rows.vecStepsRow.stops == [])) = true := by kernel_rfl
theorem vecSteps_q6 : ((Try.pinned.checked.prog.stops == [])) = true := by kernel_rfl
theorem vecSteps_q7 : ((Rows.vecStepsRow.knobs == [])) = true := by kernel_rfl
theorem vecSteps_q8 : ((Try.pinned.checked.prog.stopKnobs == [])) = true := by kernel_rfl
theorem vecSteps_q9 : ((Rows.vecStepsRow.inPlace == Try.pinned.checked.prog.inPlace 14)) = true := by kernel_rfl
theorem vecSteps_q10 : ((Rows.vecStepsRow.unfollowed == Try.pinned.checked.prog.unfollowed 14)) = true := by kernel_rfl
theorem vecSteps_q11 : ((Rows.vecStepsRow.recurses == Try.pinned.checked.prog.recurses 14)) = true := by kernel_rfl
theorem vecSteps_q12 : ((Rows.vecStepsRow.named == Try.pinned.checked.prog.varsNamed 14)) = true := by kernel_rfl
theorem vecSteps_q13 : ((Rows.vecStepsRow.maps == (Try.f14.params.toList ++ Rows.vecStepsSpec.plain.varTypes Try.pinned.checked.prog).any (Try.pinned.checked.prog.mapsRec ·))) = true := by kernel_rfl
theorem vecSteps_q14 : ((Rows.vecStepsRow.ifaces == (Try.f14.params.toList ++ Rows.vecStepsSpec.plain.varTypes Try.pinned.checked.prog).any (Try.pinned.checked.prog.ifacesRec ·))) = true := by kernel_rfl
theorem vecSteps_q15 : ((Rows.vecStepsRow.mapsOut == Try.pinned.checked.prog.mapsAmong Try.f14.resultTypes.toList)) = true := by kernel_rfl
theorem vecSteps_q16 : ((Rows.vecStepsRow.loops == (Try.f14.params.toList ++ Rows.vecStepsSpec.plain.varTypes Try.pinned.checked.prog).any (Try.pinned.checked.prog.loopsFrom ·))) = true := by kernel_rfl
theorem vecSteps_q17 : ((Rows.vecStepsRow.wideKeys == (Try.f14.params.toList ++ Rows.vecStepsSpec.plain.varTypes Try.pinned.checked.prog ++ Try.f14.resultTypes.toList).any (Try.pinned.checked.prog.wideKeysFrom ·))) = true := by kernel_rfl
theorem vecSteps_q18 : (Rows.vecStepsSpec.vars.all (Try.pinned.checked.prog.varReadable ·)) = true := by kernel_rfl
theorem vecSteps_q19 : (Try.f14.resultTypes.all (fun t => Try.pinned.checked.prog.readableRec t && decide (t < Try.pinned.checked.prog.types.size))) = true := by kernel_rfl
theorem vecSteps_q20 : ((Rows.vecStepsRow.ifacesOut == Try.f14.resultTypes.toList.any (Try.pinned.checked.prog.ifacesRec ·))) = true := by kernel_rfl
theorem vecSteps_q21 : ((Rows.vecStepsRow.loopsOut == Try.f14.resultTypes.toList.any (Try.pinned.checked.prog.loopsFrom ·))) = true := by kernel_rfl
theorem vecSteps_q22 : ((Rows.vecStepsRow.plainKeys == Try.pinned.checked.prog.plainKeys)) = true := by kernel_rfl
theorem vecSteps_q23 : (Rows.vecStepsRow.shortTexts.isNone) = true := by kernel_rfl
theorem vecSteps_q24 : (Try.pinned.checked.prog.stopsHeard) = true := by kernel_rfl
theorem vecSteps_q25 : (Try.pinned.checked.prog.mayEnter) = true := by kernel_rfl
theorem vecSteps_q26 : ((Rows.vecStepsRow.lifted == Try.pinned.checked.prog.liftsFinal)) = true := by kernel_rfl
theorem vecSteps_q27 : ((Try.pinned.checked.prog.make == some Rows.vecStepsRow.make)) = true := by kernel_rfl
theorem vecSteps_q28 : ((Rows.vecStepsRow.kinds == (if Rows.vecStepsRow.domain.isEmpty then [] else Try.f14.params.toList.map fun t => match Try.pinned.checked.prog.underlying t with | some (.int k) => some k | _ => none))) = true := by kernel_rfl
theorem vecSteps_q29 : ((Rows.vecStepsRow.pinned == Rows.vecStepsRow.pinnedBy)) = true := by kernel_rfl
theorem vecSteps_q30 : ((Rows.vecStepsRow.veiled == (Try.f14.params.toList ++ Rows.vecStepsSpec.plain.varTypes Try.pinned.checked.prog ++ Try.f14.resultTypes.toList).any (Try.pinned.checked.prog.veiledRec ·))) = true := by kernel_rfl
theorem vecSteps_q31 : (Rows.vecStepsRow.veiledFits Try.pinned.checked.prog Try.f14.params.toList (Try.f14.params.toList ++ Rows.vecStepsSpec.plain.varTypes Try.pinned.checked.prog ++ Try.f14.resultTypes.toList)) = true := by kernel_rfl
theorem vecSteps_k2 : joinedFacts Try.pinned.checked.prog 14 Try.f14 Rows.vecStepsSpec Rows.vecStepsRow = true := (and_i (and_i (and_i (and_i (and_i (and_i (and_i (and_i (and_i (and_i (and_i (and_i (and_i (and_i (and_i (and_i (and_i (and_i (and_i (and_i (and_i (and_i (and_i (and_i (and_i (and_i (and_i (and_i (and_i (and_i (and_i vecSteps_q0 vecSteps_q1) vecSteps_q2) vecSteps_q3) vecSteps_q4) vecSteps_q5) vecSteps_q6) vecSteps_q7) vecSteps_q8) vecSteps_q9) vecSteps_q10) vecSteps_q11) vecSteps_q12) vecSteps_q13) vecSteps_q14) vecSteps_q15) vecSteps_q16) vecSteps_q17) vecSteps_q18) vecSteps_q19) vecSteps_q20) vecSteps_q21) vecSteps_q22) vecSteps_q23) vecSteps_q24) vecSteps_q25) vecSteps_q26) vecSteps_q27) vecSteps_q28) vecSteps_q29) vecSteps_q30) vecSteps_q31)
end Go.Proofs.Ytbfhholefjngpaa
