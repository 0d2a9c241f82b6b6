/-
  A closed fact of the row VecWhole, part by part, in a text of its own (in one piece the kernel wants more than 10 GB for it).
-/
import Derived.Test.YtbfhholefjngpaaRows
import Derived.Test.YtbfhholefjngpaaFxRow
namespace Go.Proofs.Ytbfhholefjngpaa
open Go Go.Fx Go.ChangeShapes Go.WideShapes Go.ChangeAt Go.RowKit Go.Proofs
set_option maxRecDepth 100000

theorem and_i {a b : Bool} (h : a = true) (h' : b = true) : (a && b) = true := by rw [h, h']; rfl
theorem vecWhole_q0 : (Rows.vecWholeRow.wf (OpenSpec.ofChange Rows.vecWholeSpec)) = true := by kernel_rfl
theorem vecWhole_q1 : (laidOutB Try.pinned.checked.prog) = true := by kernel_rfl
theorem vecWhole_q2 : (mapsRowed Try.pinned.checked.prog) = true := by kernel_rfl
theorem vecWhole_q3 : (Try.f21.params.all (Try.pinned.checked.prog.readableRec ·)) = true := by kernel_rfl
theorem vecWhole_q4 : (namedTie Try.pinned.checked.prog Rows.vecWholeRow.named Rows.vecWholeSpec.vars) = true := by kernel_rfl
theorem vecWhole_q5 : ((Rows.vecWholeRow.stops == [])) = true := by kernel_rfl
theorem vecWhole_q6 : ((Try.pinned.checked.prog.stops == [])) = true := by kernel_rfl
theorem vecWhole_q7 : ((Rows.vecWholeRow.knobs == [])) = true := by kernel_rfl
theorem vecWhole_q8 : ((Try.pinned.checked.prog.stopKnobs == [])) = true := by kernel_rfl
theorem vecWhole_q9 : ((Rows.vecWholeRow.inPlace == Try.pinned.checked.prog.inPlace 21)) = true := by kernel_rfl
theorem vecWhole_q10 : ((Rows.vecWholeRow.unfollowed == Try.pinned.checked.prog.unfollowed 21)) = true := by kernel_rfl
theorem vecWhole_q11 : ((Rows.vecWholeRow.recurses == Try.pinned.checked.prog.recurses 21)) = true := by kernel_rfl
theorem vecWhole_q12 : ((Rows.vecWholeRow.named == Try.pinned.checked.prog.varsNamed 21)) = true := by kernel_rfl
theorem vecWhole_q13 : ((Rows.vecWholeRow.maps == (Try.f21.params.toList ++ Rows.vecWholeSpec.plain.varTypes Try.pinned.checked.prog).any (Try.pinned.checked.prog.mapsRec ·))) = true := by kernel_rfl
theorem vecWhole_q14 : ((Rows.vecWholeRow.ifaces == (Try.f21.params.toList ++ Rows.vecWholeSpec.plain.varTypes Try.pinned.checked.prog).any (Try.pinned.checked.prog.ifacesRec ·))) = true := by kernel_rfl
theorem vecWhole_q15 : ((Rows.vecWholeRow.mapsOut == Try.pinned.checked.prog.mapsAmong Try.f21.resultTypes.toList)) = true := by kernel_rfl
theorem vecWhole_q16 : ((Rows.vecWholeRow.loops == (Try.f21.params.toList ++ Rows.vecWholeSpec.plain.varTypes Try.pinned.checked.prog).any (Try.pinned.checked.prog.loopsFrom ·))) = true := by kernel_rfl
theorem vecWhole_q17 : ((Rows.vecWholeRow.wideKeys == (Try.f21.params.toList ++ Rows.vecWholeSpec.plain.varTypes Try.pinned.checked.prog ++ Try.f21.resultTypes.toList).any (Try.pinned.checked.prog.wideKeysFrom ·))) = true := by kernel_rfl
theorem vecWhole_q18 : (Rows.vecWholeSpec.vars.all (Try.pinned.checked.prog.varReadable ·)) = true := by kernel_rfl
theorem vecWhole_q19 : (Try.f21.resultTypes.all (fun t => Try.pinned.checked.prog.readableRec t && decide (t < Try.pinned.checked.prog.types.size))) = true := by kernel_rfl
theorem vecWhole_q20 : ((Rows.vecWholeRow.ifacesOut == Try.f21.resultTypes.toList.any (Try.pinned.checked.prog.ifacesRec ·))) = true := by kernel_rfl
theorem vecWhole_q21 : ((Rows.vecWholeRow.loopsOut == Try.f21.resultTypes.toList.any (Try.pinned.checked.prog.loopsFrom ·))) = true := by kernel_rfl
theorem vecWhole_q22 : ((Rows.vecWholeRow.plainKeys == Try.pinned.checked.prog.plainKeys)) = true := by kernel_rfl
theorem vecWhole_q23 : (Rows.vecWholeRow.shortTexts.isNone) = true := by kernel_rfl
theorem vecWhole_q24 : (Try.pinned.checked.prog.stopsHeard) = true := by kernel_rfl
theorem vecWhole_q25 : (Try.pinned.checked.prog.mayEnter) = true := by kernel_rfl
theorem vecWhole_q26 : ((Rows.vecWholeRow.lifted == Try.pinned.checked.prog.liftsFinal)) = true := by kernel_rfl
theorem vecWhole_q27 : ((Try.pinned.checked.prog.make == some Rows.vecWholeRow.make)) = true := by kernel_rfl
theorem vecWhole_q28 : ((Rows.vecWholeRow.kinds == (if Rows.vecWholeRow.domain.isEmpty then [] else Try.f21.params.toList.map fun t => match Try.pinned.checked.prog.underlying t with | some (.int k) => some k | _ => none))) = true := by kernel_rfl
theorem vecWhole_q29 : ((Rows.vecWholeRow.pinned == Rows.vecWholeRow.pinnedBy)) = true := by kernel_rfl
theorem vecWhole_q30 : ((Rows.vecWholeRow.veiled == (Try.f21.params.toList ++ Rows.vecWholeSpec.plain.varTypes Try.pinned.checked.prog ++ Try.f21.resultTypes.toList).any (Try.pinned.checked.prog.veiledRec ·))) = true := by kernel_rfl
theorem vecWhole_q31 : (Rows.vecWholeRow.veiledFits Try.pinned.checked.prog Try.f21.params.toList (Try.f21.params.toList ++ Rows.vecWholeSpec.plain.varTypes Try.pinned.checked.prog ++ Try.f21.resultTypes.toList)) = true := by kernel_rfl
theorem vecWhole_k2 : joinedFacts Try.pinned.checked.prog 21 Try.f21 Rows.vecWholeSpec Rows.vecWholeRow = true := (and_i (and_i (and_i (and_i (and_i (and_i (and_i (and_i (and_i (and_i (and_i (and_i (and_i (and_i (and_i (and_i (and_i (and_i (and_i (and_i (and_i (and_i (and_i (and_i (and_i (and_i (and_i (and_i (and_i (and_i (and_i vecWhole_q0 vecWhole_q1) vecWhole_q2) vecWhole_q3) vecWhole_q4) vecWhole_q5) vecWhole_q6) vecWhole_q7) vecWhole_q8) vecWhole_q9) vecWhole_q10) vecWhole_q11) vecWhole_q12) vecWhole_q13) vecWhole_q14) vecWhole_q15) vecWhole_q16) vecWhole_q17) vecWhole_q18) vecWhole_q19) vecWhole_q20) vecWhole_q21) vecWhole_q22) vecWhole_q23) vecWhole_q24) vecWhole_q25) vecWhole_q26) vecWhole_q27) vecWhole_q28) vecWhole_q29) vecWhole_q30) vecWhole_q31)

end Go.Proofs.Ytbfhholefjngpaa
