/-
  A closed fact of the row VecSplits, part by part, in a text of its own (in one piece the kernel wants more than 10 GB for it).
-/
import Derived.Test.YtbfhholefjngpaaRows
import Derived.Test.YtbfhholefjngpaaFxRow
namespace Go.Proofs.Ytbfhholefjngpaa
open Go Go.Fx Go.ChangeShapes Go.WideShapes Go.ChangeAt Go.RowKit Go.Proofs
set_option maxRecDepth 100000

theorem and_i {a b : Bool} (h : a = true) (h' : b = true) : (a && b) = true := by rw [h, h']; rfl
theorem vecSplits_q0 : (Rows.vecSplitsRow.wf (OpenSpec.ofChange Rows.vecSplitsSpec)) = true := by kernel_rfl
theorem vecSplits_q1 : (laidOutB Try.pinned.checked.prog) = true := by kernel_rfl
theorem vecSplits_q2 : (mapsRowed Try.pinned.checked.prog) = true := by kernel_rfl
theorem vecSplits_q3 : (Try.f16.params.all (Try.pinned.checked.prog.readableRec ·)) = true := by kernel_rfl
theorem vecSplits_q4 : (namedTie Try.pinned.checked.prog Rows.vecSplitsRow.named Rows.vecSplitsSpec.vars) = true := by kernel_rfl
theorem vecSplits_q5 : ((Rows.vecSplitsRow.stops == [])) = true := by kernel_rfl
theorem vecSplits_q6 : ((Try.pinned.checked.prog.stops == [])) = true := by kernel_rfl
theorem vecSplits_q7 : ((Rows.vecSplitsRow.knobs == [])) = true := by kernel_rfl
theorem vecSplits_q8 : ((Try.pinned.checked.prog.stopKnobs == [])) = true := by kernel_rfl
theorem vecSplits_q9 : ((Rows.vecSplitsRow.inPlace == Try.pinned.checked.prog.inPlace 16)) = true := by kernel_rfl
theorem vecSplits_q10 : ((Rows.vecSplitsRow.unfollowed == Try.pinned.checked.prog.unfollowed 16)) = true := by kernel_rfl
theorem vecSplits_q11 : ((Rows.vecSplitsRow.recurses == Try.pinned.checked.prog.recurses 16)) = true := by kernel_rfl
theorem vecSplits_q12 : ((Rows.vecSplitsRow.named == Try.pinned.checked.prog.varsNamed 16)) = true := by kernel_rfl
theorem vecSplits_q13 : ((Rows.vecSplitsRow.maps == (Try.f16.params.toList ++ Rows.vecSplitsSpec.plain.varTypes Try.pinned.checked.prog).any (Try.pinned.checked.prog.mapsRec ·))) = true := by kernel_rfl
theorem vecSplits_q14 : ((Rows.vecSplitsRow.ifaces == (Try.f16.params.toList ++ Rows.vecSplitsSpec.plain.varTypes Try.pinned.checked.prog).any (Try.pinned.checked.prog.ifacesRec ·))) = true := by kernel_rfl
theorem vecSplits_q15 : ((Rows.vecSplitsRow.mapsOut == Try.pinned.checked.prog.mapsAmong Try.f16.resultTypes.toList)) = true := by kernel_rfl
theorem vecSplits_q16 : ((Rows.vecSplitsRow.loops == (Try.f16.params.toList ++ Rows.vecSplitsSpec.plain.varTypes Try.pinned.checked.prog).any (Try.pinned.checked.prog.loopsFrom ·))) = true := by kernel_rfl
theorem vecSplits_q17 : ((Rows.vecSplitsRow.wideKeys == (Try.f16.params.toList ++ Rows.vecSplitsSpec.plain.varTypes Try.pinned.checked.prog ++ Try.f16.resultTypes.toList).any (Try.pinned.checked.prog.wideKeysFrom ·))) = true := by kernel_rfl
theorem vecSplits_q18 : (Rows.vecSplitsSpec.vars.all (Try.pinned.checked.prog.varReadable ·)) = true := by kernel_rfl
theorem vecSplits_q19 : (Try.f16.resultTypes.all (fun t => Try.pinned.checked.prog.readableRec t && decide (t < Try.pinned.checked.prog.types.size))) = true := by kernel_rfl
theorem vecSplits_q20 : ((Rows.vecSplitsRow.ifacesOut == Try.f16.resultTypes.toList.any (Try.pinned.checked.prog.ifacesRec ·))) = true := by kernel_rfl
theorem vecSplits_q21 : ((Rows.vecSplitsRow.loopsOut == Try.f16.resultTypes.toList.any (Try.pinned.checked.prog.loopsFrom ·))) = true := by kernel_rfl
theorem vecSplits_q22 : ((Rows.vecSplitsRow.plainKeys == Try.pinned.checked.prog.plainKeys)) = true := by kernel_rfl
theorem vecSplits_q23 : (Rows.vecSplitsRow.shortTexts.isNone) = true := by kernel_rfl
theorem vecSplits_q24 : (Try.pinned.checked.prog.stopsHeard) = true := by kernel_rfl
theorem vecSplits_q25 : (Try.pinned.checked.prog.mayEnter) = true := by kernel_rfl
theorem vecSplits_q26 : ((Rows.vecSplitsRow.lifted == Try.pinned.checked.prog.liftsFinal)) = true := by kernel_rfl
theorem vecSplits_q27 : ((Try.pinned.checked.prog.make == some Rows.vecSplitsRow.make)) = true := by kernel_rfl
theorem vecSplits_q28 : ((Rows.vecSplitsRow.kinds == (if Rows.vecSplitsRow.domain.isEmpty then [] else Try.f16.params.toList.map fun t => match Try.pinned.checked.prog.underlying t with | some (.int k) => some k | _ => none))) = true := by kernel_rfl
theorem vecSplits_q29 : ((Rows.vecSplitsRow.pinned == Rows.vecSplitsRow.pinnedBy)) = true := by kernel_rfl
theorem vecSplits_q30 : ((Rows.vecSplitsRow.veiled == (Try.f16.params.toList ++ Rows.vecSplitsSpec.plain.varTypes Try.pinned.checked.prog ++ Try.f16.resultTypes.toList).any (Try.pinned.checked.prog.veiledRec ·))) = true := by kernel_rfl
theorem vecSplits_q31 : (Rows.vecSplitsRow.veiledFits Try.pinned.checked.prog Try.f16.params.toList (Try.f16.params.toList ++ Rows.vecSplitsSpec.plain.varTypes Try.pinned.checked.prog ++ Try.f16.resultTypes.toList)) = true := by kernel_rfl
theorem vecSplits_k2 : joinedFacts Try.pinned.checked.prog 16 Try.f16 Rows.vecSplitsSpec Rows.vecSplitsRow = true := (and_i (and_i (and_i (and_i (and_i (and_i (and_i (and_i (and_i (and_i (and_i (and_i (and_i (and_i (and_i (and_i (and_i (and_i (and_i (and_i (and_i (and_i (and_i (and_i (and_i (and_i (and_i (and_i (and_i (and_i (and_i vecSplits_q0 vecSplits_q1) vecSplits_q2) vecSplits_q3) vecSplits_q4) vecSplits_q5) vecSplits_q6) vecSplits_q7) vecSplits_q8) vecSplits_q9) vecSplits_q10) vecSplits_q11) vecSplits_q12) vecSplits_q13) vecSplits_q14) vecSplits_q15) vecSplits_q16) vecSplits_q17) vecSplits_q18) vecSplits_q19) vecSplits_q20) vecSplits_q21) vecSplits_q22) vecSplits_q23) vecSplits_q24) vecSplits_q25) vecSplits_q26) vecSplits_q27) vecSplits_q28) vecSplits_q29) vecSplits_q30) vecSplits_q31)

end Go.Proofs.Ytbfhholefjngpaa
