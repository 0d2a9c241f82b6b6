/-
  A closed fact of the row VecPairs, part by part, in a text of its own (in one piece the kernel wants more than 10 GB for it).
-/
import Derived.Test.YtbfhholefjngpaaRows
import Derived.Test.YtbfhholefjngpaaFxRow
namespace Go.Proofs.Ytbfhholefjngpaa
open Go Go.Fx Go.ChangeShapes Go.WideShapes Go.ChangeAt Go.RowKit Go.Proofs
set_option maxRecDepth 100000

theorem and_i {a b : Bool} (h : a = true) (h' : b = true) : (a && b) = true := by rw [h, h']; rfl
theorem vecPairs_q0 : (Rows.vecPairsRow.wf (OpenSpec.ofChange Rows.vecPairsSpec)) = true := by kernel_rfl
theorem vecPairs_q1 : (laidOutB Try.pinned.checked.prog) = true := by kernel_rfl
theorem vecPairs_q2 : (mapsRowed Try.pinned.checked.prog) = true := by kernel_rfl
theorem vecPairs_q3 : (Try.f15.params.all (Try.pinned.checked.prog.readableRec ·)) = true := by kernel_rfl
theorem vecPairs_q4 : (namedTie Try.pinned.checked.prog Rows.vecPairsRow.named Rows.vecPairsSpec.vars) = true := by kernel_rfl
theorem vecPairs_q5 : ((Rows.vecPairsRow.stops == [])) = true := by kernel_rfl
theorem vecPairs_q6 : ((Try.pinned.checked.prog.stops == [])) = true := by kernel_rfl
theorem vecPairs_q7 : ((Rows.vecPairsRow.knobs == [])) = true := by kernel_rfl
theorem vecPairs_q8 : ((Try.pinned.checked.prog.stopKnobs == [])) = true := by kernel_rfl
theorem vecPairs_q9 : ((Rows.vecPairsRow.inPlace == Try.pinned.checked.prog.inPlace 15)) = true := by kernel_rfl
theorem vecPairs_q10 : ((Rows.vecPairsRow.unfollowed == Try.pinned.checked.prog.unfollowed 15)) = true := by kernel_rfl
theorem vecPairs_q11 : ((Rows.vecPairsRow.recurses == Try.pinned.checked.prog.recurses 15)) = true := by kernel_rfl
theorem vecPairs_q12 : ((Rows.vecPairsRow.named == Try.pinned.checked.prog.varsNamed 15)) = true := by kernel_rfl
theorem vecPairs_q13 : ((Rows.vecPairsRow.maps == (Try.f15.params.toList ++ Rows.vecPairsSpec.plain.varTypes Try.pinned.checked.prog).any (Try.pinned.checked.prog.mapsRec ·))) = true := by kernel_rfl
theorem vecPairs_q14 : ((Rows.vecPairsRow.ifaces == (Try.f15.params.toList ++ Rows.vecPairsSpec.plain.varTypes Try.pinned.checked.prog).any (Try.pinned.checked.prog.ifacesRec ·))) = true := by kernel_rfl
theorem vecPairs_q15 : ((Rows.vecPairsRow.mapsOut == Try.pinned.checked.prog.mapsAmong Try.f15.resultTypes.toList)) = true := by kernel_rfl
theorem vecPairs_q16 : ((Rows.vecPairsRow.loops == (Try.f15.params.toList ++ Rows.vecPairsSpec.plain.varTypes Try.pinned.checked.prog).any (Try.pinned.checked.prog.loopsFrom ·))) = true := by kernel_rfl
theorem vecPairs_q17 : ((Rows.vecPairsRow.wideKeys == (Try.f15.params.toList ++ Rows.vecPairsSpec.plain.varTypes Try.pinned.checked.prog ++ Try.f15.resultTypes.toList).any (Try.pinned.checked.prog.wideKeysFrom ·))) = true := by kernel_rfl
theorem vecPairs_q18 : (Rows.vecPairsSpec.vars.all (Try.pinned.checked.prog.varReadable ·)) = true := by kernel_rfl
theorem vecPairs_q19 : (Try.f15.resultTypes.all (fun t => Try.pinned.checked.prog.readableRec t && decide (t < Try.pinned.checked.prog.types.size))) = true := by kernel_rfl
theorem vecPairs_q20 : ((Rows.vecPairsRow.ifacesOut == Try.f15.resultTypes.toList.any (Try.pinned.checked.prog.ifacesRec ·))) = true := by kernel_rfl
theorem vecPairs_q21 : ((Rows.vecPairsRow.loopsOut == Try.f15.resultTypes.toList.any (Try.pinned.checked.prog.loopsFrom ·))) = true := by kernel_rfl
theorem vecPairs_q22 : ((Rows.vecPairsRow.plainKeys == Try.pinned.checked.prog.plainKeys)) = true := by kernel_rfl
theorem vecPairs_q23 : (Rows.vecPairsRow.shortTexts.isNone) = true := by kernel_rfl
theorem vecPairs_q24 : (Try.pinned.checked.prog.stopsHeard) = true := by kernel_rfl
theorem vecPairs_q25 : (Try.pinned.checked.prog.mayEnter) = true := by kernel_rfl
theorem vecPairs_q26 : ((Rows.vecPairsRow.lifted == Try.pinned.checked.prog.liftsFinal)) = true := by kernel_rfl
theorem vecPairs_q27 : ((Try.pinned.checked.prog.make == some Rows.vecPairsRow.make)) = true := by kernel_rfl
theorem vecPairs_q28 : ((Rows.vecPairsRow.kinds == (if Rows.vecPairsRow.domain.isEmpty then [] else Try.f15.params.toList.map fun t => match Try.pinned.checked.prog.underlying t with | some (.int k) => some k | _ => none))) = true := by kernel_rfl
theorem vecPairs_q29 : ((Rows.vecPairsRow.pinned == Rows.vecPairsRow.pinnedBy)) = true := by kernel_rfl
theorem vecPairs_q30 : ((Rows.vecPairsRow.veiled == (Try.f15.params.toList ++ Rows.vecPairsSpec.plain.varTypes Try.pinned.checked.prog ++ Try.f15.resultTypes.toList).any (Try.pinned.checked.prog.veiledRec ·))) = true := by kernel_rfl
theorem vecPairs_q31 : (Rows.vecPairsRow.veiledFits Try.pinned.checked.prog Try.f15.params.toList (Try.f15.params.toList ++ Rows.vecPairsSpec.plain.varTypes Try.pinned.checked.prog ++ Try.f15.resultTypes.toList)) = true := by kernel_rfl
theorem vecPairs_k2 : joinedFacts Try.pinned.checked.prog 15 Try.f15 Rows.vecPairsSpec Rows.vecPairsRow = true := (and_i (and_i (and_i (and_i (and_i (and_i (and_i (and_i (and_i (and_i (and_i (and_i (and_i (and_i (and_i (and_i (and_i (and_i (and_i (and_i (and_i (and_i (and_i (and_i (and_i (and_i (and_i (and_i (and_i (and_i (and_i vecPairs_q0 vecPairs_q1) vecPairs_q2) vecPairs_q3) vecPairs_q4) vecPairs_q5) vecPairs_q6) vecPairs_q7) vecPairs_q8) vecPairs_q9) vecPairs_q10) vecPairs_q11) vecPairs_q12) vecPairs_q13) vecPairs_q14) vecPairs_q15) vecPairs_q16) vecPairs_q17) vecPairs_q18) vecPairs_q19) vecPairs_q20) vecPairs_q21) vecPairs_q22) vecPairs_q23) vecPairs_q24) vecPairs_q25) vecPairs_q26) vecPairs_q27) vecPairs_q28) vecPairs_q29) vecPairs_q30) vecPairs_q31)

end Go.Proofs.Ytbfhholefjngpaa
