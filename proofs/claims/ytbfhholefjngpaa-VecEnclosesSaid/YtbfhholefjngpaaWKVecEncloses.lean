/-
  A closed fact of the row VecEncloses, part by part, in a text of its own (in one piece the kernel wants more than 10 GB for it).
-/
import Derived.Test.YtbfhholefjngpaaRows
import Derived.Test.YtbfhholefjngpaaFxRow
namespace Go.Proofs.Ytbfhholefjngpaa
open Go Go.Fx Go.ChangeShapes Go.WideShapes Go.ChangeAt Go.RowKit Go.Proofs
set_option maxRecDepth 100000
theorem and_i {a b : Bool} (h : a = true) (h' : b = true) : (a && b) = true := by rw [h, h']; rfl
theorem vecEncloses_q0 : (Rows.vecEnclosesRow.wf (OpenSpec.ofChange Rows.vecEnclosesSpec)) = true := by kernel_rfl
theorem vecEncloses_q1 : (laidOutB Try.pinned.checked.prog) = true := by kernel_rfl
theorem vecEncloses_q2 : (mapsRowed Try.pinned.checked.prog) = true := by kernel_rfl
theorem vecEncloses_q3 : (Try.f23.params.all (Try.pinned.checked.prog.readableRec ·)) = true := by kernel_rfl
theorem vecEncloses_q4 : (namedTie Try.pinned.checked.prog Rows.vecEnclosesRow.named Rows.vecEnclosesSpec.vars) = true := by kernel_rfl
theorem vecEncloses_q5 : ((Rows.vecEnclosesRow.stops == [])) = true := by kernel_rfl
theorem vecEncloses_q6 : ((Try.pinned.checked.prog.stops == [])) = true := by kernel_rfl
theorem vecEncloses_q7 : ((Rows.vecEnclosesRow.knobs == [])) = true := by kernel_rfl
theorem vecEncloses_q8 : ((Try.pinned.checked.prog.stopKnobs == [])) = true := by kernel_rfl
theorem vecEncloses_q9 : ((Rows.vecEnclosesRow.inPlace == Try.pinned.checked.prog.inPlace 23)) = true := by kernel_rfl
theorem vecEncloses_q10 : ((Rows.vecEnclosesRow.unfollowed == Try.pinned.checked.prog.unfollowed 23)) = true := by kernel_rfl
theorem vecEncloses_q11 : ((Rows.vecEnclosesRow.recurses == Try.pinned.checked.prog.recurses 23)) = true := by kernel_rfl
theorem vecEncloses_q12 : ((Rows.vecEnclosesRow.named == Try.pinned.checked.prog.varsNamed 23)) = true := by kernel_rfl
theorem vecEncloses_q13 : ((Rows.vecEnclosesRow.maps == (Try.f23.params.toList ++ Rows.vecEnclosesSpec.plain.varTypes Try.pinned.checked.prog).any (Try.pinned.checked.prog.mapsRec ·))) = true := by kernel_rfl
theorem vecEncloses_q14 : ((Rows.vecEnclosesRow.ifaces == (Try.f23.params.toList ++ Rows.vecEnclosesSpec.plain.varTypes Try.pinned.checked.prog).any (Try.pinned.checked.prog.ifacesRec ·))) = true := by kernel_rfl
theorem vecEncloses_q15 : ((Rows.vecEnclosesRow.mapsOut == Try.pinned.checked.prog.mapsAmong Try.f23.resultTypes.toList)) = true := by kernel_rfl
theorem vecEncloses_q16 : ((Rows.vecEnclosesRow.loops == (Try.f23.params.toList ++ Rows.vecEnclosesSpec.plain.varTypes Try.pinned.checked.prog).any (Try.pinned.checked.prog.loopsFrom ·))) = true := by kernel_rfl
theorem vecEncloses_q17 : ((Rows.vecEnclosesRow.wideKeys == (Try.f23.params.toList ++ Rows.vecEnclosesSpec.plain.varTypes Try.pinned.checked.prog ++ Try.f23.resultTypes.toList).any (Try.pinned.checked.prog.wideKeysFrom ·))) = true := by kernel_rfl
theorem vecEncloses_q18 : (Rows.vecEnclosesSpec.vars.all (Try.pinned.checked.prog.varReadable ·)) = true := by kernel_rfl
theorem vecEncloses_q19 : (Try.f23.resultTypes.all (fun t => Try.pinned.checked.prog.readableRec t && decide (t < Try.pinned.checked.prog.types.size))) = true := by kernel_rfl
theorem vecEncloses_q20 : ((Rows.vecEnclosesRow.ifacesOut == Try.f23.resultTypes.toList.any (Try.pinned.checked.prog.ifacesRec ·))) = true := by kernel_rfl
theorem vecEncloses_q21 : ((Rows.vecEnclosesRow.loopsOut == Try.f23.resultTypes.toList.any (Try.pinned.checked.prog.loopsFrom ·))) = true := by kernel_rfl
theorem vecEncloses_q22 : ((Rows.vecEnclosesRow.plainKeys == Try.pinned.checked.prog.plainKeys)) = true := by kernel_rfl
theorem vecEncloses_q23 : (Rows.vecEnclosesRow.shortTexts.isNone) = true := by kernel_rfl
theorem vecEncloses_q24 : (Try.pinned.checked.prog.stopsHeard) = true := by kernel_rfl
theorem vecEncloses_q25 : (Try.pinned.checked.prog.mayEnter) = true := by kernel_rfl
theorem vecEncloses_q26 : ((Rows.vecEnclosesRow.lifted == Try.pinned.checked.prog.liftsFinal)) = true := by kernel_rfl
theorem vecEncloses_q27 : ((Try.pinned.checked.prog.make == some Rows.vecEnclosesRow.make)) = true := by kernel_rfl
theorem vecEncloses_q28 : ((Rows.vecEnclosesRow.kinds == (if Rows.vecEnclosesRow.domain.isEmpty then [] else Try.f23.params.toList.map fun t => match Try.pinned.checked.prog.underlying t with | some (.int k) => some k | _ => none))) = true := by kernel_rfl
theorem vecEncloses_q29 : ((Rows.vecEnclosesRow.pinned == Rows.vecEnclosesRow.pinnedBy)) = true := by kernel_rfl
theorem vecEncloses_q30 : ((Rows.vecEnclosesRow.veiled == (Try.f23.params.toList ++ Rows.vecEnclosesSpec.plain.varTypes Try.pinned.checked.prog ++ Try.f23.resultTypes.toList).any (Try.pinned.checked.prog.veiledRec ·))) = true := by kernel_rfl
theorem vecEncloses_q31 : (Rows.vecEnclosesRow.veiledFits Try.pinned.checked.prog Try.f23.params.toList (Try.f23.params.toList ++ Rows.vecEnclosesSpec.plain.varTypes Try.pinned.checked.prog ++ Try.f23.resultTypes.toList)) = true := by kernel_rfl
theorem vecEncloses_k2 : joinedFacts Try.pinned.checked.prog 23 Try.f23 Rows.vecEnclosesSpec Rows.vecEnclosesRow = true := (and_i (and_i (and_i (and_i (and_i (and_i (and_i (and_i (and_i (and_i (and_i (and_i (and_i (and_i (and_i (and_i (and_i (and_i (and_i (and_i (and_i (and_i (and_i (and_i (and_i (and_i (and_i (and_i (and_i (and_i (and_i vecEncloses_q0 vecEncloses_q1) vecEncloses_q2) vecEncloses_q3) vecEncloses_q4) vecEncloses_q5) vecEncloses_q6) vecEncloses_q7) vecEncloses_q8) vecEncloses_q9) vecEncloses_q10) vecEncloses_q11) vecEncloses_q12) vecEncloses_q13) vecEncloses_q14) vecEncloses_q15) vecEncloses_q16) vecEncloses_q17) vecEncloses_q18) vecEncloses_q19) vecEncloses_q20) vecEncloses_q21) vecEncloses_q22) vecEncloses_q23) vecEncloses_q24) vecEncloses_q25) vecEncloses_q26) vecEncloses_q27) vecEncloses_q28) vecEncloses_q29) vecEncloses_q30) vecEncloses_q31)
end Go.Proofs.Ytbfhholefjngpaa
