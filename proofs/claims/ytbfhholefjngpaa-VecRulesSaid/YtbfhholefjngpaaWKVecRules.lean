/-
  A closed fact of the row VecRules, part by part, in a text of its own (in one piece the kernel wants more than 10 GB for it).
-/
import Derived.Test.YtbfhholefjngpaaRows
import Derived.Test.YtbfhholefjngpaaFxRow
namespace Go.Proofs.Ytbfhholefjngpaa
open Go Go.Fx Go.ChangeShapes Go.WideShapes Go.ChangeAt Go.RowKit Go.Proofs
set_option maxRecDepth 100000

theorem and_i {a b : Bool} (h : a = true) (h' : b = true) : (a && b) = true := by rw [h, h']; rfl
theorem vecRules_q0 : (Rows.vecRulesRow.wf (OpenSpec.ofChange Rows.vecRulesSpec)) = true := by kernel_rfl
theorem vecRules_q1 : (laidOutB Try.pinned.checked.prog) = true := by kernel_rfl
theorem vecRules_q2 : (mapsRowed Try.pinned.checked.prog) = true := by kernel_rfl
theorem vecRules_q3 : (Try.f22.params.all (Try.pinned.checked.prog.readableRec ·)) = true := by kernel_rfl
theorem vecRules_q4 : (namedTie Try.pinned.checked.prog Rows.vecRulesRow.named Rows.vecRulesSpec.vars) = true := by kernel_rfl
theorem vecRules_q5 : ((Rows.vecRulesRow.stops == [])) = true := by kernel_rfl
theorem vecRules_q6 : ((Try.pinned.checked.prog.stops == [])) = true := by kernel_rfl
theorem vecRules_q7 : ((Rows.vecRulesRow.knobs == [])) = true := by kernel_rfl
theorem vecRules_q8 : ((Try.pinned.checked.prog.stopKnobs == [])) = true := by kernel_rfl
theorem vecRules_q9 : ((Rows.vecRulesRow.inPlace == Try.pinned.checked.prog.inPlace 22)) = true := by kernel_rfl
theorem vecRules_q10 : ((Rows.vecRulesRow.unfollowed == Try.pinned.checked.prog.unfollowed 22)) = true := by kernel_rfl
theorem vecRules_q11 : ((Rows.vecRulesRow.recurses == Try.pinned.checked.prog.recurses 22)) = true := by kernel_rfl
theorem vecRules_q12 : ((Rows.vecRulesRow.named == Try.pinned.checked.prog.varsNamed 22)) = true := by kernel_rfl
theorem vecRules_q13 : ((Rows.vecRulesRow.maps == (Try.f22.params.toList ++ Rows.vecRulesSpec.plain.varTypes Try.pinned.checked.prog).any (Try.pinned.checked.prog.mapsRec ·))) = true := by kernel_rfl
theorem vecRules_q14 : ((Rows.vecRulesRow.ifaces == (Try.f22.params.toList ++ Rows.vecRulesSpec.plain.varTypes Try.pinned.checked.prog).any (Try.pinned.checked.prog.ifacesRec ·))) = true := by kernel_rfl
theorem vecRules_q15 : ((Rows.vecRulesRow.mapsOut == Try.pinned.checked.prog.mapsAmong Try.f22.resultTypes.toList)) = true := by kernel_rfl
theorem vecRules_q16 : ((Rows.vecRulesRow.loops == (Try.f22.params.toList ++ Rows.vecRulesSpec.plain.varTypes Try.pinned.checked.prog).any (Try.pinned.checked.prog.loopsFrom ·))) = true := by kernel_rfl
theorem vecRules_q17 : ((Rows.vecRulesRow.wideKeys == (Try.f22.params.toList ++ Rows.vecRulesSpec.plain.varTypes Try.pinned.checked.prog ++ Try.f22.resultTypes.toList).any (Try.pinned.checked.prog.wideKeysFrom ·))) = true := by kernel_rfl
theorem vecRules_q18 : (Rows.vecRulesSpec.vars.all (Try.pinned.checked.prog.varReadable ·)) = true := by kernel_rfl
theorem vecRules_q19 : (Try.f22.resultTypes.all (fun t => Try.pinned.checked.prog.readableRec t && decide (t < Try.pinned.checked.prog.types.size))) = true := by kernel_rfl
theorem vecRules_q20 : ((Rows.vecRulesRow.ifacesOut == Try.f22.resultTypes.toList.any (Try.pinned.checked.prog.ifacesRec ·))) = true := by kernel_rfl
theorem vecRules_q21 : ((Rows.vecRulesRow.loopsOut == Try.f22.resultTypes.toList.any (Try.pinned.checked.prog.loopsFrom ·))) = true := by kernel_rfl
theorem vecRules_q22 : ((Rows.vecRulesRow.plainKeys == Try.pinned.checked.prog.plainKeys)) = true := by kernel_rfl
theorem vecRules_q23 : (Rows.vecRulesRow.shortTexts.isNone) = true := by kernel_rfl
theorem vecRules_q24 : (Try.pinned.checked.prog.stopsHeard) = true := by kernel_rfl
theorem vecRules_q25 : (Try.pinned.checked.prog.mayEnter) = true := by kernel_rfl
theorem vecRules_q26 : ((Rows.vecRulesRow.lifted == Try.pinned.checked.prog.liftsFinal)) = true := by kernel_rfl
theorem vecRules_q27 : ((Try.pinned.checked.prog.make == some Rows.vecRulesRow.make)) = true := by kernel_rfl
theorem vecRules_q28 : ((Rows.vecRulesRow.kinds == (if Rows.vecRulesRow.domain.isEmpty then [] else Try.f22.params.toList.map fun t => match Try.pinned.checked.prog.underlying t with | some (.int k) => some k | _ => none))) = true := by kernel_rfl
theorem vecRules_q29 : ((Rows.vecRulesRow.pinned == Rows.vecRulesRow.pinnedBy)) = true := by kernel_rfl
theorem vecRules_q30 : ((Rows.vecRulesRow.veiled == (Try.f22.params.toList ++ Rows.vecRulesSpec.plain.varTypes Try.pinned.checked.prog ++ Try.f22.resultTypes.toList).any (Try.pinned.checked.prog.veiledRec ·))) = true := by kernel_rfl
theorem vecRules_q31 : (Rows.vecRulesRow.veiledFits Try.pinned.checked.prog Try.f22.params.toList (Try.f22.params.toList ++ Rows.vecRulesSpec.plain.varTypes Try.pinned.checked.prog ++ Try.f22.resultTypes.toList)) = true := by kernel_rfl
theorem vecRules_k2 : joinedFacts Try.pinned.checked.prog 22 Try.f22 Rows.vecRulesSpec Rows.vecRulesRow = true := (and_i (and_i (and_i (and_i (and_i (and_i (and_i (and_i (and_i (and_i (and_i (and_i (and_i (and_i (and_i (and_i (and_i (and_i (and_i (and_i (and_i (and_i (and_i (and_i (and_i (and_i (and_i (and_i (and_i (and_i (and_i vecRules_q0 vecRules_q1) vecRules_q2) vecRules_q3) vecRules_q4) vecRules_q5) vecRules_q6) vecRules_q7) vecRules_q8) vecRules_q9) vecRules_q10) vecRules_q11) vecRules_q12) vecRules_q13) vecRules_q14) vecRules_q15) vecRules_q16) vecRules_q17) vecRules_q18) vecRules_q19) vecRules_q20) vecRules_q21) vecRules_q22) vecRules_q23) vecRules_q24) vecRules_q25) vecRules_q26) vecRules_q27) vecRules_q28) vecRules_q29) vecRules_q30) vecRules_q31)

end Go.Proofs.Ytbfhholefjngpaa
