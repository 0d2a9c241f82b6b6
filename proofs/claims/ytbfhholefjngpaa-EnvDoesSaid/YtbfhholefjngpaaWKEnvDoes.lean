/-
  A closed fact of the row EnvDoes, part by part, in a text of its own (in one piece the kernel wants more than 10 GB for it).
-/
import Derived.Test.YtbfhholefjngpaaRows
import Derived.Test.YtbfhholefjngpaaFxRow
namespace Go.Proofs.Ytbfhholefjngpaa
open Go Go.Fx Go.ChangeShapes Go.WideShapes Go.ChangeAt Go.RowKit Go.Proofs
set_option maxRecDepth 100000

theorem and_i {a b : Bool} (h : a = true) (h' : b = true) : (a && b) = true := by rw [h, h']; rfl
theorem envDoes_q0 : (Rows.envDoesRow.wf (OpenSpec.ofChange Rows.envDoesSpec)) = true := by kernel_rfl
theorem envDoes_q1 : (laidOutB Try.pinned.checked.prog) = true := by kernel_rfl
theorem envDoes_q2 : (mapsRowed Try.pinned.checked.prog) = true := by kernel_rfl
theorem envDoes_q3 : (Try.f17.params.all (Try.pinned.checked.prog.readableRec ·)) = true := by kernel_rfl
theorem envDoes_q4 : (namedTie Try.pinned.checked.prog Rows.envDoesRow.named Rows.envDoesSpec.vars) = true := by kernel_rfl
theorem envDoes_q5 : ((Rows.envDoesRow.stops == [])) = true := by kernel_rfl
theorem envDoes_q6 : ((Try.pinned.checked.prog.stops == [])) = true := by kernel_rfl
theorem envDoes_q7 : ((Rows.envDoesRow.knobs == [])) = true := by kernel_rfl
theorem envDoes_q8 : ((Try.pinned.checked.prog.stopKnobs == [])) = true := by kernel_rfl
theorem envDoes_q9 : ((Rows.envDoesRow.inPlace == Try.pinned.checked.prog.inPlace 17)) = true := by kernel_rfl
theorem envDoes_q10 : ((Rows.envDoesRow.unfollowed == Try.pinned.checked.prog.unfollowed 17)) = true := by kernel_rfl
theorem envDoes_q11 : ((Rows.envDoesRow.recurses == Try.pinned.checked.prog.recurses 17)) = true := by kernel_rfl
theorem envDoes_q12 : ((Rows.envDoesRow.named == Try.pinned.checked.prog.varsNamed 17)) = true := by kernel_rfl
theorem envDoes_q13 : ((Rows.envDoesRow.maps == (Try.f17.params.toList ++ Rows.envDoesSpec.plain.varTypes Try.pinned.checked.prog).any (Try.pinned.checked.prog.mapsRec ·))) = true := by kernel_rfl
theorem envDoes_q14 : ((Rows.envDoesRow.ifaces == (Try.f17.params.toList ++ Rows.envDoesSpec.plain.varTypes Try.pinned.checked.prog).any (Try.pinned.checked.prog.ifacesRec ·))) = true := by kernel_rfl
theorem envDoes_q15 : ((Rows.envDoesRow.mapsOut == Try.pinned.checked.prog.mapsAmong Try.f17.resultTypes.toList)) = true := by kernel_rfl
theorem envDoes_q16 : ((Rows.envDoesRow.loops == (Try.f17.params.toList ++ Rows.envDoesSpec.plain.varTypes Try.pinned.checked.prog).any (Try.pinned.checked.prog.loopsFrom ·))) = true := by kernel_rfl
theorem envDoes_q17 : ((Rows.envDoesRow.wideKeys == (Try.f17.params.toList ++ Rows.envDoesSpec.plain.varTypes Try.pinned.checked.prog ++ Try.f17.resultTypes.toList).any (Try.pinned.checked.prog.wideKeysFrom ·))) = true := by kernel_rfl
theorem envDoes_q18 : (Rows.envDoesSpec.vars.all (Try.pinned.checked.prog.varReadable ·)) = true := by kernel_rfl
theorem envDoes_q19 : (Try.f17.resultTypes.all (fun t => Try.pinned.checked.prog.readableRec t && decide (t < Try.pinned.checked.prog.types.size))) = true := by kernel_rfl
theorem envDoes_q20 : ((Rows.envDoesRow.ifacesOut == Try.f17.resultTypes.toList.any (Try.pinned.checked.prog.ifacesRec ·))) = true := by kernel_rfl
theorem envDoes_q21 : ((Rows.envDoesRow.loopsOut == Try.f17.resultTypes.toList.any (Try.pinned.checked.prog.loopsFrom ·))) = true := by kernel_rfl
theorem envDoes_q22 : ((Rows.envDoesRow.plainKeys == Try.pinned.checked.prog.plainKeys)) = true := by kernel_rfl
theorem envDoes_q23 : (Rows.envDoesRow.shortTexts.isNone) = true := by kernel_rfl
theorem envDoes_q24 : (Try.pinned.checked.prog.stopsHeard) = true := by kernel_rfl
theorem envDoes_q25 : (Try.pinned.checked.prog.mayEnter) = true := by kernel_rfl
theorem envDoes_q26 : ((Rows.envDoesRow.lifted == Try.pinned.checked.prog.liftsFinal)) = true := by kernel_rfl
theorem envDoes_q27 : ((Try.pinned.checked.prog.make == some Rows.envDoesRow.make)) = true := by kernel_rfl
theorem envDoes_q28 : ((Rows.envDoesRow.kinds == (if Rows.envDoesRow.domain.isEmpty then [] else Try.f17.params.toList.map fun t => match Try.pinned.checked.prog.underlying t with | some (.int k) => some k | _ => none))) = true := by kernel_rfl
theorem envDoes_q29 : ((Rows.envDoesRow.pinned == Rows.envDoesRow.pinnedBy)) = true := by kernel_rfl
theorem envDoes_q30 : ((Rows.envDoesRow.veiled == (Try.f17.params.toList ++ Rows.envDoesSpec.plain.varTypes Try.pinned.checked.prog ++ Try.f17.resultTypes.toList).any (Try.pinned.checked.prog.veiledRec ·))) = true := by kernel_rfl
theorem envDoes_q31 : (Rows.envDoesRow.veiledFits Try.pinned.checked.prog Try.f17.params.toList (Try.f17.params.toList ++ Rows.envDoesSpec.plain.varTypes Try.pinned.checked.prog ++ Try.f17.resultTypes.toList)) = true := by kernel_rfl
theorem envDoes_k2 : joinedFacts Try.pinned.checked.prog 17 Try.f17 Rows.envDoesSpec Rows.envDoesRow = true := (and_i (and_i (and_i (and_i (and_i (and_i (and_i (and_i (and_i (and_i (and_i (and_i (and_i (and_i (and_i (and_i (and_i (and_i (and_i (and_i (and_i (and_i (and_i (and_i (and_i (and_i (and_i (and_i (and_i (and_i (and_i envDoes_q0 envDoes_q1) envDoes_q2) envDoes_q3) envDoes_q4) envDoes_q5) envDoes_q6) envDoes_q7) envDoes_q8) envDoes_q9) envDoes_q10) envDoes_q11) envDoes_q12) envDoes_q13) envDoes_q14) envDoes_q15) envDoes_q16) envDoes_q17) envDoes_q18) envDoes_q19) envDoes_q20) envDoes_q21) envDoes_q22) envDoes_q23) envDoes_q24) envDoes_q25) envDoes_q26) envDoes_q27) envDoes_q28) envDoes_q29) envDoes_q30) envDoes_q31)

end Go.Proofs.Ytbfhholefjngpaa
