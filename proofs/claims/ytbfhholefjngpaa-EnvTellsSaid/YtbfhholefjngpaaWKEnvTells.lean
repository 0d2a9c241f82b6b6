/-
  A closed fact of the row EnvTells, part by part, in a text of its own (in one piece the kernel wants more than 10 GB for it).
-/
import Derived.Test.YtbfhholefjngpaaRows
import Derived.Test.YtbfhholefjngpaaFxRow
namespace Go.Proofs.Ytbfhholefjngpaa
open Go Go.Fx Go.ChangeShapes Go.WideShapes Go.ChangeAt Go.RowKit Go.Proofs
set_option maxRecDepth 100000

theorem and_i {a b : Bool} (h : a = true) (h' : b = true) : (a && b) = true := by rw [h, h']; rfl
theorem envTells_q0 : (Rows.envTellsRow.wf (OpenSpec.ofChange Rows.envTellsSpec)) = true := by kernel_rfl
theorem envTells_q1 : (laidOutB Try.pinned.checked.prog) = true := by kernel_rfl
theorem envTells_q2 : (mapsRowed Try.pinned.checked.prog) = true := by kernel_rfl
theorem envTells_q3 : (Try.f11.params.all (Try.pinned.checked.prog.readableRec ·)) = true := by kernel_rfl
theorem envTells_q4 : (namedTie Try.pinned.checked.prog Rows.envTellsRow.named Rows.envTellsSpec.vars) = true := by kernel_rfl
theorem envTells_q5 : ((Rows.envTellsRow.stops == [])) = true := by kernel_rfl
theorem envTells_q6 : ((Try.pinned.checked.prog.stops == [])) = true := by kernel_rfl
theorem envTells_q7 : ((Rows.envTellsRow.knobs == [])) = true := by kernel_rfl
theorem envTells_q8 : ((Try.pinned.checked.prog.stopKnobs == [])) = true := by kernel_rfl
theorem envTells_q9 : ((Rows.envTellsRow.inPlace == Try.pinned.checked.prog.inPlace 11)) = true := by kernel_rfl
theorem envTells_q10 : ((Rows.envTellsRow.unfollowed == Try.pinned.checked.prog.unfollowed 11)) = true := by kernel_rfl
theorem envTells_q11 : ((Rows.envTellsRow.recurses == Try.pinned.checked.prog.recurses 11)) = true := by kernel_rfl
theorem envTells_q12 : ((Rows.envTellsRow.named == Try.pinned.checked.prog.varsNamed 11)) = true := by kernel_rfl
theorem envTells_q13 : ((Rows.envTellsRow.maps == (Try.f11.params.toList ++ Rows.envTellsSpec.plain.varTypes Try.pinned.checked.prog).any (Try.pinned.checked.prog.mapsRec ·))) = true := by kernel_rfl
theorem envTells_q14 : ((Rows.envTellsRow.ifaces == (Try.f11.params.toList ++ Rows.envTellsSpec.plain.varTypes Try.pinned.checked.prog).any (Try.pinned.checked.prog.ifacesRec ·))) = true := by kernel_rfl
theorem envTells_q15 : ((Rows.envTellsRow.mapsOut == Try.pinned.checked.prog.mapsAmong Try.f11.resultTypes.toList)) = true := by kernel_rfl
theorem envTells_q16 : ((Rows.envTellsRow.loops == (Try.f11.params.toList ++ Rows.envTellsSpec.plain.varTypes Try.pinned.checked.prog).any (Try.pinned.checked.prog.loopsFrom ·))) = true := by kernel_rfl
theorem envTells_q17 : ((Rows.envTellsRow.wideKeys == (Try.f11.params.toList ++ Rows.envTellsSpec.plain.varTypes Try.pinned.checked.prog ++ Try.f11.resultTypes.toList).any (Try.pinned.checked.prog.wideKeysFrom ·))) = true := by kernel_rfl
theorem envTells_q18 : (Rows.envTellsSpec.vars.all (Try.pinned.checked.prog.varReadable ·)) = true := by kernel_rfl
theorem envTells_q19 : (Try.f11.resultTypes.all (fun t => Try.pinned.checked.prog.readableRec t && decide (t < Try.pinned.checked.prog.types.size))) = true := by kernel_rfl
theorem envTells_q20 : ((Rows.envTellsRow.ifacesOut == Try.f11.resultTypes.toList.any (Try.pinned.checked.prog.ifacesRec ·))) = true := by kernel_rfl
theorem envTells_q21 : ((Rows.envTellsRow.loopsOut == Try.f11.resultTypes.toList.any (Try.pinned.checked.prog.loopsFrom ·))) = true := by kernel_rfl
theorem envTells_q22 : ((Rows.envTellsRow.plainKeys == Try.pinned.checked.prog.plainKeys)) = true := by kernel_rfl
theorem envTells_q23 : (Rows.envTellsRow.shortTexts.isNone) = true := by kernel_rfl
theorem envTells_q24 : (Try.pinned.checked.prog.stopsHeard) = true := by kernel_rfl
theorem envTells_q25 : (Try.pinned.checked.prog.mayEnter) = true := by kernel_rfl
theorem envTells_q26 : ((Rows.envTellsRow.lifted == Try.pinned.checked.prog.liftsFinal)) = true := by kernel_rfl
theorem envTells_q27 : ((Try.pinned.checked.prog.make == some Rows.envTellsRow.make)) = true := by kernel_rfl
theorem envTells_q28 : ((Rows.envTellsRow.kinds == (if Rows.envTellsRow.domain.isEmpty then [] else Try.f11.params.toList.map fun t => match Try.pinned.checked.prog.underlying t with | some (.int k) => some k | _ => none))) = true := by kernel_rfl
theorem envTells_q29 : ((Rows.envTellsRow.pinned == Rows.envTellsRow.pinnedBy)) = true := by kernel_rfl
theorem envTells_q30 : ((Rows.envTellsRow.veiled == (Try.f11.params.toList ++ Rows.envTellsSpec.plain.varTypes Try.pinned.checked.prog ++ Try.f11.resultTypes.toList).any (Try.pinned.checked.prog.veiledRec ·))) = true := by kernel_rfl
theorem envTells_q31 : (Rows.envTellsRow.veiledFits Try.pinned.checked.prog Try.f11.params.toList (Try.f11.params.toList ++ Rows.envTellsSpec.plain.varTypes Try.pinned.checked.prog ++ Try.f11.resultTypes.toList)) = true := by kernel_rfl
theorem envTells_k2 : joinedFacts Try.pinned.checked.prog 11 Try.f11 Rows.envTellsSpec Rows.envTellsRow = true := (and_i (and_i (and_i (and_i (and_i (and_i (and_i (and_i (and_i (and_i (and_i (and_i (and_i (and_i (and_i (and_i (and_i (and_i (and_i (and_i (and_i (and_i (and_i (and_i (and_i (and_i (and_i (and_i (and_i (and_i (and_i envTells_q0 envTells_q1) envTells_q2) envTells_q3) envTells_q4) envTells_q5) envTells_q6) envTells_q7) envTells_q8) envTells_q9) envTells_q10) envTells_q11) envTells_q12) envTells_q13) envTells_q14) envTells_q15) envTells_q16) envTells_q17) envTells_q18) envTells_q19) envTells_q20) envTells_q21) envTells_q22) envTells_q23) envTells_q24) envTells_q25) envTells_q26) envTells_q27) envTells_q28) envTells_q29) envTells_q30) envTells_q31)

end Go.Proofs.Ytbfhholefjngpaa
