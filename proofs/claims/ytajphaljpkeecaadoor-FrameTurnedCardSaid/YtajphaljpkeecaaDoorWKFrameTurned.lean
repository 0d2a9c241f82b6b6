/-
  A closed fact of the row FrameTurned, part by part, in a text of its own (in one piece the kernel wants more than 10 GB for it).
-/
import Derived.Test.YtajphaljpkeecaaDoorRows
import Derived.Test.YtajphaljpkeecaaDoorFxRow
namespace Go.Proofs.YtajphaljpkeecaaDoor
open Go Go.Fx Go.ChangeShapes Go.WideShapes Go.ChangeAt Go.RowKit Go.Proofs
set_option maxRecDepth 100000

theorem and_i {a b : Bool} (h : a = true) (h' : b = true) : (a && b) = true := by rw [h, h']; rfl
theorem frameTurned_q0 : (Rows.frameTurnedRow.wf (OpenSpec.ofChange Rows.frameTurnedSpec)) = true := by kernel_rfl
theorem frameTurned_q1 : (laidOutB Tryd.pinned.checked.prog) = true := by kernel_rfl
theorem frameTurned_q2 : (mapsRowed Tryd.pinned.checked.prog) = true := by kernel_rfl
theorem frameTurned_q3 : (Tryd.f6.params.all (Tryd.pinned.checked.prog.readableRec ·)) = true := by kernel_rfl
theorem frameTurned_q4 : (namedTie Tryd.pinned.checked.prog Rows.frameTurnedRow.named Rows.frameTurnedSpec.vars) = true := by kernel_rfl
theorem frameTurned_q5 : ((Rows.frameTurnedRow.stops == [])) = true := by kernel_rfl
theorem frameTurned_q6 : ((Tryd.pinned.checked.prog.stops == [])) = true := by kernel_rfl
theorem frameTurned_q7 : ((Rows.frameTurnedRow.knobs == [])) = true := by kernel_rfl
theorem frameTurned_q8 : ((Tryd.pinned.checked.prog.stopKnobs == [])) = true := by kernel_rfl
theorem frameTurned_q9 : ((Rows.frameTurnedRow.inPlace == Tryd.pinned.checked.prog.inPlace 6)) = true := by kernel_rfl
theorem frameTurned_q10 : ((Rows.frameTurnedRow.unfollowed == Tryd.pinned.checked.prog.unfollowed 6)) = true := by kernel_rfl
theorem frameTurned_q11 : ((Rows.frameTurnedRow.recurses == Tryd.pinned.checked.prog.recurses 6)) = true := by kernel_rfl
theorem frameTurned_q12 : ((Rows.frameTurnedRow.named == Tryd.pinned.checked.prog.varsNamed 6)) = true := by kernel_rfl
theorem frameTurned_q13 : ((Rows.frameTurnedRow.maps == (Tryd.f6.params.toList ++ Rows.frameTurnedSpec.plain.varTypes Tryd.pinned.checked.prog).any (Tryd.pinned.checked.prog.mapsRec ·))) = true := by kernel_rfl
theorem frameTurned_q14 : ((Rows.frameTurnedRow.ifaces == (Tryd.f6.params.toList ++ Rows.frameTurnedSpec.plain.varTypes Tryd.pinned.checked.prog).any (Tryd.pinned.checked.prog.ifacesRec ·))) = true := by kernel_rfl
theorem frameTurned_q15 : ((Rows.frameTurnedRow.mapsOut == Tryd.pinned.checked.prog.mapsAmong Tryd.f6.resultTypes.toList)) = true := by kernel_rfl
theorem frameTurned_q16 : ((Rows.frameTurnedRow.loops == (Tryd.f6.params.toList ++ Rows.frameTurnedSpec.plain.varTypes Tryd.pinned.checked.prog).any (Tryd.pinned.checked.prog.loopsFrom ·))) = true := by kernel_rfl
theorem frameTurned_q17 : ((Rows.frameTurnedRow.wideKeys == (Tryd.f6.params.toList ++ Rows.frameTurnedSpec.plain.varTypes Tryd.pinned.checked.prog ++ Tryd.f6.resultTypes.toList).any (Tryd.pinned.checked.prog.wideKeysFrom ·))) = true := by kernel_rfl
theorem frameTurned_q18 : (Rows.frameTurnedSpec.vars.all (Tryd.pinned.checked.prog.varReadable ·)) = true := by kernel_rfl
theorem frameTurned_q19 : (Tryd.f6.resultTypes.all (fun t => Tryd.pinned.checked.prog.readableRec t && decide (t < Tryd.pinned.checked.prog.types.size))) = true := by kernel_rfl
theorem frameTurned_q20 : ((Rows.frameTurnedRow.ifacesOut == Tryd.f6.resultTypes.toList.any (Tryd.pinned.checked.prog.ifacesRec ·))) = true := by kernel_rfl
theorem frameTurned_q21 : ((Rows.frameTurnedRow.loopsOut == Tryd.f6.resultTypes.toList.any (Tryd.pinned.checked.prog.loopsFrom ·))) = true := by kernel_rfl
theorem frameTurned_q22 : ((Rows.frameTurnedRow.plainKeys == Tryd.pinned.checked.prog.plainKeys)) = true := by kernel_rfl
theorem frameTurned_q23 : (Rows.frameTurnedRow.shortTexts.isNone) = true := by kernel_rfl
theorem frameTurned_q24 : (Tryd.pinned.checked.prog.stopsHeard) = true := by kernel_rfl
theorem frameTurned_q25 : (Tryd.pinned.checked.prog.mayEnter) = true := by kernel_rfl
theorem frameTurned_q26 : ((Rows.frameTurnedRow.lifted == Tryd.pinned.checked.prog.liftsFinal)) = true := by kernel_rfl
theorem frameTurned_q27 : ((Tryd.pinned.checked.prog.make == some Rows.frameTurnedRow.make)) = true := by kernel_rfl
theorem frameTurned_q28 : ((Rows.frameTurnedRow.kinds == (if Rows.frameTurnedRow.domain.isEmpty then [] else Tryd.f6.params.toList.map fun t => match Tryd.pinned.checked.prog.underlying t with | some (.int k) => some k | _ => none))) = true := by kernel_rfl
theorem frameTurned_q29 : ((Rows.frameTurnedRow.pinned == Rows.frameTurnedRow.pinnedBy)) = true := by kernel_rfl
theorem frameTurned_q30 : ((Rows.frameTurnedRow.veiled == (Tryd.f6.params.toList ++ Rows.frameTurnedSpec.plain.varTypes Tryd.pinned.checked.prog ++ Tryd.f6.resultTypes.toList).any (Tryd.pinned.checked.prog.veiledRec ·))) = true := by kernel_rfl
theorem frameTurned_q31 : (Rows.frameTurnedRow.veiledFits Tryd.pinned.checked.prog Tryd.f6.params.toList (Tryd.f6.params.toList ++ Rows.frameTurnedSpec.plain.varTypes Tryd.pinned.checked.prog ++ Tryd.f6.resultTypes.toList)) = true := by kernel_rfl
theorem frameTurned_k2 : joinedFacts Tryd.pinned.checked.prog 6 Tryd.f6 Rows.frameTurnedSpec Rows.frameTurnedRow = true := (and_i (and_i (and_i (and_i (and_i (and_i (and_i (and_i (and_i (and_i (and_i (and_i (and_i (and_i (and_i (and_i (and_i (and_i (and_i (and_i (and_i (and_i (and_i (and_i (and_i (and_i (and_i (and_i (and_i (and_i (and_i frameTurned_q0 frameTurned_q1) frameTurned_q2) frameTurned_q3) frameTurned_q4) frameTurned_q5) frameTurned_q6) frameTurned_q7) frameTurned_q8) frameTurned_q9) frameTurned_q10) frameTurned_q11) frameTurned_q12) frameTurned_q13) frameTurned_q14) frameTurned_q15) frameTurned_q16) frameTurned_q17) frameTurned_q18) frameTurned_q19) frameTurned_q20) frameTurned_q21) frameTurned_q22) frameTurned_q23) frameTurned_q24) frameTurned_q25) frameTurned_q26) frameTurned_q27) frameTurned_q28) frameTurned_q29) frameTurned_q30) frameTurned_q31)

end Go.Proofs.YtajphaljpkeecaaDoor
