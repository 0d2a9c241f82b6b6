/-
  A closed fact of the row FrameCuts, part by part, in a text of its own (in one piece the kernel wants more than 10 GB for it).
-/
import Derived.Test.YtajphaljpkeecaaDoorRows
import Derived.Test.YtajphaljpkeecaaDoorFxRow
namespace Go.Proofs.YtajphaljpkeecaaDoor
open Go Go.Fx Go.ChangeShapes Go.WideShapes Go.ChangeAt Go.RowKit Go.Proofs
set_option maxRecDepth 100000

theorem and_i {a b : Bool} (h : a = true) (h' : b = true) : (a && b) = true := by rw [h, h']; rfl
theorem frameCuts_q0 : (Rows.frameCutsRow.wf (OpenSpec.ofChange Rows.frameCutsSpec)) = true := by kernel_rfl
theorem frameCuts_q1 : (laidOutB Tryd.pinned.checked.prog) = true := by kernel_rfl
theorem frameCuts_q2 : (mapsRowed Tryd.pinned.checked.prog) = true := by kernel_rfl
theorem frameCuts_q3 : (Tryd.f7.params.all (Tryd.pinned.checked.prog.readableRec ·)) = true := by kernel_rfl
theorem frameCuts_q4 : (namedTie Tryd.pinned.checked.prog Rows.frameCutsRow.named Rows.frameCutsSpec.vars) = true := by kernel_rfl
theorem frameCuts_q5 : ((Rows.frameCutsRow.stops == [])) = true := by kernel_rfl
theorem frameCuts_q6 : ((Tryd.pinned.checked.prog.stops == [])) = true := by kernel_rfl
theorem frameCuts_q7 : ((Rows.frameCutsRow.knobs == [])) = true := by kernel_rfl
theorem frameCuts_q8 : ((Tryd.pinned.checked.prog.stopKnobs == [])) = true := by kernel_rfl
theorem frameCuts_q9 : ((Rows.frameCutsRow.inPlace == Tryd.pinned.checked.prog.inPlace 7)) = true := by kernel_rfl
theorem frameCuts_q10 : ((Rows.frameCutsRow.unfollowed == Tryd.pinned.checked.prog.unfollowed 7)) = true := by kernel_rfl
theorem frameCuts_q11 : ((Rows.frameCutsRow.recurses == Tryd.pinned.checked.prog.recurses 7)) = true := by kernel_rfl
theorem frameCuts_q12 : ((Rows.frameCutsRow.named == Tryd.pinned.checked.prog.varsNamed 7)) = true := by kernel_rfl
theorem frameCuts_q13 : ((Rows.frameCutsRow.maps == (Tryd.f7.params.toList ++ Rows.frameCutsSpec.plain.varTypes Tryd.pinned.checked.prog).any (Tryd.pinned.checked.prog.mapsRec ·))) = true := by kernel_rfl
theorem frameCuts_q14 : ((Rows.frameCutsRow.ifaces == (Tryd.f7.params.toList ++ Rows.frameCutsSpec.plain.varTypes Tryd.pinned.checked.prog).any (Tryd.pinned.checked.prog.ifacesRec ·))) = true := by kernel_rfl
theorem frameCuts_q15 : ((Rows.frameCutsRow.mapsOut == Tryd.pinned.checked.prog.mapsAmong Tryd.f7.resultTypes.toList)) = true := by kernel_rfl
theorem frameCuts_q16 : ((Rows.frameCutsRow.loops == (Tryd.f7.params.toList ++ Rows.frameCutsSpec.plain.varTypes Tryd.pinned.checked.prog).any (Tryd.pinned.checked.prog.loopsFrom ·))) = true := by kernel_rfl
theorem frameCuts_q17 : ((Rows.frameCutsRow.wideKeys == (Tryd.f7.params.toList ++ Rows.frameCutsSpec.plain.varTypes Tryd.pinned.checked.prog ++ Tryd.f7.resultTypes.toList).any (Tryd.pinned.checked.prog.wideKeysFrom ·))) = true := by kernel_rfl
theorem frameCuts_q18 : (Rows.frameCutsSpec.vars.all (Tryd.pinned.checked.prog.varReadable ·)) = true := by kernel_rfl
theorem frameCuts_q19 : (Tryd.f7.resultTypes.all (fun t => Tryd.pinned.checked.prog.readableRec t && decide (t < Tryd.pinned.checked.prog.types.size))) = true := by kernel_rfl
theorem frameCuts_q20 : ((Rows.frameCutsRow.ifacesOut == Tryd.f7.resultTypes.toList.any (Tryd.pinned.checked.prog.ifacesRec ·))) = true := by kernel_rfl
theorem frameCuts_q21 : ((Rows.frameCutsRow.loopsOut == Tryd.f7.resultTypes.toList.any (Tryd.pinned.checked.prog.loopsFrom ·))) = true := by kernel_rfl
theorem frameCuts_q22 : ((Rows.frameCutsRow.plainKeys == Tryd.pinned.checked.prog.plainKeys)) = true := by kernel_rfl
theorem frameCuts_q23 : (Rows.frameCutsRow.shortTexts.isNone) = true := by kernel_rfl
theorem frameCuts_q24 : (Tryd.pinned.checked.prog.stopsHeard) = true := by kernel_rfl
theorem frameCuts_q25 : (Tryd.pinned.checked.prog.mayEnter) = true := by kernel_rfl
theorem frameCuts_q26 : ((Rows.frameCutsRow.lifted == Tryd.pinned.checked.prog.liftsFinal)) = true := by kernel_rfl
theorem frameCuts_q27 : ((Tryd.pinned.checked.prog.make == some Rows.frameCutsRow.make)) = true := by kernel_rfl
theorem frameCuts_q28 : ((Rows.frameCutsRow.kinds == (if Rows.frameCutsRow.domain.isEmpty then [] else Tryd.f7.params.toList.map fun t => match Tryd.pinned.checked.prog.underlying t with | some (.int k) => some k | _ => none))) = true := by kernel_rfl
theorem frameCuts_q29 : ((Rows.frameCutsRow.pinned == Rows.frameCutsRow.pinnedBy)) = true := by kernel_rfl
theorem frameCuts_q30 : ((Rows.frameCutsRow.veiled == (Tryd.f7.params.toList ++ Rows.frameCutsSpec.plain.varTypes Tryd.pinned.checked.prog ++ Tryd.f7.resultTypes.toList).any (Tryd.pinned.checked.prog.veiledRec ·))) = true := by kernel_rfl
theorem frameCuts_q31 : (Rows.frameCutsRow.veiledFits Tryd.pinned.checked.prog Tryd.f7.params.toList (Tryd.f7.params.toList ++ Rows.frameCutsSpec.plain.varTypes Tryd.pinned.checked.prog ++ Tryd.f7.resultTypes.toList)) = true := by kernel_rfl
theorem frameCuts_k2 : joinedFacts Tryd.pinned.checked.prog 7 Tryd.f7 Rows.frameCutsSpec Rows.frameCutsRow = true := (and_i (and_i (and_i (and_i (and_i (and_i (and_i (and_i (and_i (and_i (and_i (and_i (and_i (and_i (and_i (and_i (and_i (and_i (and_i (and_i (and_i (and_i (and_i (and_i (and_i (and_i (and_i (and_i (and_i (and_i (and_i frameCuts_q0 frameCuts_q1) frameCuts_q2) frameCuts_q3) frameCuts_q4) frameCuts_q5) frameCuts_q6) frameCuts_q7) frameCuts_q8) frameCuts_q9) frameCuts_q10) frameCuts_q11) frameCuts_q12) frameCuts_q13) frameCuts_q14) frameCuts_q15) frameCuts_q16) frameCuts_q17) frameCuts_q18) frameCuts_q19) frameCuts_q20) frameCuts_q21) frameCuts_q22) frameCuts_q23) frameCuts_q24) frameCuts_q25) frameCuts_q26) frameCuts_q27) frameCuts_q28) frameCuts_q29) frameCuts_q30) frameCuts_q31)

end Go.Proofs.YtajphaljpkeecaaDoor
