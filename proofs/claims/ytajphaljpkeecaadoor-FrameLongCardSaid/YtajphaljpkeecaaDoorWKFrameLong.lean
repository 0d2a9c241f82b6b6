/-
  A closed fact of the row FrameLong, part by part, in a text of its own (in one piece the kernel wants more than 10 GB for it).
-/
import Derived.Test.YtajphaljpkeecaaDoorRows
import Derived.Test.YtajphaljpkeecaaDoorFxRow
namespace Go.Proofs.YtajphaljpkeecaaDoor
open Go Go.Fx Go.ChangeShapes Go.WideShapes Go.ChangeAt Go.RowKit Go.Proofs
set_option maxRecDepth 100000

theorem and_i {a b : Bool} (h : a = true) (h' : b = true) : (a && b) = true := by rw [h, h']; rfl
theorem frameLong_q0 : (Rows.frameLongRow.wf (OpenSpec.ofChange Rows.frameLongSpec)) = true := by kernel_rfl
theorem frameLong_q1 : (laidOutB Tryd.pinned.checked.prog) = true := by kernel_rfl
theorem frameLong_q2 : (mapsRowed Tryd.pinned.checked.prog) = true := by kernel_rfl
theorem frameLong_q3 : (Tryd.f8.params.all (Tryd.pinned.checked.prog.readableRec ·)) = true := by kernel_rfl
theorem frameLong_q4 : (namedTie Tryd.pinned.checked.prog Rows.frameLongRow.named Rows.frameLongSpec.vars) = true := by kernel_rfl
theorem frameLong_q5 : ((Rows.frameLongRow.stops == [])) = true := by kernel_rfl
theorem frameLong_q6 : ((Tryd.pinned.checked.prog.stops == [])) = true := by kernel_rfl
theorem frameLong_q7 : ((Rows.frameLongRow.knobs == [])) = true := by kernel_rfl
theorem frameLong_q8 : ((Tryd.pinned.checked.prog.stopKnobs == [])) = true := by kernel_rfl
theorem frameLong_q9 : ((Rows.frameLongRow.inPlace == Tryd.pinned.checked.prog.inPlace 8)) = true := by kernel_rfl
theorem frameLong_q10 : ((Rows.frameLongRow.unfollowed == Tryd.pinned.checked.prog.unfollowed 8)) = true := by kernel_rfl
theorem frameLong_q11 : ((Rows.frameLongRow.recurses == Tryd.pinned.checked.prog.recurses 8)) = true := by kernel_rfl
theorem frameLong_q12 : ((Rows.frameLongRow.named == Tryd.pinned.checked.prog.varsNamed 8)) = true := by kernel_rfl
theorem frameLong_q13 : ((Rows.frameLongRow.maps == (Tryd.f8.params.toList ++ Rows.frameLongSpec.plain.varTypes Tryd.pinned.checked.prog).any (Tryd.pinned.checked.prog.mapsRec ·))) = true := by kernel_rfl
theorem frameLong_q14 : ((Rows.frameLongRow.ifaces == (Tryd.f8.params.toList ++ Rows.frameLongSpec.plain.varTypes Tryd.pinned.checked.prog).any (Tryd.pinned.checked.prog.ifacesRec ·))) = true := by kernel_rfl
theorem frameLong_q15 : ((Rows.frameLongRow.mapsOut == Tryd.pinned.checked.prog.mapsAmong Tryd.f8.resultTypes.toList)) = true := by kernel_rfl
theorem frameLong_q16 : ((Rows.frameLongRow.loops == (Tryd.f8.params.toList ++ Rows.frameLongSpec.plain.varTypes Tryd.pinned.checked.prog).any (Tryd.pinned.checked.prog.loopsFrom ·))) = true := by kernel_rfl
theorem frameLong_q17 : ((Rows.frameLongRow.wideKeys == (Tryd.f8.params.toList ++ Rows.frameLongSpec.plain.varTypes Tryd.pinned.checked.prog ++ Tryd.f8.resultTypes.toList).any (Tryd.pinned.checked.prog.wideKeysFrom ·))) = true := by kernel_rfl
theorem frameLong_q18 : (Rows.frameLongSpec.vars.all (Tryd.pinned.checked.prog.varReadable ·)) = true := by kernel_rfl
theorem frameLong_q19 : (Tryd.f8.resultTypes.all (fun t => Tryd.pinned.checked.prog.readableRec t && decide (t < Tryd.pinned.checked.prog.types.size))) = true := by kernel_rfl
theorem frameLong_q20 : ((Rows.frameLongRow.ifacesOut == Tryd.f8.resultTypes.toList.any (Tryd.pinned.checked.prog.ifacesRec ·))) = true := by kernel_rfl
theorem frameLong_q21 : ((Rows.frameLongRow.loopsOut == Tryd.f8.resultTypes.toList.any (Tryd.pinned.checked.prog.loopsFrom ·))) = true := by kernel_rfl
theorem frameLong_q22 : ((Rows.frameLongRow.plainKeys == Tryd.pinned.checked.prog.plainKeys)) = true := by kernel_rfl
theorem frameLong_q23 : (Rows.frameLongRow.shortTexts.isNone) = true := by kernel_rfl
theorem frameLong_q24 : (Tryd.pinned.checked.prog.stopsHeard) = true := by kernel_rfl
theorem frameLong_q25 : (Tryd.pinned.checked.prog.mayEnter) = true := by kernel_rfl
theorem frameLong_q26 : ((Rows.frameLongRow.lifted == Tryd.pinned.checked.prog.liftsFinal)) = true := by kernel_rfl
theorem frameLong_q27 : ((Tryd.pinned.checked.prog.make == some Rows.frameLongRow.make)) = true := by kernel_rfl
theorem frameLong_q28 : ((Rows.frameLongRow.kinds == (if Rows.frameLongRow.domain.isEmpty then [] else Tryd.f8.params.toList.map fun t => match Tryd.pinned.checked.prog.underlying t with | some (.int k) => some k | _ => none))) = true := by kernel_rfl
theorem frameLong_q29 : ((Rows.frameLongRow.pinned == Rows.frameLongRow.pinnedBy)) = true := by kernel_rfl
theorem frameLong_q30 : ((Rows.frameLongRow.veiled == (Tryd.f8.params.toList ++ Rows.frameLongSpec.plain.varTypes Tryd.pinned.checked.prog ++ Tryd.f8.resultTypes.toList).any (Tryd.pinned.checked.prog.veiledRec ·))) = true := by kernel_rfl
theorem frameLong_q31 : (Rows.frameLongRow.veiledFits Tryd.pinned.checked.prog Tryd.f8.params.toList (Tryd.f8.params.toList ++ Rows.frameLongSpec.plain.varTypes Tryd.pinned.checked.prog ++ Tryd.f8.resultTypes.toList)) = true := by kernel_rfl
theorem frameLong_k2 : joinedFacts Tryd.pinned.checked.prog 8 Tryd.f8 Rows.frameLongSpec Rows.frameLongRow = true := (and_i (and_i (and_i (and_i (and_i (and_i (and_i (and_i (and_i (and_i (and_i (and_i (and_i (and_i (and_i (and_i (and_i (and_i (and_i (and_i (and_i (and_i (and_i (and_i (and_i (and_i (and_i (and_i (and_i (and_i (and_i frameLong_q0 frameLong_q1) frameLong_q2) frameLong_q3) frameLong_q4) frameLong_q5) frameLong_q6) frameLong_q7) frameLong_q8) frameLong_q9) frameLong_q10) frameLong_q11) frameLong_q12) frameLong_q13) frameLong_q14) frameLong_q15) frameLong_q16) frameLong_q17) frameLong_q18) frameLong_q19) frameLong_q20) frameLong_q21) frameLong_q22) frameLong_q23) frameLong_q24) frameLong_q25) frameLong_q26) frameLong_q27) frameLong_q28) frameLong_q29) frameLong_q30) frameLong_q31)

end Go.Proofs.YtajphaljpkeecaaDoor
