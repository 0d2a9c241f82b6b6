/-
  A closed fact of the row FrameEncodes, part by part, in a text of its own (in one piece the kernel wants more than 10 GB for it).
-/
import Derived.Test.YtajphaljpkeecaaDoorRows
import Derived.Test.YtajphaljpkeecaaDoorFxRow
namespace Go.Proofs.YtajphaljpkeecaaDoor
open Go Go.Fx Go.ChangeShapes Go.WideShapes Go.ChangeAt Go.RowKit Go.Proofs
set_option maxRecDepth 100000

theorem and_i {a b : Bool} (h : a = true) (h' : b = true) : (a && b) = true := by rw [h, h']; rfl
theorem frameEncodes_q0 : (Rows.frameEncodesRow.wf (OpenSpec.ofChange Rows.frameEncodesSpec)) = true := by kernel_rfl
theorem frameEncodes_q1 : (laidOutB Tryd.pinned.checked.prog) = true := by kernel_rfl
theorem frameEncodes_q2 : (mapsRowed Tryd.pinned.checked.prog) = true := by kernel_rfl
theorem frameEncodes_q3 : (Tryd.f3.params.all (Tryd.pinned.checked.prog.readableRec ·)) = true := by kernel_rfl
theorem frameEncodes_q4 : (namedTie Tryd.pinned.checked.prog Rows.frameEncodesRow.named Rows.frameEncodesSpec.vars) = true := by kernel_rfl
theorem frameEncodes_q5 : ((Rows.frameEncodesRow.stops == [])) = true := by kernel_rfl
theorem frameEncodes_q6 : ((Tryd.pinned.checked.prog.stops == [])) = true := by kernel_rfl
theorem frameEncodes_q7 : ((Rows.frameEncodesRow.knobs == [])) = true := by kernel_rfl
theorem frameEncodes_q8 : ((Tryd.pinned.checked.prog.stopKnobs == [])) = true := by kernel_rfl
theorem frameEncodes_q9 : ((Rows.frameEncodesRow.inPlace == Tryd.pinned.checked.prog.inPlace 3)) = true := by kernel_rfl
theorem frameEncodes_q10 : ((Rows.frameEncodesRow.unfollowed == Tryd.pinned.checked.prog.unfollowed 3)) = true := by kernel_rfl
theorem frameEncodes_q11 : ((Rows.frameEncodesRow.recurses == Tryd.pinned.checked.prog.recurses 3)) = true := by kernel_rfl
theorem frameEncodes_q12 : ((Rows.frameEncodesRow.named == Tryd.pinned.checked.prog.varsNamed 3)) = true := by kernel_rfl
theorem frameEncodes_q13 : ((Rows.frameEncodesRow.maps == (Tryd.f3.params.toList ++ Rows.frameEncodesSpec.plain.varTypes Tryd.pinned.checked.prog).any (Tryd.pinned.checked.prog.mapsRec ·))) = true := by kernel_rfl
theorem frameEncodes_q14 : ((Rows.frameEncodesRow.ifaces == (Tryd.f3.params.toList ++ Rows.frameEncodesSpec.plain.varTypes Tryd.pinned.checked.prog).any (Tryd.pinned.checked.prog.ifacesRec ·))) = true := by kernel_rfl
theorem frameEncodes_q15 : ((Rows.frameEncodesRow.mapsOut == Tryd.pinned.checked.prog.mapsAmong Tryd.f3.resultTypes.toList)) = true := by kernel_rfl
theorem frameEncodes_q16 : ((Rows.frameEncodesRow.loops == (Tryd.f3.params.toList ++ Rows.frameEncodesSpec.plain.varTypes Tryd.pinned.checked.prog).any (Tryd.pinned.checked.prog.loopsFrom ·))) = true := by kernel_rfl
theorem frameEncodes_q17 : ((Rows.frameEncodesRow.wideKeys == (Tryd.f3.params.toList ++ Rows.frameEncodesSpec.plain.varTypes Tryd.pinned.checked.prog ++ Tryd.f3.resultTypes.toList).any (Tryd.pinned.checked.prog.wideKeysFrom ·))) = true := by kernel_rfl
theorem frameEncodes_q18 : (Rows.frameEncodesSpec.vars.all (Tryd.pinned.checked.prog.varReadable ·)) = true := by kernel_rfl
theorem frameEncodes_q19 : (Tryd.f3.resultTypes.all (fun t => Tryd.pinned.checked.prog.readableRec t && decide (t < Tryd.pinned.checked.prog.types.size))) = true := by kernel_rfl
theorem frameEncodes_q20 : ((Rows.frameEncodesRow.ifacesOut == Tryd.f3.resultTypes.toList.any (Tryd.pinned.checked.prog.ifacesRec ·))) = true := by kernel_rfl
theorem frameEncodes_q21 : ((Rows.frameEncodesRow.loopsOut == Tryd.f3.resultTypes.toList.any (Tryd.pinned.checked.prog.loopsFrom ·))) = true := by kernel_rfl
theorem frameEncodes_q22 : ((Rows.frameEncodesRow.plainKeys == Tryd.pinned.checked.prog.plainKeys)) = true := by kernel_rfl
theorem frameEncodes_q23 : (Rows.frameEncodesRow.shortTexts.isNone) = true := by kernel_rfl
theorem frameEncodes_q24 : (Tryd.pinned.checked.prog.stopsHeard) = true := by kernel_rfl
theorem frameEncodes_q25 : (Tryd.pinned.checked.prog.mayEnter) = true := by kernel_rfl
theorem frameEncodes_q26 : ((Rows.frameEncodesRow.lifted == Tryd.pinned.checked.prog.liftsFinal)) = true := by kernel_rfl
theorem frameEncodes_q27 : ((Tryd.pinned.checked.prog.make == some Rows.frameEncodesRow.make)) = true := by kernel_rfl
theorem frameEncodes_q28 : ((Rows.frameEncodesRow.kinds == (if Rows.frameEncodesRow.domain.isEmpty then [] else Tryd.f3.params.toList.map fun t => match Tryd.pinned.checked.prog.underlying t with | some (.int k) => some k | _ => none))) = true := by kernel_rfl
theorem frameEncodes_q29 : ((Rows.frameEncodesRow.pinned == Rows.frameEncodesRow.pinnedBy)) = true := by kernel_rfl
theorem frameEncodes_q30 : ((Rows.frameEncodesRow.veiled == (Tryd.f3.params.toList ++ Rows.frameEncodesSpec.plain.varTypes Tryd.pinned.checked.prog ++ Tryd.f3.resultTypes.toList).any (Tryd.pinned.checked.prog.veiledRec ·))) = true := by kernel_rfl
theorem frameEncodes_q31 : (Rows.frameEncodesRow.veiledFits Tryd.pinned.checked.prog Tryd.f3.params.toList (Tryd.f3.params.toList ++ Rows.frameEncodesSpec.plain.varTypes Tryd.pinned.checked.prog ++ Tryd.f3.resultTypes.toList)) = true := by kernel_rfl
theorem frameEncodes_k2 : joinedFacts Tryd.pinned.checked.prog 3 Tryd.f3 Rows.frameEncodesSpec Rows.frameEncodesRow = true := (and_i (and_i (and_i (and_i (and_i (and_i (and_i (and_i (and_i (and_i (and_i (and_i (and_i (and_i (and_i (and_i (and_i (and_i (and_i (and_i (and_i (and_i (and_i (and_i (and_i (and_i (and_i (and_i (and_i (and_i (and_i frameEncodes_q0 frameEncodes_q1) frameEncodes_q2) frameEncodes_q3) frameEncodes_q4) frameEncodes_q5) frameEncodes_q6) frameEncodes_q7) frameEncodes_q8) frameEncodes_q9) frameEncodes_q10) frameEncodes_q11) frameEncodes_q12) frameEncodes_q13) frameEncodes_q14) frameEncodes_q15) frameEncodes_q16) frameEncodes_q17) frameEncodes_q18) frameEncodes_q19) frameEncodes_q20) frameEncodes_q21) frameEncodes_q22) frameEncodes_q23) frameEncodes_q24) frameEncodes_q25) frameEncodes_q26) frameEncodes_q27) frameEncodes_q28) frameEncodes_q29) frameEncodes_q30) frameEncodes_q31)

end Go.Proofs.YtajphaljpkeecaaDoor
