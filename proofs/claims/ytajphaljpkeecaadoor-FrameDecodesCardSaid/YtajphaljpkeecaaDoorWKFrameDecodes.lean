/-
  A closed fact of the row FrameDecodes, part by part, in a text of its own (in one piece the kernel wants more than 10 GB for it).
-/
import Derived.Test.YtajphaljpkeecaaDoorRows
import Derived.Test.YtajphaljpkeecaaDoorFxRow
namespace Go.Proofs.YtajphaljpkeecaaDoor
open Go Go.Fx Go.ChangeShapes Go.WideShapes Go.ChangeAt Go.RowKit Go.Proofs
set_option maxRecDepth 100000

theorem and_i {a b : Bool} (h : a = true) (h' : b = true) : (a && b) = true := by rw [h, h']; rfl
theorem frameDecodes_q0 : (Rows.frameDecodesRow.wf (OpenSpec.ofChange Rows.frameDecodesSpec)) = true := by kernel_rfl
theorem frameDecodes_q1 : (laidOutB Tryd.pinned.checked.prog) = true := by kernel_rfl
theorem frameDecodes_q2 : (mapsRowed Tryd.pinned.checked.prog) = true := by kernel_rfl
theorem frameDecodes_q3 : (Tryd.f4.params.all (Tryd.pinned.checked.prog.readableRec ·)) = true := by kernel_rfl
theorem frameDecodes_q4 : (namedTie Tryd.pinned.checked.prog Rows.frameDecodesRow.named Rows.frameDecodesSpec.vars) = true := by kernel_rfl
theorem frameDecodes_q5 : ((Rows.frameDecodesRow.stops == [])) = true := by kernel_rfl
theorem frameDecodes_q6 : ((Tryd.pinned.checked.prog.stops == [])) = true := by kernel_rfl
theorem frameDecodes_q7 : ((Rows.frameDecodesRow.knobs == [])) = true := by kernel_rfl
theorem frameDecodes_q8 : ((Tryd.pinned.checked.prog.stopKnobs == [])) = true := by kernel_rfl
theorem frameDecodes_q9 : ((Rows.frameDecodesRow.inPlace == Tryd.pinned.checked.prog.inPlace 4)) = true := by kernel_rfl
theorem frameDecodes_q10 : ((Rows.frameDecodesRow.unfollowed == Tryd.pinned.checked.prog.unfollowed 4)) = true := by kernel_rfl
theorem frameDecodes_q11 : ((Rows.frameDecodesRow.recurses == Tryd.pinned.checked.prog.recurses 4)) = true := by kernel_rfl
theorem frameDecodes_q12 : ((Rows.frameDecodesRow.named == Tryd.pinned.checked.prog.varsNamed 4)) = true := by kernel_rfl
theorem frameDecodes_q13 : ((Rows.frameDecodesRow.maps == (Tryd.f4.params.toList ++ Rows.frameDecodesSpec.plain.varTypes Tryd.pinned.checked.prog).any (Tryd.pinned.checked.prog.mapsRec ·))) = true := by kernel_rfl
theorem frameDecodes_q14 : ((Rows.frameDecodesRow.ifaces == (Tryd.f4.params.toList ++ Rows.frameDecodesSpec.plain.varTypes Tryd.pinned.checked.prog).any (Tryd.pinned.checked.prog.ifacesRec ·))) = true := by kernel_rfl
theorem frameDecodes_q15 : ((Rows.frameDecodesRow.mapsOut == Tryd.pinned.checked.prog.mapsAmong Tryd.f4.resultTypes.toList)) = true := by kernel_rfl
theorem frameDecodes_q16 : ((Rows.frameDecodesRow.loops == (Tryd.f4.params.toList ++ Rows.frameDecodesSpec.plain.varTypes Tryd.pinned.checked.prog).any (Tryd.pinned.checked.prog.loopsFrom ·))) = true := by kernel_rfl
theorem frameDecodes_q17 : ((Rows.frameDecodesRow.wideKeys == (Tryd.f4.params.toList ++ Rows.frameDecodesSpec.plain.varTypes Tryd.pinned.checked.prog ++ Tryd.f4.resultTypes.toList).any (Tryd.pinned.checked.prog.wideKeysFrom ·))) = true := by kernel_rfl
theorem frameDecodes_q18 : (Rows.frameDecodesSpec.vars.all (Tryd.pinned.checked.prog.varReadable ·)) = true := by kernel_rfl
theorem frameDecodes_q19 : (Tryd.f4.resultTypes.all (fun t => Tryd.pinned.checked.prog.readableRec t && decide (t < Tryd.pinned.checked.prog.types.size))) = true := by kernel_rfl
theorem frameDecodes_q20 : ((Rows.frameDecodesRow.ifacesOut == Tryd.f4.resultTypes.toList.any (Tryd.pinned.checked.prog.ifacesRec ·))) = true := by kernel_rfl
theorem frameDecodes_q21 : ((Rows.frameDecodesRow.loopsOut == Tryd.f4.resultTypes.toList.any (Tryd.pinned.checked.prog.loopsFrom ·))) = true := by kernel_rfl
theorem frameDecodes_q22 : ((Rows.frameDecodesRow.plainKeys == Tryd.pinned.checked.prog.plainKeys)) = true := by kernel_rfl
theorem frameDecodes_q23 : (Rows.frameDecodesRow.shortTexts.isNone) = true := by kernel_rfl
theorem frameDecodes_q24 : (Tryd.pinned.checked.prog.stopsHeard) = true := by kernel_rfl
theorem frameDecodes_q25 : (Tryd.pinned.checked.prog.mayEnter) = true := by kernel_rfl
theorem frameDecodes_q26 : ((Rows.frameDecodesRow.lifted == Tryd.pinned.checked.prog.liftsFinal)) = true := by kernel_rfl
theorem frameDecodes_q27 : ((Tryd.pinned.checked.prog.make == some Rows.frameDecodesRow.make)) = true := by kernel_rfl
theorem frameDecodes_q28 : ((Rows.frameDecodesRow.kinds == (if Rows.frameDecodesRow.domain.isEmpty then [] else Tryd.f4.params.toList.map fun t => match Tryd.pinned.checked.prog.underlying t with | some (.int k) => some k | _ => none))) = true := by kernel_rfl
theorem frameDecodes_q29 : ((Rows.frameDecodesRow.pinned == Rows.frameDecodesRow.pinnedBy)) = true := by kernel_rfl
theorem frameDecodes_q30 : ((Rows.frameDecodesRow.veiled == (Tryd.f4.params.toList ++ Rows.frameDecodesSpec.plain.varTypes Tryd.pinned.checked.prog ++ Tryd.f4.resultTypes.toList).any (Tryd.pinned.checked.prog.veiledRec ·))) = true := by kernel_rfl
theorem frameDecodes_q31 : (Rows.frameDecodesRow.veiledFits Tryd.pinned.checked.prog Tryd.f4.params.toList (Tryd.f4.params.toList ++ Rows.frameDecodesSpec.plain.varTypes Tryd.pinned.checked.prog ++ Tryd.f4.resultTypes.toList)) = true := by kernel_rfl
theorem frameDecodes_k2 : joinedFacts Tryd.pinned.checked.prog 4 Tryd.f4 Rows.frameDecodesSpec Rows.frameDecodesRow = true := (and_i (and_i (and_i (and_i (and_i (and_i (and_i (and_i (and_i (and_i (and_i (and_i (and_i (and_i (and_i (and_i (and_i (and_i (and_i (and_i (and_i (and_i (and_i (and_i (and_i (and_i (and_i (and_i (and_i (and_i (and_i frameDecodes_q0 frameDecodes_q1) frameDecodes_q2) frameDecodes_q3) frameDecodes_q4) frameDecodes_q5) frameDecodes_q6) frameDecodes_q7) frameDecodes_q8) frameDecodes_q9) frameDecodes_q10) frameDecodes_q11) frameDecodes_q12) frameDecodes_q13) frameDecodes_q14) frameDecodes_q15) frameDecodes_q16) frameDecodes_q17) frameDecodes_q18) frameDecodes_q19) frameDecodes_q20) frameDecodes_q21) frameDecodes_q22) frameDecodes_q23) frameDecodes_q24) frameDecodes_q25) frameDecodes_q26) frameDecodes_q27) frameDecodes_q28) frameDecodes_q29) frameDecodes_q30) frameDecodes_q31)

end Go.Proofs.YtajphaljpkeecaaDoor
