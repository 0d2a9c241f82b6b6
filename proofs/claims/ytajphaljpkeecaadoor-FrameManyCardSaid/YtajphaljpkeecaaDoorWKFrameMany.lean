/-
  A closed fact of the row FrameMany, part by part, in a text of its own (in one piece the kernel wants more than 10 GB for it).
-/
import Derived.Test.YtajphaljpkeecaaDoorRows
import Derived.Test.YtajphaljpkeecaaDoorFxRow
namespace Go.Proofs.YtajphaljpkeecaaDoor
open Go Go.Fx Go.ChangeShapes Go.WideShapes Go.ChangeAt Go.RowKit Go.Proofs
set_option maxRecDepth 100000

theorem and_i {a b : Bool} (h : a = true) (h' : b = true) : (a && b) = true := by rw [h, h']; rfl
theorem frameMany_q0 : (Rows.frameManyRow.wf (OpenSpec.ofChange Rows.frameManySpec)) = true := by kernel_rfl
theorem frameMany_q1 : (laidOutB Tryd.pinned.checked.prog) = true := by kernel_rfl
theorem frameMany_q2 : (mapsRowed Tryd.pinned.checked.prog) = true := by kernel_rfl
theorem frameMany_q3 : (Tryd.f9.params.all (Tryd.pinned.checked.prog.readableRec ·)) = true := by kernel_rfl
theorem frameMany_q4 : (namedTie Tryd.pinned.checked.prog Rows.frameManyRow.named Rows.frameManySpec.vars) = true := by kernel_rfl
theorem frameMany_q5 : ((Rows.frameManyRow.stops == [])) = true := by kernel_rfl
theorem frameMany_q6 : ((Tryd.pinned.checked.prog.stops == [])) = true := by kernel_rfl
theorem frameMany_q7 : ((Rows.frameManyRow.knobs == [])) = true := by kernel_rfl
theorem frameMany_q8 : ((Tryd.pinned.checked.prog.stopKnobs == [])) = true := by kernel_rfl
theorem frameMany_q9 : ((Rows.frameManyRow.inPlace == Tryd.pinned.checked.prog.inPlace 9)) = true := by kernel_rfl
theorem frameMany_q10 : ((Rows.frameManyRow.unfollowed == Tryd.pinned.checked.prog.unfollowed 9)) = true := by kernel_rfl
theorem frameMany_q11 : ((Rows.frameManyRow.recurses == Tryd.pinned.checked.prog.recurses 9)) = true := by kernel_rfl
theorem frameMany_q12 : ((Rows.frameManyRow.named == Tryd.pinned.checked.prog.varsNamed 9)) = true := by kernel_rfl
theorem frameMany_q13 : ((Rows.frameManyRow.maps == (Tryd.f9.params.toList ++ Rows.frameManySpec.plain.varTypes Tryd.pinned.checked.prog).any (Tryd.pinned.checked.prog.mapsRec ·))) = true := by kernel_rfl
theorem frameMany_q14 : ((Rows.frameManyRow.ifaces == (Tryd.f9.params.toList ++ Rows.frameManySpec.plain.varTypes Tryd.pinned.checked.prog).any (Tryd.pinned.checked.prog.ifacesRec ·))) = true := by kernel_rfl
theorem frameMany_q15 : ((Rows.frameManyRow.mapsOut == Tryd.pinned.checked.prog.mapsAmong Tryd.f9.resultTypes.toList)) = true := by kernel_rfl
theorem frameMany_q16 : ((Rows.frameManyRow.loops == (Tryd.f9.params.toList ++ Rows.frameManySpec.plain.varTypes Tryd.pinned.checked.prog).any (Tryd.pinned.checked.prog.loopsFrom ·))) = true := by kernel_rfl
theorem frameMany_q17 : ((Rows.frameManyRow.wideKeys == (Tryd.f9.params.toList ++ Rows.frameManySpec.plain.varTypes Tryd.pinned.checked.prog ++ Tryd.f9.resultTypes.toList).any (Tryd.pinned.checked.prog.wideKeysFrom ·))) = true := by kernel_rfl
theorem frameMany_q18 : (Rows.frameManySpec.vars.all (Tryd.pinned.checked.prog.varReadable ·)) = true := by kernel_rfl
theorem frameMany_q19 : (Tryd.f9.resultTypes.all (fun t => Tryd.pinned.checked.prog.readableRec t && decide (t < Tryd.pinned.checked.prog.types.size))) = true := by kernel_rfl
theorem frameMany_q20 : ((Rows.frameManyRow.ifacesOut == Tryd.f9.resultTypes.toList.any (Tryd.pinned.checked.prog.ifacesRec ·))) = true := by kernel_rfl
theorem frameMany_q21 : ((Rows.frameManyRow.loopsOut == Tryd.f9.resultTypes.toList.any (Tryd.pinned.checked.prog.loopsFrom ·))) = true := by kernel_rfl
theorem frameMany_q22 : ((Rows.frameManyRow.plainKeys == Tryd.pinned.checked.prog.plainKeys)) = true := by kernel_rfl
theorem frameMany_q23 : (Rows.frameManyRow.shortTexts.isNone) = true := by kernel_rfl
theorem frameMany_q24 : (Tryd.pinned.checked.prog.stopsHeard) = true := by kernel_rfl
theorem frameMany_q25 : (Tryd.pinned.checked.prog.mayEnter) = true := by kernel_rfl
theorem frameMany_q26 : ((Rows.frameManyRow.lifted == Tryd.pinned.checked.prog.liftsFinal)) = true := by kernel_rfl
theorem frameMany_q27 : ((Tryd.pinned.checked.prog.make == some Rows.frameManyRow.make)) = true := by kernel_rfl
theorem frameMany_q28 : ((Rows.frameManyRow.kinds == (if Rows.frameManyRow.domain.isEmpty then [] else Tryd.f9.params.toList.map fun t => match Tryd.pinned.checked.prog.underlying t with | some (.int k) => some k | _ => none))) = true := by kernel_rfl
theorem frameMany_q29 : ((Rows.frameManyRow.pinned == Rows.frameManyRow.pinnedBy)) = true := by kernel_rfl
theorem frameMany_q30 : ((Rows.frameManyRow.veiled == (Tryd.f9.params.toList ++ Rows.frameManySpec.plain.varTypes Tryd.pinned.checked.prog ++ Tryd.f9.resultTypes.toList).any (Tryd.pinned.checked.prog.veiledRec ·))) = true := by kernel_rfl
theorem frameMany_q31 : (Rows.frameManyRow.veiledFits Tryd.pinned.checked.prog Tryd.f9.params.toList (Tryd.f9.params.toList ++ Rows.frameManySpec.plain.varTypes Tryd.pinned.checked.prog ++ Tryd.f9.resultTypes.toList)) = true := by kernel_rfl
theorem frameMany_k2 : joinedFacts Tryd.pinned.checked.prog 9 Tryd.f9 Rows.frameManySpec Rows.frameManyRow = true := (and_i (and_i (and_i (and_i (and_i (and_i (and_i (and_i (and_i (and_i (and_i (and_i (and_i (and_i (and_i (and_i (and_i (and_i (and_i (and_i (and_i (and_i (and_i (and_i (and_i (and_i (and_i (and_i (and_i (and_i (and_i frameMany_q0 frameMany_q1) frameMany_q2) frameMany_q3) frameMany_q4) frameMany_q5) frameMany_q6) frameMany_q7) frameMany_q8) frameMany_q9) frameMany_q10) frameMany_q11) frameMany_q12) frameMany_q13) frameMany_q14) frameMany_q15) frameMany_q16) frameMany_q17) frameMany_q18) frameMany_q19) frameMany_q20) frameMany_q21) frameMany_q22) frameMany_q23) frameMany_q24) frameMany_q25) frameMany_q26) frameMany_q27) frameMany_q28) frameMany_q29) frameMany_q30) frameMany_q31)

end Go.Proofs.YtajphaljpkeecaaDoor
