/-
  A closed fact of the row FxWhole, part by part, in a text of its own (in one piece the kernel wants more than 10 GB for it).
-/
import Derived.Test.YtbfhholefjngpaaDoorRows
import Derived.Test.YtbfhholefjngpaaDoorFxRow
namespace Go.Proofs.YtbfhholefjngpaaDoor
open Go Go.Fx Go.ChangeShapes Go.WideShapes Go.ChangeAt Go.RowKit Go.Proofs
set_option maxRecDepth 100000

theorem and_i {a b : Bool} (h : a = true) (h' : b = true) : (a && b) = true := by rw [h, h']; rfl
theorem fxWhole_q0 : (Rows.fxWholeRow.wf (OpenSpec.ofChange Rows.fxWholeSpec)) = true := by kernel_rfl
theorem fxWhole_q1 : (laidOutB Tryd.pinned.checked.prog) = true := by kernel_rfl
theorem fxWhole_q2 : (mapsRowed Tryd.pinned.checked.prog) = true := by kernel_rfl
theorem fxWhole_q3 : (Tryd.f3.params.all (Tryd.pinned.checked.prog.readableRec ·)) = true := by kernel_rfl
theorem fxWhole_q4 : (namedTie Tryd.pinned.checked.prog Rows.fxWholeRow.named Rows.fxWholeSpec.vars) = true := by kernel_rfl
theorem fxWhole_q5 : ((Rows.fxWholeRow.stops == [])) = true := by kernel_rfl
theorem fxWhole_q6 : ((Tryd.pinned.checked.prog.stops == [])) = true := by kernel_rfl
theorem fxWhole_q7 : ((Rows.fxWholeRow.knobs == [])) = true := by kernel_rfl
theorem fxWhole_q8 : ((Tryd.pinned.checked.prog.stopKnobs == [])) = true := by kernel_rfl
theorem fxWhole_q9 : ((Rows.fxWholeRow.inPlace == Tryd.pinned.checked.prog.inPlace 3)) = true := by kernel_rfl
theorem fxWhole_q10 : ((Rows.fxWholeRow.unfollowed == Tryd.pinned.checked.prog.unfollowed 3)) = true := by kernel_rfl
theorem fxWhole_q11 : ((Rows.fxWholeRow.recurses == Tryd.pinned.checked.prog.recurses 3)) = true := by kernel_rfl
theorem fxWhole_q12 : ((Rows.fxWholeRow.named == Tryd.pinned.checked.prog.varsNamed 3)) = true := by kernel_rfl
theorem fxWhole_q13 : ((Rows.fxWholeRow.maps == (Tryd.f3.params.toList ++ Rows.fxWholeSpec.plain.varTypes Tryd.pinned.checked.prog).any (Tryd.pinned.checked.prog.mapsRec ·))) = true := by kernel_rfl
theorem fxWhole_q14 : ((Rows.fxWholeRow.ifaces == (Tryd.f3.params.toList ++ Rows.fxWholeSpec.plain.varTypes Tryd.pinned.checked.prog).any (Tryd.pinned.checked.prog.ifacesRec ·))) = true := by kernel_rfl
theorem fxWhole_q15 : ((Rows.fxWholeRow.mapsOut == Tryd.pinned.checked.prog.mapsAmong Tryd.f3.resultTypes.toList)) = true := by kernel_rfl
theorem fxWhole_q16 : ((Rows.fxWholeRow.loops == (Tryd.f3.params.toList ++ Rows.fxWholeSpec.plain.varTypes Tryd.pinned.checked.prog).any (Tryd.pinned.checked.prog.loopsFrom ·))) = true := by kernel_rfl
theorem fxWhole_q17 : ((Rows.fxWholeRow.wideKeys == (Tryd.f3.params.toList ++ Rows.fxWholeSpec.plain.varTypes Tryd.pinned.checked.prog ++ Tryd.f3.resultTypes.toList).any (Tryd.pinned.checked.prog.wideKeysFrom ·))) = true := by kernel_rfl
theorem fxWhole_q18 : (Rows.fxWholeSpec.vars.all (Tryd.pinned.checked.prog.varReadable ·)) = true := by kernel_rfl
theorem fxWhole_q19 : (Tryd.f3.resultTypes.all (fun t => Tryd.pinned.checked.prog.readableRec t && decide (t < Tryd.pinned.checked.prog.types.size))) = true := by kernel_rfl
theorem fxWhole_q20 : ((Rows.fxWholeRow.ifacesOut == Tryd.f3.resultTypes.toList.any (Tryd.pinned.checked.prog.ifacesRec ·))) = true := by kernel_rfl
theorem fxWhole_q21 : ((Rows.fxWholeRow.loopsOut == Tryd.f3.resultTypes.toList.any (Tryd.pinned.checked.prog.loopsFrom ·))) = true := by kernel_rfl
theorem fxWhole_q22 : ((Rows.fxWholeRow.plainKeys == Tryd.pinned.checked.prog.plainKeys)) = true := by kernel_rfl
theorem fxWhole_q23 : (Rows.fxWholeRow.shortTexts.isNone) = true := by kernel_rfl
theorem fxWhole_q24 : (Tryd.pinned.checked.prog.stopsHeard) = true := by kernel_rfl
theorem fxWhole_q25 : (Tryd.pinned.checked.prog.mayEnter) = true := by kernel_rfl
theorem fxWhole_q26 : ((Rows.fxWholeRow.lifted == Tryd.pinned.checked.prog.liftsFinal)) = true := by kernel_rfl
theorem fxWhole_q27 : ((Tryd.pinned.checked.prog.make == some Rows.fxWholeRow.make)) = true := by kernel_rfl
theorem fxWhole_q28 : ((Rows.fxWholeRow.kinds == (if Rows.fxWholeRow.domain.isEmpty then [] else Tryd.f3.params.toList.map fun t => match Tryd.pinned.checked.prog.underlying t with | some (.int k) => some k | _ => none))) = true := by kernel_rfl
theorem fxWhole_q29 : ((Rows.fxWholeRow.pinned == Rows.fxWholeRow.pinnedBy)) = true := by kernel_rfl
theorem fxWhole_q30 : ((Rows.fxWholeRow.veiled == (Tryd.f3.params.toList ++ Rows.fxWholeSpec.plain.varTypes Tryd.pinned.checked.prog ++ Tryd.f3.resultTypes.toList).any (Tryd.pinned.checked.prog.veiledRec ·))) = true := by kernel_rfl
theorem fxWhole_q31 : (Rows.fxWholeRow.veiledFits Tryd.pinned.checked.prog Tryd.f3.params.toList (Tryd.f3.params.toList ++ Rows.fxWholeSpec.plain.varTypes Tryd.pinned.checked.prog ++ Tryd.f3.resultTypes.toList)) = true := by kernel_rfl
theorem fxWhole_k2 : joinedFacts Tryd.pinned.checked.prog 3 Tryd.f3 Rows.fxWholeSpec Rows.fxWholeRow = true := (and_i (and_i (and_i (and_i (and_i (and_i (and_i (and_i (and_i (and_i (and_i (and_i (and_i (and_i (and_i (and_i (and_i (and_i (and_i (and_i (and_i (and_i (and_i (and_i (and_i (and_i (and_i (and_i (and_i (and_i (and_i fxWhole_q0 fxWhole_q1) fxWhole_q2) fxWhole_q3) fxWhole_q4) fxWhole_q5) fxWhole_q6) fxWhole_q7) fxWhole_q8) fxWhole_q9) fxWhole_q10) fxWhole_q11) fxWhole_q12) fxWhole_q13) fxWhole_q14) fxWhole_q15) fxWhole_q16) fxWhole_q17) fxWhole_q18) fxWhole_q19) fxWhole_q20) fxWhole_q21) fxWhole_q22) fxWhole_q23) fxWhole_q24) fxWhole_q25) fxWhole_q26) fxWhole_q27) fxWhole_q28) fxWhole_q29) fxWhole_q30) fxWhole_q31)

end Go.Proofs.YtbfhholefjngpaaDoor
