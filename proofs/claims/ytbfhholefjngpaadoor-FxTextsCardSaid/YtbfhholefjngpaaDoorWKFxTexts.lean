/-
  A closed fact of the row FxTexts, part by part, in a text of its own (in one piece the kernel wants more than 10 GB for it).
-/
import Derived.Test.YtbfhholefjngpaaDoorRows
import Derived.Test.YtbfhholefjngpaaDoorFxRow
namespace Go.Proofs.YtbfhholefjngpaaDoor
open Go Go.Fx Go.ChangeShapes Go.WideShapes Go.ChangeAt Go.RowKit Go.Proofs
set_option maxRecDepth 100000

theorem and_i {a b : Bool} (h : a = true) (h' : b = true) : (a && b) = true := by rw [h, h']; rfl
theorem fxTexts_q0 : (Rows.fxTextsRow.wf (OpenSpec.ofChange Rows.fxTextsSpec)) = true := by kernel_rfl
theorem fxTexts_q1 : (laidOutB Tryd.pinned.checked.prog) = true := by kernel_rfl
theorem fxTexts_q2 : (mapsRowed Tryd.pinned.checked.prog) = true := by kernel_rfl
theorem fxTexts_q3 : (Tryd.f4.params.all (Tryd.pinned.checked.prog.readableRec ·)) = true := by kernel_rfl
theorem fxTexts_q4 : (namedTie Tryd.pinned.checked.prog Rows.fxTextsRow.named Rows.fxTextsSpec.vars) = true := by kernel_rfl
theorem fxTexts_q5 : ((Rows.fxTextsRow.stops == [])) = true := by kernel_rfl
theorem fxTexts_q6 : ((Tryd.pinned.checked.prog.stops == [])) = true := by kernel_rfl
theorem fxTexts_q7 : ((Rows.fxTextsRow.knobs == [])) = true := by kernel_rfl
theorem fxTexts_q8 : ((Tryd.pinned.checked.prog.stopKnobs == [])) = true := by kernel_rfl
theorem fxTexts_q9 : ((Rows.fxTextsRow.inPlace == Tryd.pinned.checked.prog.inPlace 4)) = true := by kernel_rfl
theorem fxTexts_q10 : ((Rows.fxTextsRow.unfollowed == Tryd.pinned.checked.prog.unfollowed 4)) = true := by kernel_rfl
theorem fxTexts_q11 : ((Rows.fxTextsRow.recurses == Tryd.pinned.checked.prog.recurses 4)) = true := by kernel_rfl
theorem fxTexts_q12 : ((Rows.fxTextsRow.named == Tryd.pinned.checked.prog.varsNamed 4)) = true := by kernel_rfl
theorem fxTexts_q13 : ((Rows.fxTextsRow.maps == (Tryd.f4.params.toList ++ Rows.fxTextsSpec.plain.varTypes Tryd.pinned.checked.prog).any (Tryd.pinned.checked.prog.mapsRec ·))) = true := by kernel_rfl
theorem fxTexts_q14 : ((Rows.fxTextsRow.ifaces == (Tryd.f4.params.toList ++ Rows.fxTextsSpec.plain.varTypes Tryd.pinned.checked.prog).any (Tryd.pinned.checked.prog.ifacesRec ·))) = true := by kernel_rfl
theorem fxTexts_q15 : ((Rows.fxTextsRow.mapsOut == Tryd.pinned.checked.prog.mapsAmong Tryd.f4.resultTypes.toList)) = true := by kernel_rfl
theorem fxTexts_q16 : ((Rows.fxTextsRow.loops == (Tryd.f4.params.toList ++ Rows.fxTextsSpec.plain.varTypes Tryd.pinned.checked.prog).any (Tryd.pinned.checked.prog.loopsFrom ·))) = true := by kernel_rfl
theorem fxTexts_q17 : ((Rows.fxTextsRow.wideKeys == (Tryd.f4.params.toList ++ Rows.fxTextsSpec.plain.varTypes Tryd.pinned.checked.prog ++ Tryd.f4.resultTypes.toList).any (Tryd.pinned.checked.prog.wideKeysFrom ·))) = true := by kernel_rfl
theorem fxTexts_q18 : (Rows.fxTextsSpec.vars.all (Tryd.pinned.checked.prog.varReadable ·)) = true := by kernel_rfl
theorem fxTexts_q19 : (Tryd.f4.resultTypes.all (fun t => Tryd.pinned.checked.prog.readableRec t && decide (t < Tryd.pinned.checked.prog.types.size))) = true := by kernel_rfl
theorem fxTexts_q20 : ((Rows.fxTextsRow.ifacesOut == Tryd.f4.resultTypes.toList.any (Tryd.pinned.checked.prog.ifacesRec ·))) = true := by kernel_rfl
theorem fxTexts_q21 : ((Rows.fxTextsRow.loopsOut == Tryd.f4.resultTypes.toList.any (Tryd.pinned.checked.prog.loopsFrom ·))) = true := by kernel_rfl
theorem fxTexts_q22 : ((Rows.fxTextsRow.plainKeys == Tryd.pinned.checked.prog.plainKeys)) = true := by kernel_rfl
theorem fxTexts_q23 : (Rows.fxTextsRow.shortTexts.isNone) = true := by kernel_rfl
theorem fxTexts_q24 : (Tryd.pinned.checked.prog.stopsHeard) = true := by kernel_rfl
theorem fxTexts_q25 : (Tryd.pinned.checked.prog.mayEnter) = true := by kernel_rfl
theorem fxTexts_q26 : ((Rows.fxTextsRow.lifted == Tryd.pinned.checked.prog.liftsFinal)) = true := by kernel_rfl
theorem fxTexts_q27 : ((Tryd.pinned.checked.prog.make == some Rows.fxTextsRow.make)) = true := by kernel_rfl
theorem fxTexts_q28 : ((Rows.fxTextsRow.kinds == (if Rows.fxTextsRow.domain.isEmpty then [] else Tryd.f4.params.toList.map fun t => match Tryd.pinned.checked.prog.underlying t with | some (.int k) => some k | _ => none))) = true := by kernel_rfl
theorem fxTexts_q29 : ((Rows.fxTextsRow.pinned == Rows.fxTextsRow.pinnedBy)) = true := by kernel_rfl
theorem fxTexts_q30 : ((Rows.fxTextsRow.veiled == (Tryd.f4.params.toList ++ Rows.fxTextsSpec.plain.varTypes Tryd.pinned.checked.prog ++ Tryd.f4.resultTypes.toList).any (Tryd.pinned.checked.prog.veiledRec ·))) = true := by kernel_rfl
theorem fxTexts_q31 : (Rows.fxTextsRow.veiledFits Tryd.pinned.checked.prog Tryd.f4.params.toList (Tryd.f4.params.toList ++ Rows.fxTextsSpec.plain.varTypes Tryd.pinned.checked.prog ++ Tryd.f4.resultTypes.toList)) = true := by kernel_rfl
theorem fxTexts_k2 : joinedFacts Tryd.pinned.checked.prog 4 Tryd.f4 Rows.fxTextsSpec Rows.fxTextsRow = true := (and_i (and_i (and_i (and_i (and_i (and_i (and_i (and_i (and_i (and_i (and_i (and_i (and_i (and_i (and_i (and_i (and_i (and_i (and_i (and_i (and_i (and_i (and_i (and_i (and_i (and_i (and_i (and_i (and_i (and_i (and_i fxTexts_q0 fxTexts_q1) fxTexts_q2) fxTexts_q3) fxTexts_q4) fxTexts_q5) fxTexts_q6) fxTexts_q7) fxTexts_q8) fxTexts_q9) fxTexts_q10) fxTexts_q11) fxTexts_q12) fxTexts_q13) fxTexts_q14) fxTexts_q15) fxTexts_q16) fxTexts_q17) fxTexts_q18) fxTexts_q19) fxTexts_q20) fxTexts_q21) fxTexts_q22) fxTexts_q23) fxTexts_q24) fxTexts_q25) fxTexts_q26) fxTexts_q27) fxTexts_q28) fxTexts_q29) fxTexts_q30) fxTexts_q31)

end Go.Proofs.YtbfhholefjngpaaDoor
