/-
  A closed fact of the row FxSums, part by part, in a text of its own (in one piece the kernel wants more than 10 GB for it).
-/
import Derived.Test.YtbfhholefjngpaaDoorRows
import Derived.Test.YtbfhholefjngpaaDoorFxRow
namespace Go.Proofs.YtbfhholefjngpaaDoor
open Go Go.Fx Go.ChangeShapes Go.WideShapes Go.ChangeAt Go.RowKit Go.Proofs
set_option maxRecDepth 100000

theorem and_i {a b : Bool} (h : a = true) (h' : b = true) : (a && b) = true := by rw [h, h']; rfl
theorem fxSums_q0 : (Rows.fxSumsRow.wf (OpenSpec.ofChange Rows.fxSumsSpec)) = true := by kernel_rfl
theorem fxSums_q1 : (laidOutB Tryd.pinned.checked.prog) = true := by kernel_rfl
theorem fxSums_q2 : (mapsRowed Tryd.pinned.checked.prog) = true := by kernel_rfl
theorem fxSums_q3 : (Tryd.f6.params.all (Tryd.pinned.checked.prog.readableRec ·)) = true := by kernel_rfl
theorem fxSums_q4 : (namedTie Tryd.pinned.checked.prog Rows.fxSumsRow.named Rows.fxSumsSpec.vars) = true := by kernel_rfl
theorem fxSums_q5 : ((Rows.fxSumsRow.stops == [])) = true := by kernel_rfl
theorem fxSums_q6 : ((Tryd.pinned.checked.prog.stops == [])) = true := by kernel_rfl
theorem fxSums_q7 : ((Rows.fxSumsRow.knobs == [])) = true := by kernel_rfl
theorem fxSums_q8 : ((Tryd.pinned.checked.prog.stopKnobs == [])) = true := by kernel_rfl
theorem fxSums_q9 : ((Rows.fxSumsRow.inPlace == Tryd.pinned.checked.prog.inPlace 6)) = true := by kernel_rfl
theorem fxSums_q10 : ((Rows.fxSumsRow.unfollowed == Tryd.pinned.checked.prog.unfollowed 6)) = true := by kernel_rfl
theorem fxSums_q11 : ((Rows.fxSumsRow.recurses == Tryd.pinned.checked.prog.recurses 6)) = true := by kernel_rfl
theorem fxSums_q12 : ((Rows.fxSumsRow.named == Tryd.pinned.checked.prog.varsNamed 6)) = true := by kernel_rfl
theorem fxSums_q13 : ((Rows.fxSumsRow.maps == (Tryd.f6.params.toList ++ Rows.fxSumsSpec.plain.varTypes Tryd.pinned.checked.prog).any (Tryd.pinned.checked.prog.mapsRec ·))) = true := by kernel_rfl
theorem fxSums_q14 : ((Rows.fxSumsRow.ifaces == (Tryd.f6.params.toList ++ Rows.fxSumsSpec.plain.varTypes Tryd.pinned.checked.prog).any (Tryd.pinned.checked.prog.ifacesRec ·))) = true := by kernel_rfl
theorem fxSums_q15 : ((Rows.fxSumsRow.mapsOut == Tryd.pinned.checked.prog.mapsAmong Tryd.f6.resultTypes.toList)) = true := by kernel_rfl
theorem fxSums_q16 : ((Rows.fxSumsRow.loops == (Tryd.f6.params.toList ++ Rows.fxSumsSpec.plain.varTypes Tryd.pinned.checked.prog).any (Tryd.pinned.checked.prog.loopsFrom ·))) = true := by kernel_rfl
theorem fxSums_q17 : ((Rows.fxSumsRow.wideKeys == (Tryd.f6.params.toList ++ Rows.fxSumsSpec.plain.varTypes Tryd.pinned.checked.prog ++ Tryd.f6.resultTypes.toList).any (Tryd.pinned.checked.prog.wideKeysFrom ·))) = true := by kernel_rfl
theorem fxSums_q18 : (Rows.fxSumsSpec.vars.all (Tryd.pinned.checked.prog.varReadable ·)) = true := by kernel_rfl
theorem fxSums_q19 : (Tryd.f6.resultTypes.all (fun t => Tryd.pinned.checked.prog.readableRec t && decide (t < Tryd.pinned.checked.prog.types.size))) = true := by kernel_rfl
theorem fxSums_q20 : ((Rows.fxSumsRow.ifacesOut == Tryd.f6.resultTypes.toList.any (Tryd.pinned.checked.prog.ifacesRec ·))) = true := by kernel_rfl
theorem fxSums_q21 : ((Rows.fxSumsRow.loopsOut == Tryd.f6.resultTypes.toList.any (Tryd.pinned.checked.prog.loopsFrom ·))) = true := by kernel_rfl
theorem fxSums_q22 : ((Rows.fxSumsRow.plainKeys == Tryd.pinned.checked.prog.plainKeys)) = true := by kernel_rfl
theorem fxSums_q23 : (Rows.fxSumsRow.shortTexts.isNone) = true := by kernel_rfl
theorem fxSums_q24 : (Tryd.pinned.checked.prog.stopsHeard) = true := by kernel_rfl
theorem fxSums_q25 : (Tryd.pinned.checked.prog.mayEnter) = true := by kernel_rfl
theorem fxSums_q26 : ((Rows.fxSumsRow.lifted == Tryd.pinned.checked.prog.liftsFinal)) = true := by kernel_rfl
theorem fxSums_q27 : ((Tryd.pinned.checked.prog.make == some Rows.fxSumsRow.make)) = true := by kernel_rfl
theorem fxSums_q28 : ((Rows.fxSumsRow.kinds == (if Rows.fxSumsRow.domain.isEmpty then [] else Tryd.f6.params.toList.map fun t => match Tryd.pinned.checked.prog.underlying t with | some (.int k) => some k | _ => none))) = true := by kernel_rfl
theorem fxSums_q29 : ((Rows.fxSumsRow.pinned == Rows.fxSumsRow.pinnedBy)) = true := by kernel_rfl
theorem fxSums_q30 : ((Rows.fxSumsRow.veiled == (Tryd.f6.params.toList ++ Rows.fxSumsSpec.plain.varTypes Tryd.pinned.checked.prog ++ Tryd.f6.resultTypes.toList).any (Tryd.pinned.checked.prog.veiledRec ·))) = true := by kernel_rfl
theorem fxSums_q31 : (Rows.fxSumsRow.veiledFits Tryd.pinned.checked.prog Tryd.f6.params.toList (Tryd.f6.params.toList ++ Rows.fxSumsSpec.plain.varTypes Tryd.pinned.checked.prog ++ Tryd.f6.resultTypes.toList)) = true := by kernel_rfl
theorem fxSums_k2 : joinedFacts Tryd.pinned.checked.prog 6 Tryd.f6 Rows.fxSumsSpec Rows.fxSumsRow = true := (and_i (and_i (and_i (and_i (and_i (and_i (and_i (and_i (and_i (and_i (and_i (and_i (and_i (and_i (and_i (and_i (and_i (and_i (and_i (and_i (and_i (and_i (and_i (and_i (and_i (and_i (and_i (and_i (and_i (and_i (and_i fxSums_q0 fxSums_q1) fxSums_q2) fxSums_q3) fxSums_q4) fxSums_q5) fxSums_q6) fxSums_q7) fxSums_q8) fxSums_q9) fxSums_q10) fxSums_q11) fxSums_q12) fxSums_q13) fxSums_q14) fxSums_q15) fxSums_q16) fxSums_q17) fxSums_q18) fxSums_q19) fxSums_q20) fxSums_q21) fxSums_q22) fxSums_q23) fxSums_q24) fxSums_q25) fxSums_q26) fxSums_q27) fxSums_q28) fxSums_q29) fxSums_q30) fxSums_q31)

end Go.Proofs.YtbfhholefjngpaaDoor
