/-
  A closed fact of the row FxProducts, part by part, in a text of its own (in one piece the kernel wants more than 10 GB for it).
-/
import Derived.Test.YtbfhholefjngpaaDoorRows
import Derived.Test.YtbfhholefjngpaaDoorFxRow
namespace Go.Proofs.YtbfhholefjngpaaDoor
open Go Go.Fx Go.ChangeShapes Go.WideShapes Go.ChangeAt Go.RowKit Go.Proofs
set_option maxRecDepth 100000

theorem and_i {a b : Bool} (h : a = true) (h' : b = true) : (a && b) = true := by rw [h, h']; rfl
theorem fxProducts_q0 : (Rows.fxProductsRow.wf (OpenSpec.ofChange Rows.fxProductsSpec)) = true := by kernel_rfl
theorem fxProducts_q1 : (laidOutB Tryd.pinned.checked.prog) = true := by kernel_rfl
theorem fxProducts_q2 : (mapsRowed Tryd.pinned.checked.prog) = true := by kernel_rfl
theorem fxProducts_q3 : (Tryd.f5.params.all (Tryd.pinned.checked.prog.readableRec ·)) = true := by kernel_rfl
theorem fxProducts_q4 : (namedTie Tryd.pinned.checked.prog Rows.fxProductsRow.named Rows.fxProductsSpec.vars) = true := by kernel_rfl
theorem fxProducts_q5 : ((Rows.fxProductsRow.stops == [])) = true := by kernel_rfl
theorem fxProducts_q6 : ((Tryd.pinned.checked.prog.stops == [])) = true := by kernel_rfl
theorem fxProducts_q7 : ((Rows.fxProductsRow.knobs == [])) = true := by kernel_rfl
theorem fxProducts_q8 : ((Tryd.pinned.checked.prog.stopKnobs == [])) = true := by kernel_rfl
theorem fxProducts_q9 : ((Rows.fxProductsRow.inPlace == Tryd.pinned.checked.prog.inPlace 5)) = true := by kernel_rfl
theorem fxProducts_q10 : ((Rows.fxProductsRow.unfollowed == Tryd.pinned.checked.prog.unfollowed 5)) = true := by kernel_rfl
theorem fxProducts_q11 : ((Rows.fxProductsRow.recurses == Tryd.pinned.checked.prog.recurses 5)) = true := by kernel_rfl
theorem fxProducts_q12 : ((Rows.fxProductsRow.named == Tryd.pinned.checked.prog.varsNamed 5)) = true := by kernel_rfl
theorem fxProducts_q13 : ((Rows.fxProductsRow.maps == (Tryd.f5.params.toList ++ Rows.fxProductsSpec.plain.varTypes Tryd.pinned.checked.prog).any (Tryd.pinned.checked.prog.mapsRec ·))) = true := by kernel_rfl
theorem fxProducts_q14 : ((Rows.fxProductsRow.ifaces == (Tryd.f5.params.toList ++ Rows.fxProductsSpec.plain.varTypes Tryd.pinned.checked.prog).any (Tryd.pinned.checked.prog.ifacesRec ·))) = true := by kernel_rfl
theorem fxProducts_q15 : ((Rows.fxProductsRow.mapsOut == Tryd.pinned.checked.prog.mapsAmong Tryd.f5.resultTypes.toList)) = true := by kernel_rfl
theorem fxProducts_q16 : ((Rows.fxProductsRow.loops == (Tryd.f5.params.toList ++ Rows.fxProductsSpec.plain.varTypes Tryd.pinned.checked.prog).any (Tryd.pinned.checked.prog.loopsFrom ·))) = true := by kernel_rfl
theorem fxProducts_q17 : ((Rows.fxProductsRow.wideKeys == (Tryd.f5.params.toList ++ Rows.fxProductsSpec.plain.varTypes Tryd.pinned.checked.prog ++ Tryd.f5.resultTypes.toList).any (Tryd.pinned.checked.prog.wideKeysFrom ·))) = true := by kernel_rfl
theorem fxProducts_q18 : (Rows.fxProductsSpec.vars.all (Tryd.pinned.checked.prog.varReadable ·)) = true := by kernel_rfl
theorem fxProducts_q19 : (Tryd.f5.resultTypes.all (fun t => Tryd.pinned.checked.prog.readableRec t && decide (t < Tryd.pinned.checked.prog.types.size))) = true := by kernel_rfl
theorem fxProducts_q20 : ((Rows.fxProductsRow.ifacesOut == Tryd.f5.resultTypes.toList.any (Tryd.pinned.checked.prog.ifacesRec ·))) = true := by kernel_rfl
theorem fxProducts_q21 : ((Rows.fxProductsRow.loopsOut == Tryd.f5.resultTypes.toList.any (Tryd.pinned.checked.prog.loopsFrom ·))) = true := by kernel_rfl
theorem fxProducts_q22 : ((Rows.fxProductsRow.plainKeys == Tryd.pinned.checked.prog.plainKeys)) = true := by kernel_rfl
theorem fxProducts_q23 : (Rows.fxProductsRow.shortTexts.isNone) = true := by kernel_rfl
theorem fxProducts_q24 : (Tryd.pinned.checked.prog.stopsHeard) = true := by kernel_rfl
theorem fxProducts_q25 : (Tryd.pinned.checked.prog.mayEnter) = true := by kernel_rfl
theorem fxProducts_q26 : ((Rows.fxProductsRow.lifted == Tryd.pinned.checked.prog.liftsFinal)) = true := by kernel_rfl
theorem fxProducts_q27 : ((Tryd.pinned.checked.prog.make == some Rows.fxProductsRow.make)) = true := by kernel_rfl
theorem fxProducts_q28 : ((Rows.fxProductsRow.kinds == (if Rows.fxProductsRow.domain.isEmpty then [] else Tryd.f5.params.toList.map fun t => match Tryd.pinned.checked.prog.underlying t with | some (.int k) => some k | _ => none))) = true := by kernel_rfl
theorem fxProducts_q29 : ((Rows.fxProductsRow.pinned == Rows.fxProductsRow.pinnedBy)) = true := by kernel_rfl
theorem fxProducts_q30 : ((Rows.fxProductsRow.veiled == (Tryd.f5.params.toList ++ Rows.fxProductsSpec.plain.varTypes Tryd.pinned.checked.prog ++ Tryd.f5.resultTypes.toList).any (Tryd.pinned.checked.prog.veiledRec ·))) = true := by kernel_rfl
theorem fxProducts_q31 : (Rows.fxProductsRow.veiledFits Tryd.pinned.checked.prog Tryd.f5.params.toList (Tryd.f5.params.toList ++ Rows.fxProductsSpec.plain.varTypes Tryd.pinned.checked.prog ++ Tryd.f5.resultTypes.toList)) = true := by kernel_rfl
theorem fxProducts_k2 : joinedFacts Tryd.pinned.checked.prog 5 Tryd.f5 Rows.fxProductsSpec Rows.fxProductsRow = true := (and_i (and_i (and_i (and_i (and_i (and_i (and_i (and_i (and_i (and_i (and_i (and_i (and_i (and_i (and_i (and_i (and_i (and_i (and_i (and_i (and_i (and_i (and_i (and_i (and_i (and_i (and_i (and_i (and_i (and_i (and_i fxProducts_q0 fxProducts_q1) fxProducts_q2) fxProducts_q3) fxProducts_q4) fxProducts_q5) fxProducts_q6) fxProducts_q7) fxProducts_q8) fxProducts_q9) fxProducts_q10) fxProducts_q11) fxProducts_q12) fxProducts_q13) fxProducts_q14) fxProducts_q15) fxProducts_q16) fxProducts_q17) fxProducts_q18) fxProducts_q19) fxProducts_q20) fxProducts_q21) fxProducts_q22) fxProducts_q23) fxProducts_q24) fxProducts_q25) fxProducts_q26) fxProducts_q27) fxProducts_q28) fxProducts_q29) fxProducts_q30) fxProducts_q31)

end Go.Proofs.YtbfhholefjngpaaDoor
