/-
  A closed fact of the row FxOrder, part by part, in a text of its own (in one piece the kernel wants more than 10 GB for it).
-/
import Derived.Test.YtbfhholefjngpaaDoorRows
import Derived.Test.YtbfhholefjngpaaDoorFxRow
namespace Go.Proofs.YtbfhholefjngpaaDoor
open Go Go.Fx Go.ChangeShapes Go.WideShapes Go.ChangeAt Go.RowKit Go.Proofs
set_option maxRecDepth 100000

theorem and_i {a b : Bool} (h : a = true) (h' : b = true) : (a && b) = true := by rw [h, h']; rfl
theorem fxOrder_q0 : (Rows.fxOrderRow.wf (OpenSpec.ofChange Rows.fxOrderSpec)) = true := by kernel_rfl
theorem fxOrder_q1 : (laidOutB Tryd.pinned.checked.prog) = true := by kernel_rfl
theorem fxOrder_q2 : (mapsRowed Tryd.pinned.checked.prog) = true := by kernel_rfl
theorem fxOrder_q3 : (Tryd.f10.params.all (Tryd.pinned.checked.prog.readableRec ·)) = true := by kernel_rfl
theorem fxOrder_q4 : (namedTie Tryd.pinned.checked.prog Rows.fxOrderRow.named Rows.fxOrderSpec.vars) = true := by kernel_rfl
theorem fxOrder_q5 : ((Rows.fxOrderRow.stops == [])) = true := by kernel_rfl
theorem fxOrder_q6 : ((Tryd.pinned.checked.prog.stops == [])) = true := by kernel_rfl
theorem fxOrder_q7 : ((Rows.fxOrderRow.knobs == [])) = true := by kernel_rfl
theorem fxOrder_q8 : ((Tryd.pinned.checked.prog.stopKnobs == [])) = true := by kernel_rfl
theorem fxOrder_q9 : ((Rows.fxOrderRow.inPlace == Tryd.pinned.checked.prog.inPlace 10)) = true := by kernel_rfl
theorem fxOrder_q10 : ((Rows.fxOrderRow.unfollowed == Tryd.pinned.checked.prog.unfollowed 10)) = true := by kernel_rfl
theorem fxOrder_q11 : ((Rows.fxOrderRow.recurses == Tryd.pinned.checked.prog.recurses 10)) = true := by kernel_rfl
theorem fxOrder_q12 : ((Rows.fxOrderRow.named == Tryd.pinned.checked.prog.varsNamed 10)) = true := by kernel_rfl
theorem fxOrder_q13 : ((Rows.fxOrderRow.maps == (Tryd.f10.params.toList ++ Rows.fxOrderSpec.plain.varTypes Tryd.pinned.checked.prog).any (Tryd.pinned.checked.prog.mapsRec ·))) = true := by kernel_rfl
theorem fxOrder_q14 : ((Rows.fxOrderRow.ifaces == (Tryd.f10.params.toList ++ Rows.fxOrderSpec.plain.varTypes Tryd.pinned.checked.prog).any (Tryd.pinned.checked.prog.ifacesRec ·))) = true := by kernel_rfl
theorem fxOrder_q15 : ((Rows.fxOrderRow.mapsOut == Tryd.pinned.checked.prog.mapsAmong Tryd.f10.resultTypes.toList)) = true := by kernel_rfl
theorem fxOrder_q16 : ((Rows.fxOrderRow.loops == (Tryd.f10.params.toList ++ Rows.fxOrderSpec.plain.varTypes Tryd.pinned.checked.prog).any (Tryd.pinned.checked.prog.loopsFrom ·))) = true := by kernel_rfl
theorem fxOrder_q17 : ((Rows.fxOrderRow.wideKeys == (Tryd.f10.params.toList ++ Rows.fxOrderSpec.plain.varTypes Tryd.pinned.checked.prog ++ Tryd.f10.resultTypes.toList).any (Tryd.pinned.checked.prog.wideKeysFrom ·))) = true := by kernel_rfl
theorem fxOrder_q18 : (Rows.fxOrderSpec.vars.all (Tryd.pinned.checked.prog.varReadable ·)) = true := by kernel_rfl
theorem fxOrder_q19 : (Tryd.f10.resultTypes.all (fun t => Tryd.pinned.checked.prog.readableRec t && decide (t < Tryd.pinned.checked.prog.types.size))) = true := by kernel_rfl
theorem fxOrder_q20 : ((Rows.fxOrderRow.ifacesOut == Tryd.f10.resultTypes.toList.any (Tryd.pinned.checked.prog.ifacesRec ·))) = true := by kernel_rfl
theorem fxOrder_q21 : ((Rows.fxOrderRow.loopsOut == Tryd.f10.resultTypes.toList.any (Tryd.pinned.checked.prog.loopsFrom ·))) = true := by kernel_rfl
theorem fxOrder_q22 : ((Rows.fxOrderRow.plainKeys == Tryd.pinned.checked.prog.plainKeys)) = true := by kernel_rfl
theorem fxOrder_q23 : (Rows.fxOrderRow.shortTexts.isNone) = true := by kernel_rfl
theorem fxOrder_q24 : (Tryd.pinned.checked.prog.stopsHeard) = true := by kernel_rfl
theorem fxOrder_q25 : (Tryd.pinned.checked.prog.mayEnter) = true := by kernel_rfl
theorem fxOrder_q26 : ((Rows.fxOrderRow.lifted == Tryd.pinned.checked.prog.liftsFinal)) = true := by kernel_rfl
theorem fxOrder_q27 : ((Tryd.pinned.checked.prog.make == some Rows.fxOrderRow.make)) = true := by kernel_rfl
theorem fxOrder_q28 : ((Rows.fxOrderRow.kinds == (if Rows.fxOrderRow.domain.isEmpty then [] else Tryd.f10.params.toList.map fun t => match Tryd.pinned.checked.prog.underlying t with | some (.int k) => some k | _ => none))) = true := by kernel_rfl
theorem fxOrder_q29 : ((Rows.fxOrderRow.pinned == Rows.fxOrderRow.pinnedBy)) = true := by kernel_rfl
theorem fxOrder_q30 : ((Rows.fxOrderRow.veiled == (Tryd.f10.params.toList ++ Rows.fxOrderSpec.plain.varTypes Tryd.pinned.checked.prog ++ Tryd.f10.resultTypes.toList).any (Tryd.pinned.checked.prog.veiledRec ·))) = true := by kernel_rfl
theorem fxOrder_q31 : (Rows.fxOrderRow.veiledFits Tryd.pinned.checked.prog Tryd.f10.params.toList (Tryd.f10.params.toList ++ Rows.fxOrderSpec.plain.varTypes Tryd.pinned.checked.prog ++ Tryd.f10.resultTypes.toList)) = true := by kernel_rfl
theorem fxOrder_k2 : joinedFacts Tryd.pinned.checked.prog 10 Tryd.f10 Rows.fxOrderSpec Rows.fxOrderRow = true := (and_i (and_i (and_i (and_i (and_i (and_i (and_i (and_i (and_i (and_i (and_i (and_i (and_i (and_i (and_i (and_i (and_i (and_i (and_i (and_i (and_i (and_i (and_i (and_i (and_i (and_i (and_i (and_i (and_i (and_i (and_i fxOrder_q0 fxOrder_q1) fxOrder_q2) fxOrder_q3) fxOrder_q4) fxOrder_q5) fxOrder_q6) fxOrder_q7) fxOrder_q8) fxOrder_q9) fxOrder_q10) fxOrder_q11) fxOrder_q12) fxOrder_q13) fxOrder_q14) fxOrder_q15) fxOrder_q16) fxOrder_q17) fxOrder_q18) fxOrder_q19) fxOrder_q20) fxOrder_q21) fxOrder_q22) fxOrder_q23) fxOrder_q24) fxOrder_q25) fxOrder_q26) fxOrder_q27) fxOrder_q28) fxOrder_q29) fxOrder_q30) fxOrder_q31)

end Go.Proofs.YtbfhholefjngpaaDoor
