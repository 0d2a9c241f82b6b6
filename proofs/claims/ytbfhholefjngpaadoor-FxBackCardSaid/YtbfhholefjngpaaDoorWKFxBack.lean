/-
  A closed fact of the row FxBack, part by part, in a text of its own (in one piece the kernel wants more than 10 GB for it).
-/
import Derived.Test.YtbfhholefjngpaaDoorRows
import Derived.Test.YtbfhholefjngpaaDoorFxRow
namespace Go.Proofs.YtbfhholefjngpaaDoor
open Go Go.Fx Go.ChangeShapes Go.WideShapes Go.ChangeAt Go.RowKit Go.Proofs
set_option maxRecDepth 100000

theorem and_i {a b : Bool} (h : a = true) (h' : b = true) : (a && b) = true := by rw [h, h']; rfl
theorem fxBack_q0 : (Rows.fxBackRow.wf (OpenSpec.ofChange Rows.fxBackSpec)) = true := by kernel_rfl
theorem fxBack_q1 : (laidOutB Tryd.pinned.checked.prog) = true := by kernel_rfl
theorem fxBack_q2 : (mapsRowed Tryd.pinned.checked.prog) = true := by kernel_rfl
theorem fxBack_q3 : (Tryd.f7.params.all (Tryd.pinned.checked.prog.readableRec ·)) = true := by kernel_rfl
theorem fxBack_q4 : (namedTie Tryd.pinned.checked.prog Rows.fxBackRow.named Rows.fxBackSpec.vars) = true := by kernel_rfl
theorem fxBack_q5 : ((Rows.fxBackRow.stops == [])) = true := by kernel_rfl
theorem fxBack_q6 : ((Tryd.pinned.checked.prog.stops == [])) = true := by kernel_rfl
theorem fxBack_q7 : ((Rows.fxBackRow.knobs == [])) = true := by kernel_rfl
theorem fxBack_q8 : ((Tryd.pinned.checked.prog.stopKnobs == [])) = true := by kernel_rfl
theorem fxBack_q9 : ((Rows.fxBackRow.inPlace == Tryd.pinned.checked.prog.inPlace 7)) = true := by kernel_rfl
theorem fxBack_q10 : ((Rows.fxBackRow.unfollowed == Tryd.pinned.checked.prog.unfollowed 7)) = true := by kernel_rfl
theorem fxBack_q11 : ((Rows.fxBackRow.recurses == Tryd.pinned.checked.prog.recurses 7)) = true := by kernel_rfl
theorem fxBack_q12 : ((Rows.fxBackRow.named == Tryd.pinned.checked.prog.varsNamed 7)) = true := by kernel_rfl
theorem fxBack_q13 : ((Rows.fxBackRow.maps == (Tryd.f7.params.toList ++ Rows.fxBackSpec.plain.varTypes Tryd.pinned.checked.prog).any (Tryd.pinned.checked.prog.mapsRec ·))) = true := by kernel_rfl
theorem fxBack_q14 : ((Rows.fxBackRow.ifaces == (Tryd.f7.params.toList ++ Rows.fxBackSpec.plain.varTypes Tryd.pinned.checked.prog).any (Tryd.pinned.checked.prog.ifacesRec ·))) = true := by kernel_rfl
theorem fxBack_q15 : ((Rows.fxBackRow.mapsOut == Tryd.pinned.checked.prog.mapsAmong Tryd.f7.resultTypes.toList)) = true := by kernel_rfl
theorem fxBack_q16 : ((Rows.fxBackRow.loops == (Tryd.f7.params.toList ++ Rows.fxBackSpec.plain.varTypes Tryd.pinned.checked.prog).any (Tryd.pinned.checked.prog.loopsFrom ·))) = true := by kernel_rfl
theorem fxBack_q17 : ((Rows.fxBackRow.wideKeys == (Tryd.f7.params.toList ++ Rows.fxBackSpec.plain.varTypes Tryd.pinned.checked.prog ++ Tryd.f7.resultTypes.toList).any (Tryd.pinned.checked.prog.wideKeysFrom ·))) = true := by kernel_rfl
theorem fxBack_q18 : (Rows.fxBackSpec.vars.all (Tryd.pinned.checked.prog.varReadable ·)) = true := by kernel_rfl
theorem fxBack_q19 : (Tryd.f7.resultTypes.all (fun t => Tryd.pinned.checked.prog.readableRec t && decide (t < Tryd.pinned.checked.prog.types.size))) = true := by kernel_rfl
theorem fxBack_q20 : ((Rows.fxBackRow.ifacesOut == Tryd.f7.resultTypes.toList.any (Tryd.pinned.checked.prog.ifacesRec ·))) = true := by kernel_rfl
theorem fxBack_q21 : ((Rows.fxBackRow.loopsOut == Tryd.f7.resultTypes.toList.any (Tryd.pinned.checked.prog.loopsFrom ·))) = true := by kernel_rfl
theorem fxBack_q22 : ((Rows.fxBackRow.plainKeys == Tryd.pinned.checked.prog.plainKeys)) = true := by kernel_rfl
theorem fxBack_q23 : (Rows.fxBackRow.shortTexts.isNone) = true := by kernel_rfl
theorem fxBack_q24 : (Tryd.pinned.checked.prog.stopsHeard) = true := by kernel_rfl
theorem fxBack_q25 : (Tryd.pinned.checked.prog.mayEnter) = true := by kernel_rfl
theorem fxBack_q26 : ((Rows.fxBackRow.lifted == Tryd.pinned.checked.prog.liftsFinal)) = true := by kernel_rfl
theorem fxBack_q27 : ((Tryd.pinned.checked.prog.make == some Rows.fxBackRow.make)) = true := by kernel_rfl
theorem fxBack_q28 : ((Rows.fxBackRow.kinds == (if Rows.fxBackRow.domain.isEmpty then [] else Tryd.f7.params.toList.map fun t => match Tryd.pinned.checked.prog.underlying t with | some (.int k) => some k | _ => none))) = true := by kernel_rfl
theorem fxBack_q29 : ((Rows.fxBackRow.pinned == Rows.fxBackRow.pinnedBy)) = true := by kernel_rfl
theorem fxBack_q30 : ((Rows.fxBackRow.veiled == (Tryd.f7.params.toList ++ Rows.fxBackSpec.plain.varTypes Tryd.pinned.checked.prog ++ Tryd.f7.resultTypes.toList).any (Tryd.pinned.checked.prog.veiledRec ·))) = true := by kernel_rfl
theorem fxBack_q31 : (Rows.fxBackRow.veiledFits Tryd.pinned.checked.prog Tryd.f7.params.toList (Tryd.f7.params.toList ++ Rows.fxBackSpec.plain.varTypes Tryd.pinned.checked.prog ++ Tryd.f7.resultTypes.toList)) = true := by kernel_rfl
theorem fxBack_k2 : joinedFacts Tryd.pinned.checked.prog 7 Tryd.f7 Rows.fxBackSpec Rows.fxBackRow = true := (and_i (and_i (and_i (and_i (and_i (and_i (and_i (and_i (and_i (and_i (and_i (and_i (and_i (and_i (and_i (and_i (and_i (and_i (and_i (and_i (and_i (and_i (and_i (and_i (and_i (and_i (and_i (and_i (and_i (and_i (and_i fxBack_q0 fxBack_q1) fxBack_q2) fxBack_q3) fxBack_q4) fxBack_q5) fxBack_q6) fxBack_q7) fxBack_q8) fxBack_q9) fxBack_q10) fxBack_q11) fxBack_q12) fxBack_q13) fxBack_q14) fxBack_q15) fxBack_q16) fxBack_q17) fxBack_q18) fxBack_q19) fxBack_q20) fxBack_q21) fxBack_q22) fxBack_q23) fxBack_q24) fxBack_q25) fxBack_q26) fxBack_q27) fxBack_q28) fxBack_q29) fxBack_q30) fxBack_q31)

end Go.Proofs.YtbfhholefjngpaaDoor
