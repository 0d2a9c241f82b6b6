/-
  A closed fact of the row FlightBlank, part by part, in a text of its own (in one piece the kernel wants more than 10 GB for it).
-/
import Derived.Test.YtlfffpkfipdboaaDoorRows
import Derived.Test.YtlfffpkfipdboaaDoorFxRow
namespace Go.Proofs.YtlfffpkfipdboaaDoor
open Go Go.Fx Go.ChangeShapes Go.WideShapes Go.ChangeAt Go.RowKit Go.Proofs
set_option maxRecDepth 100000
theorem and_i {a b : Bool} (h : a = true) (h' : b = true) : (a && b) = true := by rw [h, h']; rfl
theorem flightBlank_q0 : (Rows.flightBlankRow.wf (OpenSpec.ofChange Rows.flightBlankSpec)) = true := by kernel_rfl
theorem flightBlank_q1 : (laidOutB Tryd.pinned.checked.prog) = true := by kernel_rfl
theorem flightBlank_q2 : (mapsRowed Tryd.pinned.checked.prog) = true := by kernel_rfl
theorem flightBlank_q3 : (Tryd.f6.params.all (Tryd.pinned.checked.prog.readableRec ·)) = true := by kernel_rfl
theorem flightBlank_q4 : (namedTie Tryd.pinned.checked.prog Rows.flightBlankRow.named Rows.flightBlankSpec.vars) = true := by kernel_rfl
theorem flightBlank_q5 : ((Rows.flightBlankRow.stops == [])) = true := by kernel_rfl
theorem flightBlank_q6 : ((Tryd.pinned.checked.prog.stops == [])) = true := by kernel_rfl
theorem flightBlank_q7 : ((Rows.flightBlankRow.knobs == [])) = true := by kernel_rfl
theorem flightBlank_q8 : ((Tryd.pinned.checked.prog.stopKnobs == [])) = true := by kernel_rfl
theorem flightBlank_q9 : ((Rows.flightBlankRow.inPlace == Tryd.pinned.checked.prog.inPlace 6)) = true := by kernel_rfl
theorem flightBlank_q10 : ((Rows.flightBlankRow.unfollowed == Tryd.pinned.checked.prog.unfollowed 6)) = true := by kernel_rfl
theorem flightBlank_q11 : ((Rows.flightBlankRow.recurses == Tryd.pinned.checked.prog.recurses 6)) = true := by kernel_rfl
theorem flightBlank_q12 : ((Rows.flightBlankRow.named == Tryd.pinned.checked.prog.varsNamed 6)) = true := by kernel_rfl
theorem flightBlank_q13 : ((Rows.flightBlankRow.maps == (Tryd.f6.params.toList ++ Rows.flightBlankSpec.plain.varTypes Tryd.pinned.checked.prog).any (Tryd.pinned.checked.prog.mapsRec ·))) = true := by kernel_rfl
theorem flightBlank_q14 : ((Rows.flightBlankRow.ifaces == (Tryd.f6.params.toList ++ Rows.flightBlankSpec.plain.varTypes Tryd.pinned.checked.prog).any (Tryd.pinned.checked.prog.ifacesRec ·))) = true := by kernel_rfl
theorem flightBlank_q15 : ((Rows.flightBlankRow.mapsOut == Tryd.pinned.checked.prog.mapsAmong Tryd.f6.resultTypes.toList)) = true := by kernel_rfl
theorem flightBlank_q16 : ((Rows.flightBlankRow.loops == (Tryd.f6.params.toList ++ Rows.flightBlankSpec.plain.varTypes Tryd.pinned.checked.prog).any (Tryd.pinned.checked.prog.loopsFrom ·))) = true := by kernel_rfl
theorem flightBlank_q17 : ((Rows.flightBlankRow.wideKeys == (Tryd.f6.params.toList ++ Rows.flightBlankSpec.plain.varTypes Tryd.pinned.checked.prog ++ Tryd.f6.resultTypes.toList).any (Tryd.pinned.checked.prog.wideKeysFrom ·))) = true := by kernel_rfl
theorem flightBlank_q18 : (Rows.flightBlankSpec.vars.all (Tryd.pinned.checked.prog.varReadable ·)) = true := by kernel_rfl
theorem flightBlank_q19 : (Tryd.f6.resultTypes.all (fun t => Tryd.pinned.checked.prog.readableRec t && decide (t < Tryd.pinned.checked.prog.types.size))) = true := by kernel_rfl
theorem flightBlank_q20 : ((Rows.flightBlankRow.ifacesOut == Tryd.f6.resultTypes.toList.any (Tryd.pinned.checked.prog.ifacesRec ·))) = true := by kernel_rfl
theorem flightBlank_q21 : ((Rows.flightBlankRow.loopsOut == Tryd.f6.resultTypes.toList.any (Tryd.pinned.checked.prog.loopsFrom ·))) = true := by kernel_rfl
theorem flightBlank_q22 : ((Rows.flightBlankRow.plainKeys == Tryd.pinned.checked.prog.plainKeys)) = true := by kernel_rfl
theorem flightBlank_q23 : (Rows.flightBlankRow.shortTexts.isNone) = true := by kernel_rfl
theorem flightBlank_q24 : (Tryd.pinned.checked.prog.stopsHeard) = true := by kernel_rfl
theorem flightBlank_q25 : (Tryd.pinned.checked.prog.mayEnter) = true := by kernel_rfl
theorem flightBlank_q26 : ((Rows.flightBlankRow.lifted == Tryd.pinned.checked.prog.liftsFinal)) = true := by kernel_rfl
theorem flightBlank_q27 : ((Tryd.pinned.checked.prog.make == some Rows.flightBlankRow.make)) = true := by kernel_rfl
theorem flightBlank_q28 : ((Rows.flightBlankRow.kinds == (if Rows.flightBlankRow.domain.isEmpty then [] else Tryd.f6.params.toList.map fun t => match Tryd.pinned.checked.prog.underlying t with | some (.int k) => some k | _ => none))) = true := by kernel_rfl
theorem flightBlank_q29 : ((Rows.flightBlankRow.pinned == Rows.flightBlankRow.pinnedBy)) = true := by kernel_rfl
theorem flightBlank_q30 : ((Rows.flightBlankRow.veiled == (Tryd.f6.params.toList ++ Rows.flightBlankSpec.plain.varTypes Tryd.pinned.checked.prog ++ Tryd.f6.resultTypes.toList).any (Tryd.pinned.checked.prog.veiledRec ·))) = true := by kernel_rfl
theorem flightBlank_q31 : (Rows.flightBlankRow.veiledFits Tryd.pinned.checked.prog Tryd.f6.params.toList (Tryd.f6.params.toList ++ Rows.flightBlankSpec.plain.varTypes Tryd.pinned.checked.prog ++ Tryd.f6.resultTypes.toList)) = true := by kernel_rfl
theorem flightBlank_k2 : joinedFacts Tryd.pinned.checked.prog 6 Tryd.f6 Rows.flightBlankSpec Rows.flightBlankRow = true := (and_i (and_i (and_i (and_i (and_i (and_i (and_i (and_i (and_i (and_i (and_i (and_i (and_i (and_i (and_i (and_i (and_i (and_i (and_i (and_i (and_i (and_i (and_i (and_i (and_i (and_i (and_i (and_i (and_i (and_i (and_i flightBlank_q0 flightBlank_q1) flightBlank_q2) flightBlank_q3) flightBlank_q4) flightBlank_q5) flightBlank_q6) flightBlank_q7) flightBlank_q8) flightBlank_q9) flightBlank_q10) flightBlank_q11) flightBlank_q12) flightBlank_q13) flightBlank_q14) flightBlank_q15) flightBlank_q16) flightBlank_q17) flightBlank_q18) flightBlank_q19) flightBlank_q20) flightBlank_q21) flightBlank_q22) flightBlank_q23) flightBlank_q24) flightBlank_q25) flightBlank_q26) flightBlank_q27) flightBlank_q28) flightBlank_q29) flightBlank_q30) flightBlank_q31)
end Go.Proofs.YtlfffpkfipdboaaDoor
