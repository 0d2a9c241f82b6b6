/-
  A closed fact of the row FlightLong, part by part, in a text of its own (in one piece the kernel wants more than 10 GB for it).
-/
import Derived.Test.YtlfffpkfipdboaaDoorRows
import Derived.Test.YtlfffpkfipdboaaDoorFxRow
namespace Go.Proofs.YtlfffpkfipdboaaDoor
open Go Go.Fx Go.ChangeShapes Go.WideShapes Go.ChangeAt Go.RowKit Go.Proofs
set_option maxRecDepth 100000
theorem and_i {a b : Bool} (h : a = true) (h' : b = true) : (a && b) = true := by rw [h, h']; rfl
theorem flightLong_q0 : (Rows.flightLongRow.wf (OpenSpec.ofChange Rows.flightLongSpec)) = true := by kernel_rfl
theorem flightLong_q1 : (laidOutB Tryd.pinned.checked.prog) = true := by kernel_rfl
theorem flightLong_q2 : (mapsRowed Tryd.pinned.checked.prog) = true := by kernel_rfl
theorem flightLong_q3 : (Tryd.f5.params.all (Tryd.pinned.checked.prog.readableRec ·)) = true := by kernel_rfl
theorem flightLong_q4 : (namedTie Tryd.pinned.checked.prog Rows.flightLongRow.named Rows.flightLongSpec.vars) = true := by kernel_rfl
theorem flightLong_q5 : ((Rows.flightLongRow.stops == [])) = true := by kernel_rfl
theorem flightLong_q6 : ((Tryd.pinned.checked.prog.stops == [])) = true := by kernel_rfl
theorem flightLong_q7 : ((Rows.flightLongRow.knobs == [])) = true := by kernel_rfl
theorem flightLong_q8 : ((Tryd.pinned.checked.prog.stopKnobs == [])) = true := by kernel_rfl
theorem flightLong_q9 : ((Rows.flightLongRow.inPlace == Tryd.pinned.checked.prog.inPlace 5)) = true := by kernel_rfl
theorem flightLong_q10 : ((Rows.flightLongRow.unfollowed == Tryd.pinned.checked.prog.unfollowed 5)) = true := by kernel_rfl
theorem flightLong_q11 : ((Rows.flightLongRow.recurses == Tryd.pinned.checked.prog.recurses 5)) = true := by kernel_rfl
theorem flightLong_q12 : ((Rows.flightLongRow.named == Tryd.pinned.checked.prog.varsNamed 5)) = true := by kernel_rfl
theorem flightLong_q13 : ((Rows.flightLongRow.maps == (Tryd.f5.params.toList ++ Rows.flightLongSpec.plain.varTypes Tryd.pinned.checked.prog).any (Tryd.pinned.checked.prog.mapsRec ·))) = true := by kernel_rfl
theorem flightLong_q14 : ((Rows.flightLongRow.ifaces == (Tryd.f5.params.toList ++ Rows.flightLongSpec.plain.varTypes Tryd.pinned.checked.prog).any (Tryd.pinned.checked.prog.ifacesRec ·))) = true := by kernel_rfl
theorem flightLong_q15 : ((Rows.flightLongRow.mapsOut == Tryd.pinned.checked.prog.mapsAmong Tryd.f5.resultTypes.toList)) = true := by kernel_rfl
theorem flightLong_q16 : ((Rows.flightLongRow.loops == (Tryd.f5.params.toList ++ Rows.flightLongSpec.plain.varTypes Tryd.pinned.checked.prog).any (Tryd.pinned.checked.prog.loopsFrom ·))) = true := by kernel_rfl
theorem flightLong_q17 : ((Rows.flightLongRow.wideKeys == (Tryd.f5.params.toList ++ Rows.flightLongSpec.plain.varTypes Tryd.pinned.checked.prog ++ Tryd.f5.resultTypes.toList).any (Tryd.pinned.checked.prog.wideKeysFrom ·))) = true := by kernel_rfl
theorem flightLong_q18 : (Rows.flightLongSpec.vars.all (Tryd.pinned.checked.prog.varReadable ·)) = true := by kernel_rfl
theorem flightLong_q19 : (Tryd.f5.resultTypes.all (fun t => Tryd.pinned.checked.prog.readableRec t && decide (t < Tryd.pinned.checked.prog.types.size))) = true := by kernel_rfl
theorem flightLong_q20 : ((Rows.flightLongRow.ifacesOut == Tryd.f5.resultTypes.toList.any (Tryd.pinned.checked.prog.ifacesRec ·))) = true := by kernel_rfl
theorem flightLong_q21 : ((Rows.flightLongRow.loopsOut == Tryd.f5.resultTypes.toList.any (Tryd.pinned.checked.prog.loopsFrom ·))) = true := by kernel_rfl
theorem flightLong_q22 : ((Rows.flightLongRow.plainKeys == Tryd.pinned.checked.prog.plainKeys)) = true := by kernel_rfl
theorem flightLong_q23 : (Rows.flightLongRow.shortTexts.isNone) = true := by kernel_rfl
theorem flightLong_q24 : (Tryd.pinned.checked.prog.stopsHeard) = true := by kernel_rfl
theorem flightLong_q25 : (Tryd.pinned.checked.prog.mayEnter) = true := by kernel_rfl
theorem flightLong_q26 : ((Rows.flightLongRow.lifted == Tryd.pinned.checked.prog.liftsFinal)) = true := by kernel_rfl
theorem flightLong_q27 : ((Tryd.pinned.checked.prog.make == some Rows.flightLongRow.make)) = true := by kernel_rfl
theorem flightLong_q28 : ((Rows.flightLongRow.kinds == (if Rows.flightLongRow.domain.isEmpty then [] else Tryd.f5.params.toList.map fun t => match Tryd.pinned.checked.prog.underlying t with | some (.int k) => some k | _ => none))) = true := by kernel_rfl
theorem flightLong_q29 : ((Rows.flightLongRow.pinned == Rows.flightLongRow.pinnedBy)) = true := by kernel_rfl
theorem flightLong_q30 : ((Rows.flightLongRow.veiled == (Tryd.f5.params.toList ++ Rows.flightLongSpec.plain.varTypes Tryd.pinned.checked.prog ++ Tryd.f5.resultTypes.toList).any (Tryd.pinned.checked.prog.veiledRec ·))) = true := by kernel_rfl
theorem flightLong_q31 : (Rows.flightLongRow.veiledFits Tryd.pinned.checked.prog Tryd.f5.params.toList (Tryd.f5.params.toList ++ Rows.flightLongSpec.plain.varTypes Tryd.pinned.checked.prog ++ Tryd.f5.resultTypes.toList)) = true := by kernel_rfl
theorem flightLong_k2 : joinedFacts Tryd.pinned.checked.prog 5 Tryd.f5 Rows.flightLongSpec Rows.flightLongRow = true := (and_i (and_i (and_i (and_i (and_i (and_i (and_i (and_i (and_i (and_i (and_i (and_i (and_i (and_i (and_i (and_i (and_i (and_i (and_i (and_i (and_i (and_i (and_i (and_i (and_i (and_i (and_i (and_i (and_i (and_i (and_i flightLong_q0 flightLong_q1) flightLong_q2) flightLong_q3) flightLong_q4) flightLong_q5) flightLong_q6) flightLong_q7) flightLong_q8) flightLong_q9) flightLong_q10) flightLong_q11) flightLong_q12) flightLong_q13) flightLong_q14) flightLong_q15) flightLong_q16) flightLong_q17) flightLong_q18) flightLong_q19) flightLong_q20) flightLong_q21) flightLong_q22) flightLong_q23) flightLong_q24) flightLong_q25) flightLong_q26) flightLong_q27) flightLong_q28) flightLong_q29) flightLong_q30) flightLong_q31)
end Go.Proofs.YtlfffpkfipdboaaDoor
