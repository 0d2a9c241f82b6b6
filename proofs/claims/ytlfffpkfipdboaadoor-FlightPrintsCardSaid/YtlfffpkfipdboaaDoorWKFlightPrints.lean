/-
  A closed fact of the row FlightPrints, part by part, in a text of its own (in one piece the kernel wants more than 10 GB for it).
-/
import Derived.Test.YtlfffpkfipdboaaDoorRows
import Derived.Test.YtlfffpkfipdboaaDoorFxRow
namespace Go.Proofs.YtlfffpkfipdboaaDoor
open Go Go.Fx Go.ChangeShapes Go.WideShapes Go.ChangeAt Go.RowKit Go.Proofs
set_option maxRecDepth 100000
theorem and_i {a b : Bool} (h : a = true) (h' : b = true) : (a && b) = true := by rw [h, h']; rfl
theorem flightPrints_q0 : (Rows.flightPrintsRow.wf (OpenSpec.ofChange Rows.flightPrintsSpec)) = true := by kernel_rfl
theorem flightPrints_q1 : (laidOutB Tryd.pinned.checked.prog) = true := by kernel_rfl
theorem flightPrints_q2 : (mapsRowed Tryd.pinned.checked.prog) = true := by kernel_rfl
theorem flightPrints_q3 : (Tryd.f4.params.all (Tryd.pinned.checked.prog.readableRec ·)) = true := by kernel_rfl
theorem flightPrints_q4 : (namedTie Tryd.pinned.checked.prog Rows.flightPrintsRow.named Rows.flightPrintsSpec.vars) = true := by kernel_rfl
theorem flightPrints_q5 : ((Rows.flightPrintsRow.stops == [])) = true := by kernel_rfl
theorem flightPrints_q6 : ((Tryd.pinned.checked.prog.stops == [])) = true := by kernel_rfl
theorem flightPrints_q7 : ((Rows.flightPrintsRow.knobs == [])) = true := by kernel_rfl
theorem flightPrints_q8 : ((Tryd.pinned.checked.prog.stopKnobs == [])) = true := by kernel_rfl
theorem flightPrints_q9 : ((Rows.flightPrintsRow.inPlace == Tryd.pinned.checked.prog.inPlace 4)) = true := by kernel_rfl
theorem flightPrints_q10 : ((Rows.flightPrintsRow.unfollowed == Tryd.pinned.checked.prog.unfollowed 4)) = true := by kernel_rfl
theorem flightPrints_q11 : ((Rows.flightPrintsRow.recurses == Tryd.pinned.checked.prog.recurses 4)) = true := by kernel_rfl
theorem flightPrints_q12 : ((Rows.flightPrintsRow.named == Tryd.pinned.checked.prog.varsNamed 4)) = true := by kernel_rfl
theorem flightPrints_q13 : ((Rows.flightPrintsRow.maps == (Tryd.f4.params.toList ++ Rows.flightPrintsSpec.plain.varTypes Tryd.pinned.checked.prog).any (Tryd.pinned.checked.prog.mapsRec ·))) = true := by kernel_rfl
theorem flightPrints_q14 : ((Rows.flightPrintsRow.ifaces == (Tryd.f4.params.toList ++ Rows.flightPrintsSpec.plain.varTypes Tryd.pinned.checked.prog).any (Tryd.pinned.checked.prog.ifacesRec ·))) = true := by kernel_rfl
theorem flightPrints_q15 : ((Rows.flightPrintsRow.mapsOut == Tryd.pinned.checked.prog.mapsAmong Tryd.f4.resultTypes.toList)) = true := by kernel_rfl
theorem flightPrints_q16 : ((Rows.flightPrintsRow.loops == (Tryd.f4.params.toList ++ Rows.flightPrintsSpec.plain.varTypes Tryd.pinned.checked.prog).any (Tryd.pinned.checked.prog.loopsFrom ·))) = true := by kernel_rfl
theorem flightPrints_q17 : ((Rows.flightPrintsRow.wideKeys == (Tryd.f4.params.toList ++ Rows.flightPrintsSpec.plain.varTypes Tryd.pinned.checked.prog ++ Tryd.f4.resultTypes.toList).any (Tryd.pinned.checked.prog.wideKeysFrom ·))) = true := by kernel_rfl
theorem flightPrints_q18 : (Rows.flightPrintsSpec.vars.all (Tryd.pinned.checked.prog.varReadable ·)) = true := by kernel_rfl
theorem flightPrints_q19 : (Tryd.f4.resultTypes.all (fun t => Tryd.pinned.checked.prog.readableRec t && decide (t < Tryd.pinned.checked.prog.types.size))) = true := by kernel_rfl
theorem flightPrints_q20 : ((Rows.flightPrintsRow.ifacesOut == Tryd.f4.resultTypes.toList.any (Tryd.pinned.checked.prog.ifacesRec ·))) = true := by kernel_rfl
theorem flightPrints_q21 : ((Rows.flightPrintsRow.loopsOut == Tryd.f4.resultTypes.toList.any (Tryd.pinned.checked.prog.loopsFrom ·))) = true := by kernel_rfl
theorem flightPrints_q22 : ((Rows.flightPrintsRow.plainKeys == Tryd.pinned.checked.prog.plainKeys)) = true := by kernel_rfl
theorem flightPrints_q23 : (Rows.flightPrintsRow.shortTexts.isNone) = true := by kernel_rfl
theorem flightPrints_q24 : (Tryd.pinned.checked.prog.stopsHeard) = true := by kernel_rfl
theorem flightPrints_q25 : (Tryd.pinned.checked.prog.mayEnter) = true := by kernel_rfl
theorem flightPrints_q26 : ((Rows.flightPrintsRow.lifted == Tryd.pinned.checked.prog.liftsFinal)) = true := by kernel_rfl
theorem flightPrints_q27 : ((Tryd.pinned.checked.prog.make == some Rows.flightPrintsRow.make)) = true := by kernel_rfl
theorem flightPrints_q28 : ((Rows.flightPrintsRow.kinds == (if Rows.flightPrintsRow.domain.isEmpty then [] else Tryd.f4.params.toList.map fun t => match Tryd.pinned.checked.prog.underlying t with | some (.int k) => some k | _ => none))) = true := by kernel_rfl
theorem flightPrints_q29 : ((Rows.flightPrintsRow.pinned == Rows.flightPrintsRow.pinnedBy)) = true := by kernel_rfl
theorem flightPrints_q30 : ((Rows.flightPrintsRow.veiled == (Tryd.f4.params.toList ++ Rows.flightPrintsSpec.plain.varTypes Tryd.pinned.checked.prog ++ Tryd.f4.resultTypes.toList).any (Tryd.pinned.checked.prog.veiledRec ·))) = true := by kernel_rfl
theorem flightPrints_q31 : (Rows.flightPrintsRow.veiledFits Tryd.pinned.checked.prog Tryd.f4.params.toList (Tryd.f4.params.toList ++ Rows.flightPrintsSpec.plain.varTypes Tryd.pinned.checked.prog ++ Tryd.f4.resultTypes.toList)) = true := by kernel_rfl
theorem flightPrints_k2 : joinedFacts Tryd.pinned.checked.prog 4 Tryd.f4 Rows.flightPrintsSpec Rows.flightPrintsRow = true := (and_i (and_i (and_i (and_i (and_i (and_i (and_i (and_i (and_i (and_i (and_i (and_i (and_i (and_i (and_i (and_i (and_i (and_i (and_i (and_i (and_i (and_i (and_i (and_i (and_i (and_i (and_i (and_i (and_i (and_i (and_i flightPrints_q0 flightPrints_q1) flightPrints_q2) flightPrints_q3) flightPrints_q4) flightPrints_q5) flightPrints_q6) flightPrints_q7) flightPrints_q8) flightPrints_q9) flightPrints_q10) flightPrints_q11) flightPrints_q12) flightPrints_q13) flightPrints_q14) flightPrints_q15) flightPrints_q16) flightPrints_q17) flightPrints_q18) flightPrints_q19) flightPrints_q20) flightPrints_q21) flightPrints_q22) flightPrints_q23) flightPrints_q24) flightPrints_q25) flightPrints_q26) flightPrints_q27) flightPrints_q28) flightPrints_q29) flightPrints_q30) flightPrints_q31)
end Go.Proofs.YtlfffpkfipdboaaDoor
