/-
  A closed fact of the row FlightParses, part by part, in a text of its own (in one piece the kernel wants more than 10 GB for it).
-/
import Derived.Test.YtlfffpkfipdboaaDoorRows
import Derived.Test.YtlfffpkfipdboaaDoorFxRow
namespace Go.Proofs.YtlfffpkfipdboaaDoor
open Go Go.Fx Go.ChangeShapes Go.WideShapes Go.ChangeAt Go.RowKit Go.Proofs
set_option maxRecDepth 100000
theorem and_i {a b : Bool} (h : a = true) (h' : b = true) : (a && b) = true := by rw [h, h']; rfl
theorem flightParses_q0 : (Rows.flightParsesRow.wf (OpenSpec.ofChange Rows.flightParsesSpec)) = true := by kernel_rfl
theorem flightParses_q1 : (laidOutB Tryd.pinned.checked.prog) = true := by kernel_rfl
theorem flightParses_q2 : (mapsRowed Tryd.pinned.checked.prog) = true := by kernel_rfl
theorem flightParses_q3 : (Tryd.f3.params.all (Tryd.pinned.checked.prog.readableRec ·)) = true := by kernel_rfl
theorem flightParses_q4 : (namedTie Tryd.pinned.checked.prog Rows.flightParsesRow.named Rows.flightParsesSpec.vars) = true := by kernel_rfl
theorem flightParses_q5 : ((Rows.flightParsesRow.stops == [])) = true := by kernel_rfl
theorem flightParses_q6 : ((Tryd.pinned.checked.prog.stops == [])) = true := by kernel_rfl
theorem flightParses_q7 : ((Rows.flightParsesRow.knobs == [])) = true := by kernel_rfl
theorem flightParses_q8 : ((Tryd.pinned.checked.prog.stopKnobs == [])) = true := by kernel_rfl
theorem flightParses_q9 : ((Rows.flightParsesRow.inPlace == Tryd.pinned.checked.prog.inPlace 3)) = true := by kernel_rfl
theorem flightParses_q10 : ((Rows.flightParsesRow.unfollowed == Tryd.pinned.checked.prog.unfollowed 3)) = true := by kernel_rfl
theorem flightParses_q11 : ((Rows.flightParsesRow.recurses == Tryd.pinned.checked.prog.recurses 3)) = true := by kernel_rfl
theorem flightParses_q12 : ((Rows.flightParsesRow.named == Tryd.pinned.checked.prog.varsNamed 3)) = true := by kernel_rfl
theorem flightParses_q13 : ((Rows.flightParsesRow.maps == (Tryd.f3.params.toList ++ Rows.flightParsesSpec.plain.varTypes Tryd.pinned.checked.prog).any (Tryd.pinned.checked.prog.mapsRec ·))) = true := by kernel_rfl
theorem flightParses_q14 : ((Rows.flightParsesRow.ifaces == (Tryd.f3.params.toList ++ Rows.flightParsesSpec.plain.varTypes Tryd.pinned.checked.prog).any (Tryd.pinned.checked.prog.ifacesRec ·))) = true := by kernel_rfl
theorem flightParses_q15 : ((Rows.flightParsesRow.mapsOut == Tryd.pinned.checked.prog.mapsAmong Tryd.f3.resultTypes.toList)) = true := by kernel_rfl
theorem flightParses_q16 : ((Rows.flightParsesRow.loops == (Tryd.f3.params.toList ++ Rows.flightParsesSpec.plain.varTypes Tryd.pinned.checked.prog).any (Tryd.pinned.checked.prog.loopsFrom ·))) = true := by kernel_rfl
theorem flightParses_q17 : ((Rows.flightParsesRow.wideKeys == (Tryd.f3.params.toList ++ Rows.flightParsesSpec.plain.varTypes Tryd.pinned.checked.prog ++ Tryd.f3.resultTypes.toList).any (Tryd.pinned.checked.prog.wideKeysFrom ·))) = true := by kernel_rfl
theorem flightParses_q18 : (Rows.flightParsesSpec.vars.all (Tryd.pinned.checked.prog.varReadable ·)) = true := by kernel_rfl
theorem flightParses_q19 : (Tryd.f3.resultTypes.all (fun t => Tryd.pinned.checked.prog.readableRec t && decide (t < Tryd.pinned.checked.prog.types.size))) = true := by kernel_rfl
theorem flightParses_q20 : ((Rows.flightParsesRow.ifacesOut == Tryd.f3.resultTypes.toList.any (Tryd.pinned.checked.prog.ifacesRec ·))) = true := by kernel_rfl
theorem flightParses_q21 : ((Rows.flightParsesRow.loopsOut == Tryd.f3.resultTypes.toList.any (Tryd.pinned.checked.prog.loopsFrom ·))) = true := by kernel_rfl
theorem flightParses_q22 : ((Rows.flightParsesRow.plainKeys == Tryd.pinned.checked.prog.plainKeys)) = true := by kernel_rfl
theorem flightParses_q23 : (Rows.flightParsesRow.shortTexts.isNone) = true := by kernel_rfl
theorem flightParses_q24 : (Tryd.pinned.checked.prog.stopsHeard) = true := by kernel_rfl
theorem flightParses_q25 : (Tryd.pinned.checked.prog.mayEnter) = true := by kernel_rfl
theorem flightParses_q26 : ((Rows.flightParsesRow.lifted == Tryd.pinned.checked.prog.liftsFinal)) = true := by kernel_rfl
theorem flightParses_q27 : ((Tryd.pinned.checked.prog.make == some Rows.flightParsesRow.make)) = true := by kernel_rfl
theorem flightParses_q28 : ((Rows.flightParsesRow.kinds == (if Rows.flightParsesRow.domain.isEmpty then [] else Tryd.f3.params.toList.map fun t => match Tryd.pinned.checked.prog.underlying t with | some (.int k) => some k | _ => none))) = true := by kernel_rfl
theorem flightParses_q29 : ((Rows.flightParsesRow.pinned == Rows.flightParsesRow.pinnedBy)) = true := by kernel_rfl
theorem flightParses_q30 : ((Rows.flightParsesRow.veiled == (Tryd.f3.params.toList ++ Rows.flightParsesSpec.plain.varTypes Tryd.pinned.checked.prog ++ Tryd.f3.resultTypes.toList).any (Tryd.pinned.checked.prog.veiledRec ·))) = true := by kernel_rfl
theorem flightParses_q31 : (Rows.flightParsesRow.veiledFits Tryd.pinned.checked.prog Tryd.f3.params.toList (Tryd.f3.params.toList ++ Rows.flightParsesSpec.plain.varTypes Tryd.pinned.checked.prog ++ Tryd.f3.resultTypes.toList)) = true := by kernel_rfl
theorem flightParses_k2 : joinedFacts Tryd.pinned.checked.prog 3 Tryd.f3 Rows.flightParsesSpec Rows.flightParsesRow = true := (and_i (and_i (and_i (and_i (and_i (and_i (and_i (and_i (and_i (and_i (and_i (and_i (and_i (and_i (and_i (and_i (and_i (and_i (and_i (and_i (and_i (and_i (and_i (and_i (and_i (and_i (and_i (and_i (and_i (and_i (and_i flightParses_q0 flightParses_q1) flightParses_q2) flightParses_q3) flightParses_q4) flightParses_q5) flightParses_q6) flightParses_q7) flightParses_q8) flightParses_q9) flightParses_q10) flightParses_q11) flightParses_q12) flightParses_q13) flightParses_q14) flightParses_q15) flightParses_q16) flightParses_q17) flightParses_q18) flightParses_q19) flightParses_q20) flightParses_q21) flightParses_q22) flightParses_q23) flightParses_q24) flightParses_q25) flightParses_q26) flightParses_q27) flightParses_q28) flightParses_q29) flightParses_q30) flightParses_q31)
end Go.Proofs.YtlfffpkfipdboaaDoor
