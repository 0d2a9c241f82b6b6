/-
  A closed fact of the row ScanStops, part by part, in a text of its own (in one piece the kernel wants more than 10 GB for it).
-/
import Derived.Test.YtajphaljpkeecaaDoorRows
import Derived.Test.YtajphaljpkeecaaDoorFxRow
namespace Go.Proofs.YtajphaljpkeecaaDoor
open Go Go.Fx Go.ChangeShapes Go.WideShapes Go.ChangeAt Go.RowKit Go.Proofs
set_option maxRecDepth 100000

theorem and_i {a b : Bool} (h : a = true) (h' : b = true) : (a && b) = true := by rw [h, h']; rfl
theorem scanStops_q0 : (Rows.scanStopsRow.wf (OpenSpec.ofChange Rows.scanStopsSpec)) = true := by kernel_rfl
theorem scanStops_q1 : (laidOutB Tryd.pinned.checked.prog) = true := by kernel_rfl
theorem scanStops_q2 : (mapsRowed Tryd.pinned.checked.prog) = true := by kernel_rfl
theorem scanStops_q3 : (Tryd.f16.params.all (Tryd.pinned.checked.prog.readableRec ·)) = true := by kernel_rfl
theorem scanStops_q4 : (namedTie Tryd.pinned.checked.prog Rows.scanStopsRow.named Rows.scanStopsSpec.vars) = true := by kernel_rfl
theorem scanStops_q5 : ((Rows.scanStopsRow.stops == [])) = true := by kernel_rfl
theorem scanStops_q6 : ((Tryd.pinned.checked.prog.stops == [])) = true := by kernel_rfl
theorem scanStops_q7 : ((Rows.scanStopsRow.knobs == [])) = true := by kernel_rfl
theorem scanStops_q8 : ((Tryd.pinned.checked.prog.stopKnobs == [])) = true := by kernel_rfl
theorem scanStops_q9 : ((Rows.scanStopsRow.inPlace == Tryd.pinned.checked.prog.inPlace 16)) = true := by kernel_rfl
theorem scanStops_q10 : ((Rows.scanStopsRow.unfollowed == Tryd.pinned.checked.prog.unfollowed 16)) = true := by kernel_rfl
theorem scanStops_q11 : ((Rows.scanStopsRow.recurses == Tryd.pinned.checked.prog.recurses 16)) = true := by kernel_rfl
theorem scanStops_q12 : ((Rows.scanStopsRow.named == Tryd.pinned.checked.prog.varsNamed 16)) = true := by kernel_rfl
theorem scanStops_q13 : ((Rows.scanStopsRow.maps == (Tryd.f16.params.toList ++ Rows.scanStopsSpec.plain.varTypes Tryd.pinned.checked.prog).any (Tryd.pinned.checked.prog.mapsRec ·))) = true := by kernel_rfl
theorem scanStops_q14 : ((Rows.scanStopsRow.ifaces == (Tryd.f16.params.toList ++ Rows.scanStopsSpec.plain.varTypes Tryd.pinned.checked.prog).any (Tryd.pinned.checked.prog.ifacesRec ·))) = true := by kernel_rfl
theorem scanStops_q15 : ((Rows.scanStopsRow.mapsOut == Tryd.pinned.checked.prog.mapsAmong Tryd.f16.resultTypes.toList)) = true := by kernel_rfl
theorem scanStops_q16 : ((Rows.scanStopsRow.loops == (Tryd.f16.params.toList ++ Rows.scanStopsSpec.plain.varTypes Tryd.pinned.checked.prog).any (Tryd.pinned.checked.prog.loopsFrom ·))) = true := by kernel_rfl
theorem scanStops_q17 : ((Rows.scanStopsRow.wideKeys == (Tryd.f16.params.toList ++ Rows.scanStopsSpec.plain.varTypes Tryd.pinned.checked.prog ++ Tryd.f16.resultTypes.toList).any (Tryd.pinned.checked.prog.wideKeysFrom ·))) = true := by kernel_rfl
theorem scanStops_q18 : (Rows.scanStopsSpec.vars.all (Tryd.pinned.checked.prog.varReadable ·)) = true := by kernel_rfl
theorem scanStops_q19 : (Tryd.f16.resultTypes.all (fun t => Tryd.pinned.checked.prog.readableRec t && decide (t < Tryd.pinned.checked.prog.types.size))) = true := by kernel_rfl
theorem scanStops_q20 : ((Rows.scanStopsRow.ifacesOut == Tryd.f16.resultTypes.toList.any (Tryd.pinned.checked.prog.ifacesRec ·))) = true := by kernel_rfl
theorem scanStops_q21 : ((Rows.scanStopsRow.loopsOut == Tryd.f16.resultTypes.toList.any (Tryd.pinned.checked.prog.loopsFrom ·))) = true := by kernel_rfl
theorem scanStops_q22 : ((Rows.scanStopsRow.plainKeys == Tryd.pinned.checked.prog.plainKeys)) = true := by kernel_rfl
theorem scanStops_q23 : (Rows.scanStopsRow.shortTexts.isNone) = true := by kernel_rfl
theorem scanStops_q24 : (Tryd.pinned.checked.prog.stopsHeard) = true := by kernel_rfl
theorem scanStops_q25 : (Tryd.pinned.checked.prog.mayEnter) = true := by kernel_rfl
theorem scanStops_q26 : ((Rows.scanStopsRow.lifted == Tryd.pinned.checked.prog.liftsFinal)) = true := by kernel_rfl
theorem scanStops_q27 : ((Tryd.pinned.checked.prog.make == some Rows.scanStopsRow.make)) = true := by kernel_rfl
theorem scanStops_q28 : ((Rows.scanStopsRow.kinds == (if Rows.scanStopsRow.domain.isEmpty then [] else Tryd.f16.params.toList.map fun t => match Tryd.pinned.checked.prog.underlying t with | some (.int k) => some k | _ => none))) = true := by kernel_rfl
theorem scanStops_q29 : ((Rows.scanStopsRow.pinned == Rows.scanStopsRow.pinnedBy)) = true := by kernel_rfl
theorem scanStops_q30 : ((Rows.scanStopsRow.veiled == (Tryd.f16.params.toList ++ Rows.scanStopsSpec.plain.varTypes Tryd.pinned.checked.prog ++ Tryd.f16.resultTypes.toList).any (Tryd.pinned.checked.prog.veiledRec ·))) = true := by kernel_rfl
theorem scanStops_q31 : (Rows.scanStopsRow.veiledFits Tryd.pinned.checked.prog Tryd.f16.params.toList (Tryd.f16.params.toList ++ Rows.scanStopsSpec.plain.varTypes Tryd.pinned.checked.prog ++ Tryd.f16.resultTypes.toList)) = true := by kernel_rfl
theorem scanStops_k2 : joinedFacts Tryd.pinned.checked.prog 16 Tryd.f16 Rows.scanStopsSpec Rows.scanStopsRow = true := (and_i (and_i (and_i (and_i (and_i (and_i (and_i (and_i (and_i (and_i (and_i (and_i (and_i (and_i (and_i (and_i (and_i (and_i (and_i (and_i (and_i (and_i (and_i (and_i (and_i (and_i (and_i (and_i (and_i (and_i (and_i scanStops_q0 scanStops_q1) scanStops_q2) scanStops_q3) scanStops_q4) scanStops_q5) scanStops_q6) scanStops_q7) scanStops_q8) scanStops_q9) scanStops_q10) scanStops_q11) scanStops_q12) scanStops_q13) scanStops_q14) scanStops_q15) scanStops_q16) scanStops_q17) scanStops_q18) scanStops_q19) scanStops_q20) scanStops_q21) scanStops_q22) scanStops_q23) scanStops_q24) scanStops_q25) scanStops_q26) scanStops_q27) scanStops_q28) scanStops_q29) scanStops_q30) scanStops_q31)

end Go.Proofs.YtajphaljpkeecaaDoor
