/-
  A closed fact of the row ScanNoise, part by part, in a text of its own (in one piece the kernel wants more than 10 GB for it).
-/
import Derived.Test.YtajphaljpkeecaaDoorRows
import Derived.Test.YtajphaljpkeecaaDoorFxRow
namespace Go.Proofs.YtajphaljpkeecaaDoor
open Go Go.Fx Go.ChangeShapes Go.WideShapes Go.ChangeAt Go.RowKit Go.Proofs
set_option maxRecDepth 100000

theorem and_i {a b : Bool} (h : a = true) (h' : b = true) : (a && b) = true := by rw [h, h']; rfl
theorem scanNoise_q0 : (Rows.scanNoiseRow.wf (OpenSpec.ofChange Rows.scanNoiseSpec)) = true := by kernel_rfl
theorem scanNoise_q1 : (laidOutB Tryd.pinned.checked.prog) = true := by kernel_rfl
theorem scanNoise_q2 : (mapsRowed Tryd.pinned.checked.prog) = true := by kernel_rfl
theorem scanNoise_q3 : (Tryd.f17.params.all (Tryd.pinned.checked.prog.readableRec ·)) = true := by kernel_rfl
theorem scanNoise_q4 : (namedTie Tryd.pinned.checked.prog Rows.scanNoiseRow.named Rows.scanNoiseSpec.vars) = true := by kernel_rfl
theorem scanNoise_q5 : ((Rows.scanNoiseRow.stops == [])) = true := by kernel_rfl
theorem scanNoise_q6 : ((Tryd.pinned.checked.prog.stops == [])) = true := by kernel_rfl
theorem scanNoise_q7 : ((Rows.scanNoiseRow.knobs == [])) = true := by kernel_rfl
theorem scanNoise_q8 : ((Tryd.pinned.checked.prog.stopKnobs == [])) = true := by kernel_rfl
theorem scanNoise_q9 : ((Rows.scanNoiseRow.inPlace == Tryd.pinned.checked.prog.inPlace 17)) = true := by kernel_rfl
theorem scanNoise_q10 : ((Rows.scanNoiseRow.unfollowed == Tryd.pinned.checked.prog.unfollowed 17)) = true := by kernel_rfl
theorem scanNoise_q11 : ((Rows.scanNoiseRow.recurses == Tryd.pinned.checked.prog.recurses 17)) = true := by kernel_rfl
theorem scanNoise_q12 : ((Rows.scanNoiseRow.named == Tryd.pinned.checked.prog.varsNamed 17)) = true := by kernel_rfl
theorem scanNoise_q13 : ((Rows.scanNoiseRow.maps == (Tryd.f17.params.toList ++ Rows.scanNoiseSpec.plain.varTypes Tryd.pinned.checked.prog).any (Tryd.pinned.checked.prog.mapsRec ·))) = true := by kernel_rfl
theorem scanNoise_q14 : ((Rows.scanNoiseRow.ifaces == (Tryd.f17.params.toList ++ Rows.scanNoiseSpec.plain.varTypes Tryd.pinned.checked.prog).any (Tryd.pinned.checked.prog.ifacesRec ·))) = true := by kernel_rfl
theorem scanNoise_q15 : ((Rows.scanNoiseRow.mapsOut == Tryd.pinned.checked.prog.mapsAmong Tryd.f17.resultTypes.toList)) = true := by kernel_rfl
theorem scanNoise_q16 : ((Rows.scanNoiseRow.loops == (Tryd.f17.params.toList ++ Rows.scanNoiseSpec.plain.varTypes Tryd.pinned.checked.prog).any (Tryd.pinned.checked.prog.loopsFrom ·))) = true := by kernel_rfl
theorem scanNoise_q17 : ((Rows.scanNoiseRow.wideKeys == (Tryd.f17.params.toList ++ Rows.scanNoiseSpec.plain.varTypes Tryd.pinned.checked.prog ++ Tryd.f17.resultTypes.toList).any (Tryd.pinned.checked.prog.wideKeysFrom ·))) = true := by kernel_rfl
theorem scanNoise_q18 : (Rows.scanNoiseSpec.vars.all (Tryd.pinned.checked.prog.varReadable ·)) = true := by kernel_rfl
theorem scanNoise_q19 : (Tryd.f17.resultTypes.all (fun t => Tryd.pinned.checked.prog.readableRec t && decide (t < Tryd.pinned.checked.prog.types.size))) = true := by kernel_rfl
theorem scanNoise_q20 : ((Rows.scanNoiseRow.ifacesOut == Tryd.f17.resultTypes.toList.any (Tryd.pinned.checked.prog.ifacesRec ·))) = true := by kernel_rfl
theorem scanNoise_q21 : ((Rows.scanNoiseRow.loopsOut == Tryd.f17.resultTypes.toList.any (Tryd.pinned.checked.prog.loopsFrom ·))) = true := by kernel_rfl
theorem scanNoise_q22 : ((Rows.scanNoiseRow.plainKeys == Tryd.pinned.checked.prog.plainKeys)) = true := by kernel_rfl
theorem scanNoise_q23 : (Rows.scanNoiseRow.shortTexts.isNone) = true := by kernel_rfl
theorem scanNoise_q24 : (Tryd.pinned.checked.prog.stopsHeard) = true := by kernel_rfl
theorem scanNoise_q25 : (Tryd.pinned.checked.prog.mayEnter) = true := by kernel_rfl
theorem scanNoise_q26 : ((Rows.scanNoiseRow.lifted == Tryd.pinned.checked.prog.liftsFinal)) = true := by kernel_rfl
theorem scanNoise_q27 : ((Tryd.pinned.checked.prog.make == some Rows.scanNoiseRow.make)) = true := by kernel_rfl
theorem scanNoise_q28 : ((Rows.scanNoiseRow.kinds == (if Rows.scanNoiseRow.domain.isEmpty then [] else Tryd.f17.params.toList.map fun t => match Tryd.pinned.checked.prog.underlying t with | some (.int k) => some k | _ => none))) = true := by kernel_rfl
theorem scanNoise_q29 : ((Rows.scanNoiseRow.pinned == Rows.scanNoiseRow.pinnedBy)) = true := by kernel_rfl
theorem scanNoise_q30 : ((Rows.scanNoiseRow.veiled == (Tryd.f17.params.toList ++ Rows.scanNoiseSpec.plain.varTypes Tryd.pinned.checked.prog ++ Tryd.f17.resultTypes.toList).any (Tryd.pinned.checked.prog.veiledRec ·))) = true := by kernel_rfl
theorem scanNoise_q31 : (Rows.scanNoiseRow.veiledFits Tryd.pinned.checked.prog Tryd.f17.params.toList (Tryd.f17.params.toList ++ Rows.scanNoiseSpec.plain.varTypes Tryd.pinned.checked.prog ++ Tryd.f17.resultTypes.toList)) = true := by kernel_rfl
theorem scanNoise_k2 : joinedFacts Tryd.pinned.checked.prog 17 Tryd.f17 Rows.scanNoiseSpec Rows.scanNoiseRow = true := (and_i (and_i (and_i (and_i (and_i (and_i (and_i (and_i (and_i (and_i (and_i (and_i (and_i (and_i (and_i (and_i (and_i (and_i (and_i (and_i (and_i (and_i (and_i (and_i (and_i (and_i (and_i (and_i (and_i (and_i (and_i scanNoise_q0 scanNoise_q1) scanNoise_q2) scanNoise_q3) scanNoise_q4) scanNoise_q5) scanNoise_q6) scanNoise_q7) scanNoise_q8) scanNoise_q9) scanNoise_q10) scanNoise_q11) scanNoise_q12) scanNoise_q13) scanNoise_q14) scanNoise_q15) scanNoise_q16) scanNoise_q17) scanNoise_q18) scanNoise_q19) scanNoise_q20) scanNoise_q21) scanNoise_q22) scanNoise_q23) scanNoise_q24) scanNoise_q25) scanNoise_q26) scanNoise_q27) scanNoise_q28) scanNoise_q29) scanNoise_q30) scanNoise_q31)

end Go.Proofs.YtajphaljpkeecaaDoor
