/-
  A closed fact of the row ScanFinds, part by part, in a text of its own (in one piece the kernel wants more than 10 GB for it).
-/
import Derived.Test.YtajphaljpkeecaaDoorRows
import Derived.Test.YtajphaljpkeecaaDoorFxRow
namespace Go.Proofs.YtajphaljpkeecaaDoor
open Go Go.Fx Go.ChangeShapes Go.WideShapes Go.ChangeAt Go.RowKit Go.Proofs
set_option maxRecDepth 100000
theorem and_i {a b : Bool} (h : a = true) (h' : b = true) : (a && b) = true := by rw [h, h']; rfl
theorem scanFinds_q0 : (Rows.scanFindsRow.wf (OpenSpec.ofChange Rows.scanFindsSpec)) = true := by kernel_rfl
theorem scanFinds_q1 : (laidOutB Tryd.pinned.checked.prog) = true := by kernel_rfl
theorem scanFinds_q2 : (mapsRowed Tryd.pinned.checked.prog) = true := by kernel_rfl
theorem scanFinds_q3 : (Tryd.f14.params.all (Tryd.pinned.checked.prog.readableRec ·)) = true := by kernel_rfl
theorem scanFinds_q4 : (namedTie Tryd.pinned.checked.prog Rows.scanFindsRow.named Rows.scanFindsSpec.vars) = true := by kernel_rfl
theorem scanFinds_q5 : ((Rows.scanFindsRow.stops == [])) = true := by kernel_rfl
theorem scanFinds_q6 : ((Tryd.pinned.checked.prog.stops == [])) = true := by kernel_rfl
theorem scanFinds_q7 : ((Rows.scanFindsRow.knobs == [])) = true := by kernel_rfl
theorem scanFinds_q8 : ((Tryd.pinned.checked.prog.stopKnobs == [])) = true := by kernel_rfl
theorem scanFinds_q9 : ((Rows.scanFindsRow.inPlace == Tryd.pinned.checked.prog.inPlace 14)) = true := by kernel_rfl
theorem scanFinds_q10 : ((Rows.scanFindsRow.unfollowed == Tryd.pinned.checked.prog.unfollowed 14)) = true := by kernel_rfl
theorem scanFinds_q11 : ((Rows.scanFindsRow.recurses == Tryd.pinned.checked.prog.recurses 14)) = true := by kernel_rfl
theorem scanFinds_q12 : ((Rows.scanFindsRow.named == Tryd.pinned.checked.prog.varsNamed 14)) = true := by kernel_rfl
theorem scanFinds_q13 : ((Rows.scanFindsRow.maps == (Tryd.f14.params.toList ++ Rows.scanFindsSpec.plain.varTypes Tryd.pinned.checked.prog).any (Tryd.pinned.checked.prog.mapsRec ·))) = true := by kernel_rfl
theorem scanFinds_q14 : ((Rows.scanFindsRow.ifaces == (Tryd.f14.params.toList ++ Rows.scanFindsSpec.plain.varTypes Tryd.pinned.checked.prog).any (Tryd.pinned.checked.prog.ifacesRec ·))) = true := by kernel_rfl
theorem scanFinds_q15 : ((Rows.scanFindsRow.mapsOut == Tryd.pinned.checked.prog.mapsAmong Tryd.f14.resultTypes.toList)) = true := by kernel_rfl
theorem scanFinds_q16 : ((Rows.scanFindsRow.loops == (Tryd.f14.params.toList ++ Rows.scanFindsSpec.plain.varTypes Tryd.pinned.checked.prog).any (Tryd.pinned.checked.prog.loopsFrom ·))) = true := by kernel_rfl
theorem scanFinds_q17 : ((Rows.scanFindsRow.wideKeys == (Tryd.f14.params.toList ++ Rows.scanFindsSpec.plain.varTypes Tryd.pinned.checked.prog ++ Tryd.f14.resultTypes.toList).any (Tryd.pinned.checked.prog.wideKeysFrom ·))) = true := by kernel_rfl
theorem scanFinds_q18 : (Rows.scanFindsSpec.vars.all (Tryd.pinned.checked.prog.varReadable ·)) = true := by kernel_rfl
theorem scanFinds_q19 : (Tryd.f14.resultTypes.all (fun t => Tryd.pinned.checked.prog.readableRec t && decide (t < Tryd.pinned.checked.prog.types.size))) = true := by kernel_rfl
theorem scanFinds_q20 : ((Rows.scanFindsRow.ifacesOut == Tryd.f14.resultTypes.toList.any (Tryd.pinned.checked.prog.ifacesRec ·))) = true := by kernel_rfl
theorem scanFinds_q21 : ((Rows.scanFindsRow.loopsOut == Tryd.f14.resultTypes.toList.any (Tryd.pinned.checked.prog.loopsFrom ·))) = true := by kernel_rfl
theorem scanFinds_q22 : ((Rows.scanFindsRow.plainKeys == Tryd.pinned.checked.prog.plainKeys)) = true := by kernel_rfl
theorem scanFinds_q23 : (Rows.scanFindsRow.shortTexts.isNone) = true := by kernel_rfl
theorem scanFinds_q24 : (Tryd.pinned.checked.prog.stopsHeard) = true := by kernel_rfl
theorem scanFinds_q25 : (Tryd.pinned.checked.prog.mayEnter) = true := by kernel_rfl
theorem scanFinds_q26 : ((Rows.scanFindsRow.lifted == Tryd.pinned.checked.prog.liftsFinal)) = true := by kernel_rfl
theorem scanFinds_q27 : ((Tryd.pinned.checked.prog.make == some Rows.scanFindsRow.make)) = true := by kernel_rfl
theorem scanFinds_q28 : ((Rows.scanFindsRow.kinds == (if Rows.scanFindsRow.domain.isEmpty then [] else Tryd.f14.params.toList.map fun t => match Tryd.pinned.checked.prog.underlying t with | some (.int k) => some k | _ => none))) = true := by kernel_rfl
theorem scanFinds_q29 : ((Rows.scanFindsRow.pinned == Rows.scanFindsRow.pinnedBy)) = true := by kernel_rfl
theorem scanFinds_q30 : ((Rows.scanFindsRow.veiled == (Tryd.f14.params.toList ++ Rows.scanFindsSpec.plain.varTypes Tryd.pinned.checked.prog ++ Tryd.f14.resultTypes.toList).any (Tryd.pinned.checked.prog.veiledRec ·))) = true := by kernel_rfl
theorem scanFinds_q31 : (Rows.scanFindsRow.veiledFits Tryd.pinned.checked.prog Tryd.f14.params.toList (Tryd.f14.params.toList ++ Rows.scanFindsSpec.plain.varTypes Tryd.pinned.checked.prog ++ Tryd.f14.resultTypes.toList)) = true := by kernel_rfl
theorem scanFinds_k2 : joinedFacts Tryd.pinned.checked.prog 14 Tryd.f14 Rows.scanFindsSpec Rows.scanFindsRow = true := (and_i (and_i (and_i (and_i (and_i (and_i (and_i (and_i (and_i (and_i (and_i (and_i (and_i (and_i (and_i (and_i (and_i (and_i (and_i (and_i (and_i (and_i (and_i (and_i (and_i (and_i (and_i (and_i (and_i (and_i (and_i scanFinds_q0 scanFinds_q1) scanFinds_q2) scanFinds_q3) scanFinds_q4) scanFinds_q5) scanFinds_q6) scanFinds_q7) scanFinds_q8) scanFinds_q9) scanFinds_q10) scanFinds_q11) scanFinds_q12) scanFinds_q13) scanFinds_q14) scanFinds_q15) scanFinds_q16) scanFinds_q17) scanFinds_q18) scanFinds_q19) scanFinds_q20) scanFinds_q21) scanFinds_q22) scanFinds_q23) scanFinds_q24) scanFinds_q25) scanFinds_q26) scanFinds_q27) scanFinds_q28) scanFinds_q29) scanFinds_q30) scanFinds_q31)
end Go.Proofs.YtajphaljpkeecaaDoor
