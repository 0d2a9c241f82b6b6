/-
  A closed fact of the row ScanTwo, part by part, in a text of its own (in one piece the kernel wants more than 10 GB for it).
-/
import Derived.Test.YtajphaljpkeecaaDoorRows
import Derived.Test.YtajphaljpkeecaaDoorFxRow
namespace Go.Proofs.YtajphaljpkeecaaDoor
open Go Go.Fx Go.ChangeShapes Go.WideShapes Go.ChangeAt Go.RowKit Go.Proofs
set_option maxRecDepth 100000

theorem and_i {a b : Bool} (h : a = true) (h' : b = true) : (a && b) = true := by rw [h, h']; rfl
theorem scanTwo_q0 : (Rows.scanTwoRow.wf (OpenSpec.ofChange Rows.scanTwoSpec)) = true := by kernel_rfl
theorem scanTwo_q1 : (laidOutB Tryd.pinned.checked.prog) = true := by kernel_rfl
theorem scanTwo_q2 : (mapsRowed Tryd.pinned.checked.prog) = true := by kernel_rfl
theorem scanTwo_q3 : (Tryd.f18.params.all (Tryd.pinned.checked.prog.readableRec ·)) = true := by kernel_rfl
theorem scanTwo_q4 : (namedTie Tryd.pinned.checked.prog Rows.scanTwoRow.named Rows.scanTwoSpec.vars) = true := by kernel_rfl
theorem scanTwo_q5 : ((Rows.scanTwoRow.stops == [])) = true := by kernel_rfl
theorem scanTwo_q6 : ((Tryd.pinned.checked.prog.stops == [])) = true := by kernel_rfl
theorem scanTwo_q7 : ((Rows.scanTwoRow.knobs == [])) = true := by kernel_rfl
theorem scanTwo_q8 : ((Tryd.pinned.checked.prog.stopKnobs == [])) = true := by kernel_rfl
theorem scanTwo_q9 : ((Rows.scanTwoRow.inPlace == Tryd.pinned.checked.prog.inPlace 18)) = true := by kernel_rfl
theorem scanTwo_q10 : ((Rows.scanTwoRow.unfollowed == Tryd.pinned.checked.prog.unfollowed 18)) = true := by kernel_rfl
theorem scanTwo_q11 : ((Rows.scanTwoRow.recurses == Tryd.pinned.checked.prog.recurses 18)) = true := by kernel_rfl
theorem scanTwo_q12 : ((Rows.scanTwoRow.named == Tryd.pinned.checked.prog.varsNamed 18)) = true := by kernel_rfl
theorem scanTwo_q13 : ((Rows.scanTwoRow.maps == (Tryd.f18.params.toList ++ Rows.scanTwoSpec.plain.varTypes Tryd.pinned.checked.prog).any (Tryd.pinned.checked.prog.mapsRec ·))) = true := by kernel_rfl
theorem scanTwo_q14 : ((Rows.scanTwoRow.ifaces == (Tryd.f18.params.toList ++ Rows.scanTwoSpec.plain.varTypes Tryd.pinned.checked.prog).any (Tryd.pinned.checked.prog.ifacesRec ·))) = true := by kernel_rfl
theorem scanTwo_q15 : ((Rows.scanTwoRow.mapsOut == Tryd.pinned.checked.prog.mapsAmong Tryd.f18.resultTypes.toList)) = true := by kernel_rfl
theorem scanTwo_q16 : ((Rows.scanTwoRow.loops == (Tryd.f18.params.toList ++ Rows.scanTwoSpec.plain.varTypes Tryd.pinned.checked.prog).any (Tryd.pinned.checked.prog.loopsFrom ·))) = true := by kernel_rfl
theorem scanTwo_q17 : ((Rows.scanTwoRow.wideKeys == (Tryd.f18.params.toList ++ Rows.scanTwoSpec.plain.varTypes Tryd.pinned.checked.prog ++ Tryd.f18.resultTypes.toList).any (Tryd.pinned.checked.prog.wideKeysFrom ·))) = true := by kernel_rfl
theorem scanTwo_q18 : (Rows.scanTwoSpec.vars.all (Tryd.pinned.checked.prog.varReadable ·)) = true := by kernel_rfl
theorem scanTwo_q19 : (Tryd.f18.resultTypes.all (fun t => Tryd.pinned.checked.prog.readableRec t && decide (t < Tryd.pinned.checked.prog.types.size))) = true := by kernel_rfl
theorem scanTwo_q20 : ((Rows.scanTwoRow.ifacesOut == Tryd.f18.resultTypes.toList.any (Tryd.pinned.checked.prog.ifacesRec ·))) = true := by kernel_rfl
theorem scanTwo_q21 : ((Rows.scanTwoRow.loopsOut == Tryd.f18.resultTypes.toList.any (Tryd.pinned.checked.prog.loopsFrom ·))) = true := by kernel_rfl
theorem scanTwo_q22 : ((Rows.scanTwoRow.plainKeys == Tryd.pinned.checked.prog.plainKeys)) = true := by kernel_rfl
theorem scanTwo_q23 : (Rows.scanTwoRow.shortTexts.isNone) = true := by kernel_rfl
theorem scanTwo_q24 : (Tryd.pinned.checked.prog.stopsHeard) = true := by kernel_rfl
theorem scanTwo_q25 : (Tryd.pinned.checked.prog.mayEnter) = true := by kernel_rfl
theorem scanTwo_q26 : ((Rows.scanTwoRow.lifted == Tryd.pinned.checked.prog.liftsFinal)) = true := by kernel_rfl
theorem scanTwo_q27 : ((Tryd.pinned.checked.prog.make == some Rows.scanTwoRow.make)) = true := by kernel_rfl
theorem scanTwo_q28 : ((Rows.scanTwoRow.kinds == (if Rows.scanTwoRow.domain.isEmpty then [] else Tryd.f18.params.toList.map fun t => match Tryd.pinned.checked.prog.underlying t with | some (.int k) => some k | _ => none))) = true := by kernel_rfl
theorem scanTwo_q29 : ((Rows.scanTwoRow.pinned == Rows.scanTwoRow.pinnedBy)) = true := by kernel_rfl
theorem scanTwo_q30 : ((Rows.scanTwoRow.veiled == (Tryd.f18.params.toList ++ Rows.scanTwoSpec.plain.varTypes Tryd.pinned.checked.prog ++ Tryd.f18.resultTypes.toList).any (Tryd.pinned.checked.prog.veiledRec ·))) = true := by kernel_rfl
theorem scanTwo_q31 : (Rows.scanTwoRow.veiledFits Tryd.pinned.checked.prog Tryd.f18.params.toList (Tryd.f18.params.toList ++ Rows.scanTwoSpec.plain.varTypes Tryd.pinned.checked.prog ++ Tryd.f18.resultTypes.toList)) = true := by kernel_rfl
theorem scanTwo_k2 : joinedFacts Tryd.pinned.checked.prog 18 Tryd.f18 Rows.scanTwoSpec Rows.scanTwoRow = true := (and_i (and_i (and_i (and_i (and_i (and_i (and_i (and_i (and_i (and_i (and_i (and_i (and_i (and_i (and_i (and_i (and_i (and_i (and_i (and_i (and_i (and_i (and_i (and_i (and_i (and_i (and_i (and_i (and_i (and_i (and_i scanTwo_q0 scanTwo_q1) scanTwo_q2) scanTwo_q3) scanTwo_q4) scanTwo_q5) scanTwo_q6) scanTwo_q7) scanTwo_q8) scanTwo_q9) scanTwo_q10) scanTwo_q11) scanTwo_q12) scanTwo_q13) scanTwo_q14) scanTwo_q15) scanTwo_q16) scanTwo_q17) scanTwo_q18) scanTwo_q19) scanTwo_q20) scanTwo_q21) scanTwo_q22) scanTwo_q23) scanTwo_q24) scanTwo_q25) scanTwo_q26) scanTwo_q27) scanTwo_q28) scanTwo_q29) scanTwo_q30) scanTwo_q31)

end Go.Proofs.YtajphaljpkeecaaDoor
