/-
  A closed fact of the row ScanJoins, part by part, in a text of its own (in one piece the kernel wants more than 10 GB for it).
-/
import Derived.Test.YtajphaljpkeecaaDoorRows
import Derived.Test.YtajphaljpkeecaaDoorFxRow
namespace Go.Proofs.YtajphaljpkeecaaDoor
open Go Go.Fx Go.ChangeShapes Go.WideShapes Go.ChangeAt Go.RowKit Go.Proofs
set_option maxRecDepth 100000

theorem and_i {a b : Bool} (h : a = true) (h' : b = true) : (a && b) = true := by rw [h, h']; rfl
theorem scanJoins_q0 : (Rows.scanJoinsRow.wf (OpenSpec.ofChange Rows.scanJoinsSpec)) = true := by kernel_rfl
theorem scanJoins_q1 : (laidOutB Tryd.pinned.checked.prog) = true := by kernel_rfl
theorem scanJoins_q2 : (mapsRowed Tryd.pinned.checked.prog) = true := by kernel_rfl
theorem scanJoins_q3 : (Tryd.f15.params.all (Tryd.pinned.checked.prog.readableRec ·)) = true := by kernel_rfl
theorem scanJoins_q4 : (namedTie Tryd.pinned.checked.prog Rows.scanJoinsRow.named Rows.scanJoinsSpec.vars) = true := by kernel_rfl
theorem scanJoins_q5 : ((Rows.scanJoinsRow.stops == [])) = true := by kernel_rfl
theorem scanJoins_q6 : ((Tryd.pinned.checked.prog.stops == [])) = true := by kernel_rfl
theorem scanJoins_q7 : ((Rows.scanJoinsRow.knobs == [])) = true := by kernel_rfl
theorem scanJoins_q8 : ((Tryd.pinned.checked.prog.stopKnobs == [])) = true := by kernel_rfl
theorem scanJoins_q9 : ((Rows.scanJoinsRow.inPlace == Tryd.pinned.checked.prog.inPlace 15)) = true := by kernel_rfl
theorem scanJoins_q10 : ((Rows.scanJoinsRow.unfollowed == Tryd.pinned.checked.prog.unfollowed 15)) = true := by kernel_rfl
theorem scanJoins_q11 : ((Rows.scanJoinsRow.recurses == Tryd.pinned.checked.prog.recurses 15)) = true := by kernel_rfl
theorem scanJoins_q12 : ((Rows.scanJoinsRow.named == Tryd.pinned.checked.prog.varsNamed 15)) = true := by kernel_rfl
theorem scanJoins_q13 : ((Rows.scanJoinsRow.maps == (Tryd.f15.params.toList ++ Rows.scanJoinsSpec.plain.varTypes Tryd.pinned.checked.prog).any (Tryd.pinned.checked.prog.mapsRec ·))) = true := by kernel_rfl
theorem scanJoins_q14 : ((Rows.scanJoinsRow.ifaces == (Tryd.f15.params.toList ++ Rows.scanJoinsSpec.plain.varTypes Tryd.pinned.checked.prog).any (Tryd.pinned.checked.prog.ifacesRec ·))) = true := by kernel_rfl
theorem scanJoins_q15 : ((Rows.scanJoinsRow.mapsOut == Tryd.pinned.checked.prog.mapsAmong Tryd.f15.resultTypes.toList)) = true := by kernel_rfl
theorem scanJoins_q16 : ((Rows.scanJoinsRow.loops == (Tryd.f15.params.toList ++ Rows.scanJoinsSpec.plain.varTypes Tryd.pinned.checked.prog).any (Tryd.pinned.checked.prog.loopsFrom ·))) = true := by kernel_rfl
theorem scanJoins_q17 : ((Rows.scanJoinsRow.wideKeys == (Tryd.f15.params.toList ++ Rows.scanJoinsSpec.plain.varTypes Tryd.pinned.checked.prog ++ Tryd.f15.resultTypes.toList).any (Tryd.pinned.checked.prog.wideKeysFrom ·))) = true := by kernel_rfl
theorem scanJoins_q18 : (Rows.scanJoinsSpec.vars.all (Tryd.pinned.checked.prog.varReadable ·)) = true := by kernel_rfl
theorem scanJoins_q19 : (Tryd.f15.resultTypes.all (fun t => Tryd.pinned.checked.prog.readableRec t && decide (t < Tryd.pinned.checked.prog.types.size))) = true := by kernel_rfl
theorem scanJoins_q20 : ((Rows.scanJoinsRow.ifacesOut == Tryd.f15.resultTypes.toList.any (Tryd.pinned.checked.prog.ifacesRec ·))) = true := by kernel_rfl
theorem scanJoins_q21 : ((Rows.scanJoinsRow.loopsOut == Tryd.f15.resultTypes.toList.any (Tryd.pinned.checked.prog.loopsFrom ·))) = true := by kernel_rfl
theorem scanJoins_q22 : ((Rows.scanJoinsRow.plainKeys == Tryd.pinned.checked.prog.plainKeys)) = true := by kernel_rfl
theorem scanJoins_q23 : (Rows.scanJoinsRow.shortTexts.isNone) = true := by kernel_rfl
theorem scanJoins_q24 : (Tryd.pinned.checked.prog.stopsHeard) = true := by kernel_rfl
theorem scanJoins_q25 : (Tryd.pinned.checked.prog.mayEnter) = true := by kernel_rfl
theorem scanJoins_q26 : ((Rows.scanJoinsRow.lifted == Tryd.pinned.checked.prog.liftsFinal)) = true := by kernel_rfl
theorem scanJoins_q27 : ((Tryd.pinned.checked.prog.make == some Rows.scanJoinsRow.make)) = true := by kernel_rfl
theorem scanJoins_q28 : ((Rows.scanJoinsRow.kinds == (if Rows.scanJoinsRow.domain.isEmpty then [] else Tryd.f15.params.toList.map fun t => match Tryd.pinned.checked.prog.underlying t with | some (.int k) => some k | _ => none))) = true := by kernel_rfl
theorem scanJoins_q29 : ((Rows.scanJoinsRow.pinned == Rows.scanJoinsRow.pinnedBy)) = true := by kernel_rfl
theorem scanJoins_q30 : ((Rows.scanJoinsRow.veiled == (Tryd.f15.params.toList ++ Rows.scanJoinsSpec.plain.varTypes Tryd.pinned.checked.prog ++ Tryd.f15.resultTypes.toList).any (Tryd.pinned.checked.prog.veiledRec ·))) = true := by kernel_rfl
theorem scanJoins_q31 : (Rows.scanJoinsRow.veiledFits Tryd.pinned.checked.prog Tryd.f15.params.toList (Tryd.f15.params.toList ++ Rows.scanJoinsSpec.plain.varTypes Tryd.pinned.checked.prog ++ Tryd.f15.resultTypes.toList)) = true := by kernel_rfl
theorem scanJoins_k2 : joinedFacts Tryd.pinned.checked.prog 15 Tryd.f15 Rows.scanJoinsSpec Rows.scanJoinsRow = true := (and_i (and_i (and_i (and_i (and_i (and_i (and_i (and_i (and_i (and_i (and_i (and_i (and_i (and_i (and_i (and_i (and_i (and_i (and_i (and_i (and_i (and_i (and_i (and_i (and_i (and_i (and_i (and_i (and_i (and_i (and_i scanJoins_q0 scanJoins_q1) scanJoins_q2) scanJoins_q3) scanJoins_q4) scanJoins_q5) scanJoins_q6) scanJoins_q7) scanJoins_q8) scanJoins_q9) scanJoins_q10) scanJoins_q11) scanJoins_q12) scanJoins_q13) scanJoins_q14) scanJoins_q15) scanJoins_q16) scanJoins_q17) scanJoins_q18) scanJoins_q19) scanJoins_q20) scanJoins_q21) scanJoins_q22) scanJoins_q23) scanJoins_q24) scanJoins_q25) scanJoins_q26) scanJoins_q27) scanJoins_q28) scanJoins_q29) scanJoins_q30) scanJoins_q31)

end Go.Proofs.YtajphaljpkeecaaDoor
