/-
  A closed fact of the row ScanNone, part by part, in a text of its own (in one piece the kernel wants more than 10 GB for it).
-/
import Derived.Test.YtajphaljpkeecaaDoorRows
import Derived.Test.YtajphaljpkeecaaDoorFxRow
namespace Go.Proofs.YtajphaljpkeecaaDoor
open Go Go.Fx Go.ChangeShapes Go.WideShapes Go.ChangeAt Go.RowKit Go.Proofs
set_option maxRecDepth 100000

theorem and_i {a b : Bool} (h : a = true) (h' : b = true) : (a && b) = true := by rw [h, h']; rfl
theorem scanNone_q0 : (Rows.scanNoneRow.wf (OpenSpec.ofChange Rows.scanNoneSpec)) = true := by kernel_rfl
theorem scanNone_q1 : (laidOutB Tryd.pinned.checked.prog) = true := by kernel_rfl
theorem scanNone_q2 : (mapsRowed Tryd.pinned.checked.prog) = true := by kernel_rfl
theorem scanNone_q3 : (Tryd.f19.params.all (Tryd.pinned.checked.prog.readableRec ·)) = true := by kernel_rfl
theorem scanNone_q4 : (namedTie Tryd.pinned.checked.prog Rows.scanNoneRow.named Rows.scanNoneSpec.vars) = true := by kernel_rfl
theorem scanNone_q5 : ((Rows.scanNoneRow.stops == [])) = true := by kernel_rfl
theorem scanNone_q6 : ((Tryd.pinned.checked.prog.stops == [])) = true := by kernel_rfl
theorem scanNone_q7 : ((Rows.scanNoneRow.knobs == [])) = true := by kernel_rfl
theorem scanNone_q8 : ((Tryd.pinned.checked.prog.stopKnobs == [])) = true := by kernel_rfl
theorem scanNone_q9 : ((Rows.scanNoneRow.inPlace == Tryd.pinned.checked.prog.inPlace 19)) = true := by kernel_rfl
theorem scanNone_q10 : ((Rows.scanNoneRow.unfollowed == Tryd.pinned.checked.prog.unfollowed 19)) = true := by kernel_rfl
theorem scanNone_q11 : ((Rows.scanNoneRow.recurses == Tryd.pinned.checked.prog.recurses 19)) = true := by kernel_rfl
theorem scanNone_q12 : ((Rows.scanNoneRow.named == Tryd.pinned.checked.prog.varsNamed 19)) = true := by kernel_rfl
theorem scanNone_q13 : ((Rows.scanNoneRow.maps == (Tryd.f19.params.toList ++ Rows.scanNoneSpec.plain.varTypes Tryd.pinned.checked.prog).any (Tryd.pinned.checked.prog.mapsRec ·))) = true := by kernel_rfl
theorem scanNone_q14 : ((Rows.scanNoneRow.ifaces == (Tryd.f19.params.toList ++ Rows.scanNoneSpec.plain.varTypes Tryd.pinned.checked.prog).any (Tryd.pinned.checked.prog.ifacesRec ·))) = true := by kernel_rfl
theorem scanNone_q15 : ((Rows.scanNoneRow.mapsOut == Tryd.pinned.checked.prog.mapsAmong Tryd.f19.resultTypes.toList)) = true := by kernel_rfl
theorem scanNone_q16 : ((Rows.scanNoneRow.loops == (Tryd.f19.params.toList ++ Rows.scanNoneSpec.plain.varTypes Tryd.pinned.checked.prog).any (Tryd.pinned.checked.prog.loopsFrom ·))) = true := by kernel_rfl
theorem scanNone_q17 : ((Rows.scanNoneRow.wideKeys == (Tryd.f19.params.toList ++ Rows.scanNoneSpec.plain.varTypes Tryd.pinned.checked.prog ++ Tryd.f19.resultTypes.toList).any (Tryd.pinned.checked.prog.wideKeysFrom ·))) = true := by kernel_rfl
theorem scanNone_q18 : (Rows.scanNoneSpec.vars.all (Tryd.pinned.checked.prog.varReadable ·)) = true := by kernel_rfl
theorem scanNone_q19 : (Tryd.f19.resultTypes.all (fun t => Tryd.pinned.checked.prog.readableRec t && decide (t < Tryd.pinned.checked.prog.types.size))) = true := by kernel_rfl
theorem scanNone_q20 : ((Rows.scanNoneRow.ifacesOut == Tryd.f19.resultTypes.toList.any (Tryd.pinned.checked.prog.ifacesRec ·))) = true := by kernel_rfl
theorem scanNone_q21 : ((Rows.scanNoneRow.loopsOut == Tryd.f19.resultTypes.toList.any (Tryd.pinned.checked.prog.loopsFrom ·))) = true := by kernel_rfl
theorem scanNone_q22 : ((Rows.scanNoneRow.plainKeys == Tryd.pinned.checked.prog.plainKeys)) = true := by kernel_rfl
theorem scanNone_q23 : (Rows.scanNoneRow.shortTexts.isNone) = true := by kernel_rfl
theorem scanNone_q24 : (Tryd.pinned.checked.prog.stopsHeard) = true := by kernel_rfl
theorem scanNone_q25 : (Tryd.pinned.checked.prog.mayEnter) = true := by kernel_rfl
theorem scanNone_q26 : ((Rows.scanNoneRow.lifted == Tryd.pinned.checked.prog.liftsFinal)) = true := by kernel_rfl
theorem scanNone_q27 : ((Tryd.pinned.checked.prog.make == some Rows.scanNoneRow.make)) = true := by kernel_rfl
theorem scanNone_q28 : ((Rows.scanNoneRow.kinds == (if Rows.scanNoneRow.domain.isEmpty then [] else Tryd.f19.params.toList.map fun t => match Tryd.pinned.checked.prog.underlying t with | some (.int k) => some k | _ => none))) = true := by kernel_rfl
theorem scanNone_q29 : ((Rows.scanNoneRow.pinned == Rows.scanNoneRow.pinnedBy)) = true := by kernel_rfl
theorem scanNone_q30 : ((Rows.scanNoneRow.veiled == (Tryd.f19.params.toList ++ Rows.scanNoneSpec.plain.varTypes Tryd.pinned.checked.prog ++ Tryd.f19.resultTypes.toList).any (Tryd.pinned.checked.prog.veiledRec ·))) = true := by kernel_rfl
theorem scanNone_q31 : (Rows.scanNoneRow.veiledFits Tryd.pinned.checked.prog Tryd.f19.params.toList (Tryd.f19.params.toList ++ Rows.scanNoneSpec.plain.varTypes Tryd.pinned.checked.prog ++ Tryd.f19.resultTypes.toList)) = true := by kernel_rfl
theorem scanNone_k2 : joinedFacts Tryd.pinned.checked.prog 19 Tryd.f19 Rows.scanNoneSpec Rows.scanNoneRow = true := (and_i (and_i (and_i (and_i (and_i (and_i (and_i (and_i (and_i (and_i (and_i (and_i (and_i (and_i (and_i (and_i (and_i (and_i (and_i (and_i (and_i (and_i (and_i (and_i (and_i (and_i (and_i (and_i (and_i (and_i (and_i scanNone_q0 scanNone_q1) scanNone_q2) scanNone_q3) scanNone_q4) scanNone_q5) scanNone_q6) scanNone_q7) scanNone_q8) scanNone_q9) scanNone_q10) scanNone_q11) scanNone_q12) scanNone_q13) scanNone_q14) scanNone_q15) scanNone_q16) scanNone_q17) scanNone_q18) scanNone_q19) scanNone_q20) scanNone_q21) scanNone_q22) scanNone_q23) scanNone_q24) scanNone_q25) scanNone_q26) scanNone_q27) scanNone_q28) scanNone_q29) scanNone_q30) scanNone_q31)

end Go.Proofs.YtajphaljpkeecaaDoor
