/-
  A closed fact of the row FxRoots, part by part, in a text of its own (in one piece the kernel wants more than 10 GB for it).
-/
import Derived.Test.YtbfhholefjngpaaDoorRows
import Derived.Test.YtbfhholefjngpaaDoorFxRow
namespace Go.Proofs.YtbfhholefjngpaaDoor
open Go Go.Fx Go.ChangeShapes Go.WideShapes Go.ChangeAt Go.RowKit Go.Proofs
set_option maxRecDepth 100000

theorem and_i {a b : Bool} (h : a = true) (h' : b = true) : (a && b) = true := by rw [h, h']; rfl
theorem fxRoots_q0 : (Rows.fxRootsRow.wf (OpenSpec.ofChange Rows.fxRootsSpec)) = true := by kernel_rfl
theorem fxRoots_q1 : (laidOutB Tryd.pinned.checked.prog) = true := by kernel_rfl
theorem fxRoots_q2 : (mapsRowed Tryd.pinned.checked.prog) = true := by kernel_rfl
theorem fxRoots_q3 : (Tryd.f8.params.all (Tryd.pinned.checked.prog.readableRec ·)) = true := by kernel_rfl
theorem fxRoots_q4 : (namedTie Tryd.pinned.checked.prog Rows.fxRootsRow.named Rows.fxRootsSpec.vars) = true := by kernel_rfl
theorem fxRoots_q5 : ((Rows.fxRootsRow.stops == [])) = true := by kernel_rfl
theorem fxRoots_q6 : ((Tryd.pinned.checked.prog.stops == [])) = true := by kernel_rfl
theorem fxRoots_q7 : ((Rows.fxRootsRow.knobs == [])) = true := by kernel_rfl
theorem fxRoots_q8 : ((Tryd.pinned.checked.prog.stopKnobs == [])) = true := by kernel_rfl
theorem fxRoots_q9 : ((Rows.fxRootsRow.inPlace == Tryd.pinned.checked.prog.inPlace 8)) = true := by kernel_rfl
theorem fxRoots_q10 : ((Rows.fxRootsRow.unfollowed == Tryd.pinned.checked.prog.unfollowed 8)) = true := by kernel_rfl
theorem fxRoots_q11 : ((Rows.fxRootsRow.recurses == Tryd.pinned.checked.prog.recurses 8)) = true := by kernel_rfl
theorem fxRoots_q12 : ((Rows.fxRootsRow.named == Tryd.pinned.checked.prog.varsNamed 8)) = true := by kernel_rfl
theorem fxRoots_q13 : ((Rows.fxRootsRow.maps == (Tryd.f8.params.toList ++ Rows.fxRootsSpec.plain.varTypes Tryd.pinned.checked.prog).any (Tryd.pinned.checked.prog.mapsRec ·))) = true := by kernel_rfl
theorem fxRoots_q14 : ((Rows.fxRootsRow.ifaces == (Tryd.f8.params.toList ++ Rows.fxRootsSpec.plain.varTypes Tryd.pinned.checked.prog).any (Tryd.pinned.checked.prog.ifacesRec ·))) = true := by kernel_rfl
theorem fxRoots_q15 : ((Rows.fxRootsRow.mapsOut == Tryd.pinned.checked.prog.mapsAmong Tryd.f8.resultTypes.toList)) = true := by kernel_rfl
theorem fxRoots_q16 : ((Rows.fxRootsRow.loops == (Tryd.f8.params.toList ++ Rows.fxRootsSpec.plain.varTypes Tryd.pinned.checked.prog).any (Tryd.pinned.checked.prog.loopsFrom ·))) = true := by kernel_rfl
theorem fxRoots_q17 : ((Rows.fxRootsRow.wideKeys == (Tryd.f8.params.toList ++ Rows.fxRootsSpec.plain.varTypes Tryd.pinned.checked.prog ++ Tryd.f8.resultTypes.toList).any (Tryd.pinned.checked.prog.wideKeysFrom ·))) = true := by kernel_rfl
theorem fxRoots_q18 : (Rows.fxRootsSpec.vars.all (Tryd.pinned.checked.prog.varReadable ·)) = true := by kernel_rfl
theorem fxRoots_q19 : (Tryd.f8.resultTypes.all (fun t => Tryd.pinned.checked.prog.readableRec t && decide (t < Tryd.pinned.checked.prog.types.size))) = true := by kernel_rfl
theorem fxRoots_q20 : ((Rows.fxRootsRow.ifacesOut == Tryd.f8.resultTypes.toList.any (Tryd.pinned.checked.prog.ifacesRec ·))) = true := by kernel_rfl
theorem fxRoots_q21 : ((Rows.fxRootsRow.loopsOut == Tryd.f8.resultTypes.toList.any (Tryd.pinned.checked.prog.loopsFrom ·))) = true := by kernel_rfl
theorem fxRoots_q22 : ((Rows.fxRootsRow.plainKeys == Tryd.pinned.checked.prog.plainKeys)) = true := by kernel_rfl
theorem fxRoots_q23 : (Rows.fxRootsRow.shortTexts.isNone) = true := by kernel_rfl
theorem fxRoots_q24 : (Tryd.pinned.checked.prog.stopsHeard) = true := by kernel_rfl
theorem fxRoots_q25 : (Tryd.pinned.checked.prog.mayEnter) = true := by kernel_rfl
theorem fxRoots_q26 : ((Rows.fxRootsRow.lifted == Tryd.pinned.checked.prog.liftsFinal)) = true := by kernel_rfl
theorem fxRoots_q27 : ((Tryd.pinned.checked.prog.make == some Rows.fxRootsRow.make)) = true := by kernel_rfl
theorem fxRoots_q28 : ((Rows.fxRootsRow.kinds == (if Rows.fxRootsRow.domain.isEmpty then [] else Tryd.f8.params.toList.map fun t => match Tryd.pinned.checked.prog.underlying t with | some (.int k) => some k | _ => none))) = true := by kernel_rfl
theorem fxRoots_q29 : ((Rows.fxRootsRow.pinned == Rows.fxRootsRow.pinnedBy)) = true := by kernel_rfl
theorem fxRoots_q30 : ((Rows.fxRootsRow.veiled == (Tryd.f8.params.toList ++ Rows.fxRootsSpec.plain.varTypes Tryd.pinned.checked.prog ++ Tryd.f8.resultTypes.toList).any (Tryd.pinned.checked.prog.veiledRec ·))) = true := by kernel_rfl
theorem fxRoots_q31 : (Rows.fxRootsRow.veiledFits Tryd.pinned.checked.prog Tryd.f8.params.toList (Tryd.f8.params.toList ++ Rows.fxRootsSpec.plain.varTypes Tryd.pinned.checked.prog ++ Tryd.f8.resultTypes.toList)) = true := by kernel_rfl
theorem fxRoots_k2 : joinedFacts Tryd.pinned.checked.prog 8 Tryd.f8 Rows.fxRootsSpec Rows.fxRootsRow = true := (and_i (and_i (and_i (and_i (and_i (and_i (and_i (and_i (and_i (and_i (and_i (and_i (and_i (and_i (and_i (and_i (and_i (and_i (and_i (and_i (and_i (and_i (and_i (and_i (and_i (and_i (and_i (and_i (and_i (and_i (and_i fxRoots_q0 fxRoots_q1) fxRoots_q2) fxRoots_q3) fxRoots_q4) fxRoots_q5) fxRoots_q6) fxRoots_q7) fxRoots_q8) fxRoots_q9) fxRoots_q10) fxRoots_q11) fxRoots_q12) fxRoots_q13) fxRoots_q14) fxRoots_q15) fxRoots_q16) fxRoots_q17) fxRoots_q18) fxRoots_q19) fxRoots_q20) fxRoots_q21) fxRoots_q22) fxRoots_q23) fxRoots_q24) fxRoots_q25) fxRoots_q26) fxRoots_q27) fxRoots_q28) fxRoots_q29) fxRoots_q30) fxRoots_q31)

end Go.Proofs.YtbfhholefjngpaaDoor
