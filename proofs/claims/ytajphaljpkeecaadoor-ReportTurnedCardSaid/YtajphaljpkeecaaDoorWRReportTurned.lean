/-
  The law ReportTurned returns true for every input, and what it reads is as it was. No conditions.
-/
import Derived.Test.YtajphaljpkeecaaDoorRows
import Derived.Test.YtajphaljpkeecaaDoorCards
import Derived.Test.YtajphaljpkeecaaDoorTie
import Derived.SevenTiedAt
import Derived.Test.YtajphaljpkeecaaDoorFxRow
import Derived.Test.YtajphaljpkeecaaDoorWCTab
import Derived.Test.YtajphaljpkeecaaDoorWLT
import Derived.Test.YtajphaljpkeecaaDoorWKReportTurned
set_option linter.unusedSimpArgs false
set_option linter.unusedVariables false
set_option maxRecDepth 100000
namespace Go.Proofs.YtajphaljpkeecaaDoor
open Go Go.Fx Go.ChangeShapes Go.WideShapes Go.ChangeAt Go.RowKit Go.Proofs
theorem Tryd.own : ownKnob Tryd.prog.godebug = none := by kernel_rfl
theorem Tryd.laidOut : laidOutB Tryd.prog = true := by kernel_rfl
theorem reportTurned_con {x0 : PV} {x1 : PV} {x2 : PV} {x3 : PV} (e0 : TopFits true [(.int .i64), (.int .i64), (.isl .i64), (.isl .i64)] x0) (e1 : TopFits false [(.int .i64)] x1) (e2 : TopFits false [(.int .u8)] x2) (e3 : TopFits false [(.isl .u8)] x3) : FunEq Tryd.prog GG 12 [x0, x1, x2, x3] (.bool true) := by
  obtain ⟨ys0, rfl, t0⟩ := e0
  obtain ⟨y0, zs0, rfl, f0, t1⟩ := TS.cons_inv t0
  obtain ⟨n0, rfl, w0⟩ := fits_int f0
  obtain ⟨y1, zs1, rfl, f1, t2⟩ := TS.cons_inv t1
  obtain ⟨n1, rfl, w1⟩ := fits_int f1
  obtain ⟨y2, zs2, rfl, f2, t3⟩ := TS.cons_inv t2
  obtain ⟨b2, d2, l2, rfl, w2, c2, g2⟩ := fits_isl f2
  obtain ⟨y3, zs3, rfl, f3, t4⟩ := TS.cons_inv t3
  obtain ⟨b3, d3, l3, rfl, w3, c3, g3⟩ := fits_isl f3
  obtain rfl := TS.nil_inv t4
  obtain ⟨ys1, rfl, t5⟩ := e1
  obtain ⟨y5, zs5, rfl, f5, t6⟩ := TS.cons_inv t5
  obtain ⟨n5, rfl, w5⟩ := fits_int f5
  obtain rfl := TS.nil_inv t6
  obtain ⟨ys2, rfl, t7⟩ := e2
  obtain ⟨y7, zs7, rfl, f7, t8⟩ := TS.cons_inv t7
  obtain ⟨n7, rfl, w7⟩ := fits_int f7
  obtain rfl := TS.nil_inv t8
  obtain ⟨ys3, rfl, t9⟩ := e3
  obtain ⟨y9, zs9, rfl, f9, t10⟩ := TS.cons_inv t9
  obtain ⟨b9, d9, l9, rfl, w9, c9, g9⟩ := fits_isl f9
  obtain rfl := TS.nil_inv t10
  exact ok_coupletlaw18_ReportTurned n0 n1 b2 d2 l2 b3 d3 l3 n5 n7 b9 d9 l9 true (law_ReportTurned w0 w1 w2 c2 g2 w3 c3 g3 w5 w7 w9 c9 g9)
theorem reportTurned_lifted (os : Os) (started : os.Started) (H : Type) (enc : TypeId × Value → H) :
    ReturnsInHanded {} Tryd.checked os 12 .any (fun w args => (Rows.reportTurnedSpec.pre enc Tryd.prog Tryd.f12 [] false w args ∧ laidMetH Tryd.prog laid5 w) ∧ sizedMet enc Tryd.prog Tryd.f12 (OpenSpec.ofChange Rows.reportTurnedSpec) false w args) (Rows.reportTurnedSpec.post enc Tryd.prog Tryd.f12 false true false false) := by
  refine returnsInHanded_of_change_and (C := Tryd.checked) (X := fun w _ => laidMetH Tryd.prog laid5 w) (fun _ _ _ hh h => h.of_heap hh) Tryd.own started (by kernel_rfl) Tryd.func12
    (ChangeSpec.witness_shaped (enc := enc) (C := Tryd.checked) (os := os) (X := fun w _ => laidMetH Tryd.prog laid5 w) false (World.doorLaid Tryd.prog 4000 os) #[.agg #[.int .i64 0, .int .i64 0, .slice none 0 0, .slice none 0 0], .int .i64 0, .int .u8 0, .slice none 0 0] 8 rfl (World.shaped_of_RefB (by kernel_rfl) (by kernel_rfl)) (by kernel_rfl) (by kernel_rfl) (by kernel_rfl) (door_met os _)) ?_
  intro W base args ds gs before hval0 hW _ _ hL _
  have hval : ∀ (j : Nat) t v, Tryd.f12.params[j]? = some t → args[j]? = some v → Value.okWide Tryd.prog W .any base t v := hval0
  have hW' := hW
  obtain ⟨p, q, hA0, hV, rfl, hfz, hnd⟩ := hW
  have hA : DataW.TrodAll enc Tryd.prog W 0 (fun _ => true) true Tryd.f12.params.toList args.toList ds p := hA0
  rw [Tryd.params12] at hA hval
  obtain ⟨v0, v1, v2, v3, d0, d1, d2, d3, p0, p1, p2, p3, rfl, rfl, rfl, h0, h1, h2, h3⟩ := trodAll_four hA
  obtain ⟨rfl, rfl⟩ := trodVars_none hV
  obtain ⟨x0, e0, r0⟩ := open_arg (n := 8) (agg := true) (ts := [(.int .i64), (.int .i64), (.isl .i64), (.isl .i64)]) (by kernel_rfl) (by kernel_rfl) (hval 0 46 v0 rfl rfl) h0
  obtain ⟨x1, e1, r1⟩ := open_arg (n := 8) (agg := false) (ts := [(.int .i64)]) (by kernel_rfl) (by kernel_rfl) (hval 1 3 v1 rfl rfl) h1
  obtain ⟨x2, e2, r2⟩ := open_arg (n := 8) (agg := false) (ts := [(.int .u8)]) (by kernel_rfl) (by kernel_rfl) (hval 2 5 v2 rfl rfl) h2
  obtain ⟨x3, e3, r3⟩ := open_arg (n := 8) (agg := false) (ts := [(.isl .u8)]) (by kernel_rfl) (by kernel_rfl) (hval 3 26 v3 rfl rfl) h3
  clear hA0 hval0
  simp only [List.append_nil] at hW'
  refine (funEqG_true (reportTurned_con e0 e1 e2 e3) W (glob_laid hL) (vs := [v0, v1, v2, v3]) ⟨_, _, rfl, r0, ⟨_, _, rfl, r1, ⟨_, _, rfl, r2, ⟨_, _, rfl, r3, rfl⟩⟩⟩⟩).mono fun e W' ⟨he, hl⟩ => ?_
  subst he
  exact ⟨_, rfl, post_of_left (pa := (p0 ++ (p1 ++ (p2 ++ p3)))) (pv := []) hW' (fun _ _ _ => trodAll_mk1 (shut_bool Tryd.underlying4 true)) (fun sp hs => (trodAll_mk4 (trod_left Tryd.laidOut (by kernel_rfl) (of_decide_eq_true (by kernel_rfl)) h0 hl (fun x hx => hW'.lt x (by simp [hx])) (fun x hx => hs x (by simp [hx]))) (trod_left Tryd.laidOut (by kernel_rfl) (of_decide_eq_true (by kernel_rfl)) h1 hl (fun x hx => hW'.lt x (by simp [hx])) (fun x hx => hs x (by simp [hx]))) (trod_left Tryd.laidOut (by kernel_rfl) (of_decide_eq_true (by kernel_rfl)) h2 hl (fun x hx => hW'.lt x (by simp [hx])) (fun x hx => hs x (by simp [hx]))) (trod_left Tryd.laidOut (by kernel_rfl) (of_decide_eq_true (by kernel_rfl)) h3 hl (fun x hx => hW'.lt x (by simp [hx])) (fun x hx => hs x (by simp [hx]))))) (fun _ _ => rfl) (by simp) hl (ok_one (by kernel_rfl) rfl (okWide_bool_mk Tryd.underlying4 true))⟩
theorem reportTurned_k1 : Tryd.pinned.checked.prog.funcNamed Rows.reportTurnedRow.func = some 12 := by kernel_rfl
theorem reportTurned_k3 : Tryd.f12.isInstance Tryd.pinned.checked.prog Rows.reportTurnedRow.origin Rows.reportTurnedRow.targs := of_decide_eq_true (by kernel_rfl)
theorem reportTurned_k4 : Tryd.f12.isWrapper Tryd.pinned.checked.prog Rows.reportTurnedRow.wrapper Rows.reportTurnedRow.mainSum := by unfold Func.isWrapper; rw [if_neg (by decide +kernel)]; exact ⟨rfl, rfl⟩
theorem reportTurned_row_holds : Rows.ReportTurnedSaid :=
  OpenClaim.holds_of_wide 12 Tryd.f12 rfl rfl rfl rfl rfl rfl rfl ⟨rfl, rfl, rfl, rfl, rfl⟩ rfl rfl rfl rfl rfl reportTurned_k1 Tryd.func12 reportTurned_k2 reportTurned_k3 reportTurned_k4
    (fun os started H enc _ => reportTurned_lifted os started H enc)
theorem reportTurned_holds : Rows.ReportTurnedCardSaid :=
  Claim7.holds_tied_plain_at .later [] [.data] true (true, "b6d8c03616781264e46c06f32f3eb0f600499f0d77c3769dd3c312e239d18a09") false
    reportTurned_row_holds (fun _ h => by cases h) (by kernel_rfl) (fun _ h => by cases h) reportTurned_row_tie rfl ⟨rfl, rfl⟩ (by kernel_rfl) rfl
    (fun f fn hf hfn => by
      obtain rfl : f = 12 := Option.some.inj ((show Tryd.prog.funcNamed Rows.reportTurnedRow.func = some 12 by kernel_rfl).symm.trans hf) |>.symm
      obtain rfl : fn = Tryd.f12 := (Option.some.inj (Tryd.func12.symm.trans hfn)).symm
      exact ⟨by kernel_rfl, fun j t ht => by
        rw [Tryd.params12] at ht
        have hm : t ∈ [46, 3, 5, 26] := by simpa using Array.mem_of_getElem? ht
        have hall : ([46, 3, 5, 26].all fun u => !Tryd.prog.wantsStandIn u) = true := by kernel_rfl
        exact (show Tryd.prog.wantsStandIn t = false by simpa using List.all_eq_true.1 hall t hm)⟩)
    (by kernel_rfl)
end Go.Proofs.YtajphaljpkeecaaDoor
