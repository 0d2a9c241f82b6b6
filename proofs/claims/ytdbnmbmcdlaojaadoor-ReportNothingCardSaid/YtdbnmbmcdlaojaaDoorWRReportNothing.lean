/-
  The law ReportNothing returns true for every input, and what it reads is as it was. No conditions.
-/
import Derived.Test.YtdbnmbmcdlaojaaDoorRows
import Derived.Test.YtdbnmbmcdlaojaaDoorCards
import Derived.Test.YtdbnmbmcdlaojaaDoorTie
import Derived.SevenTiedAt
import Derived.Test.YtdbnmbmcdlaojaaDoorFxRow
import Derived.Test.YtdbnmbmcdlaojaaDoorWESN
import Derived.Test.YtdbnmbmcdlaojaaDoorWLE18
import Derived.Test.YtdbnmbmcdlaojaaDoorWKReportNothing
set_option linter.unusedSimpArgs false
set_option linter.unusedVariables false
set_option maxRecDepth 100000
namespace Go.Proofs.YtdbnmbmcdlaojaaDoor
open Go Go.Fx Go.ChangeShapes Go.WideShapes Go.ChangeAt Go.RowKit Go.Proofs
theorem Tryd.own : ownKnob Tryd.prog.godebug = none := by kernel_rfl
theorem Tryd.laidOut : laidOutB Tryd.prog = true := by kernel_rfl
theorem reportNothing_con {x0 : PV} {x1 : PV} {x2 : PV} (e0 : TopFits true [(.int .i64), (.int .i64), (.int .i64), (.int .i64)] x0) (e1 : TopFits false [.bool] x1) (e2 : TopFits false [(.int .i64)] x2) : FunEq Tryd.prog GG 3 [x0, x1, x2] (.bool true) := by
  obtain ⟨ys0, rfl, t0⟩ := e0
  obtain ⟨y0, zs0, rfl, f0, t1⟩ := TS.cons_inv t0
  obtain ⟨n0, rfl, w0⟩ := fits_int f0
  obtain ⟨y1, zs1, rfl, f1, t2⟩ := TS.cons_inv t1
  obtain ⟨n1, rfl, w1⟩ := fits_int f1
  obtain ⟨y2, zs2, rfl, f2, t3⟩ := TS.cons_inv t2
  obtain ⟨n2, rfl, w2⟩ := fits_int f2
  obtain ⟨y3, zs3, rfl, f3, t4⟩ := TS.cons_inv t3
  obtain ⟨n3, rfl, w3⟩ := fits_int f3
  obtain rfl := TS.nil_inv t4
  obtain ⟨ys1, rfl, t5⟩ := e1
  obtain ⟨y5, zs5, rfl, f5, t6⟩ := TS.cons_inv t5
  obtain ⟨b5, rfl⟩ := fits_bool f5
  obtain rfl := TS.nil_inv t6
  obtain ⟨ys2, rfl, t7⟩ := e2
  obtain ⟨y7, zs7, rfl, f7, t8⟩ := TS.cons_inv t7
  obtain ⟨n7, rfl, w7⟩ := fits_int f7
  obtain rfl := TS.nil_inv t8
  exact ok_coupletlaw18_ReportNothing n0 n1 n2 n3 b5 n7 true (law_ReportNothing w0 w1 w2 w3 w7)
theorem reportNothing_lifted (os : Os) (started : os.Started) (H : Type) (enc : TypeId × Value → H) :
    ReturnsInHanded {} Tryd.checked os 3 .any (fun w args => (Rows.reportNothingSpec.pre enc Tryd.prog Tryd.f3 [] false w args ∧ laidMetH Tryd.prog laid5 w) ∧ sizedMet enc Tryd.prog Tryd.f3 (OpenSpec.ofChange Rows.reportNothingSpec) false w args) (Rows.reportNothingSpec.post enc Tryd.prog Tryd.f3 false true false false) := by
  refine returnsInHanded_of_change_and (C := Tryd.checked) (X := fun w _ => laidMetH Tryd.prog laid5 w) (fun _ _ _ hh h => h.of_heap hh) Tryd.own started (by kernel_rfl) Tryd.func3
    (ChangeSpec.witness_shaped (enc := enc) (C := Tryd.checked) (os := os) (X := fun w _ => laidMetH Tryd.prog laid5 w) false (World.doorLaid Tryd.prog 4000 os) #[.agg #[.int .i64 0, .int .i64 0, .int .i64 0, .int .i64 0], .bool false, .int .i64 0] 8 rfl (World.shaped_of_RefB (by kernel_rfl) (by kernel_rfl)) (by kernel_rfl) (by kernel_rfl) (by kernel_rfl) (door_met os _)) ?_
  intro W base args ds gs before hval0 hW _ _ hL _
  have hval : ∀ (j : Nat) t v, Tryd.f3.params[j]? = some t → args[j]? = some v → Value.okWide Tryd.prog W .any base t v := hval0
  have hW' := hW
  obtain ⟨p, q, hA0, hV, rfl, hfz, hnd⟩ := hW
  have hA : DataW.TrodAll enc Tryd.prog W 0 (fun _ => true) true Tryd.f3.params.toList args.toList ds p := hA0
  rw [Tryd.params3] at hA hval
  obtain ⟨v0, v1, v2, d0, d1, d2, p0, p1, p2, rfl, rfl, rfl, h0, h1, h2⟩ := trodAll_three hA
  obtain ⟨rfl, rfl⟩ := trodVars_none hV
  obtain ⟨x0, e0, r0⟩ := open_arg (n := 8) (agg := true) (ts := [(.int .i64), (.int .i64), (.int .i64), (.int .i64)]) (by kernel_rfl) (by kernel_rfl) (hval 0 23 v0 rfl rfl) h0
  obtain ⟨x1, e1, r1⟩ := open_arg (n := 8) (agg := false) (ts := [.bool]) (by kernel_rfl) (by kernel_rfl) (hval 1 4 v1 rfl rfl) h1
  obtain ⟨x2, e2, r2⟩ := open_arg (n := 8) (agg := false) (ts := [(.int .i64)]) (by kernel_rfl) (by kernel_rfl) (hval 2 3 v2 rfl rfl) h2
  clear hA0 hval0
  simp only [List.append_nil] at hW'
  refine (funEqG_true (reportNothing_con e0 e1 e2) W (glob_laid hL) (vs := [v0, v1, v2]) ⟨_, _, rfl, r0, ⟨_, _, rfl, r1, ⟨_, _, rfl, r2, rfl⟩⟩⟩).mono fun e W' ⟨he, hl⟩ => ?_
  subst he
  exact ⟨_, rfl, post_of_left (pa := (p0 ++ (p1 ++ p2))) (pv := []) hW' (fun _ _ _ => trodAll_mk1 (shut_bool Tryd.underlying4 true)) (fun sp hs => (trodAll_mk3 (trod_left Tryd.laidOut (by kernel_rfl) (of_decide_eq_true (by kernel_rfl)) h0 hl (fun x hx => hW'.lt x (by simp [hx])) (fun x hx => hs x (by simp [hx]))) (trod_left Tryd.laidOut (by kernel_rfl) (of_decide_eq_true (by kernel_rfl)) h1 hl (fun x hx => hW'.lt x (by simp [hx])) (fun x hx => hs x (by simp [hx]))) (trod_left Tryd.laidOut (by kernel_rfl) (of_decide_eq_true (by kernel_rfl)) h2 hl (fun x hx => hW'.lt x (by simp [hx])) (fun x hx => hs x (by simp [hx]))))) (fun _ _ => rfl) (by simp) hl (ok_one (by kernel_rfl) rfl (okWide_bool_mk Tryd.underlying4 true))⟩
theorem reportNothing_k1 : Tryd.pinned.checked.prog.funcNamed Rows.reportNothingRow.func = some 3 := by kernel_rfl
theorem reportNothing_k3 : Tryd.f3.isInstance Tryd.pinned.checked.prog Rows.reportNothingRow.origin Rows.reportNothingRow.targs := of_decide_eq_true (by kernel_rfl)
theorem reportNothing_k4 : Tryd.f3.isWrapper Tryd.pinned.checked.prog Rows.reportNothingRow.wrapper Rows.reportNothingRow.mainSum := by unfold Func.isWrapper; rw [if_neg (by decide +kernel)]; exact ⟨rfl, rfl⟩
theorem reportNothing_row_holds : Rows.ReportNothingSaid :=
  OpenClaim.holds_of_wide 3 Tryd.f3 rfl rfl rfl rfl rfl rfl rfl ⟨rfl, rfl, rfl, rfl, rfl⟩ rfl rfl rfl rfl rfl reportNothing_k1 Tryd.func3 reportNothing_k2 reportNothing_k3 reportNothing_k4
    (fun os started H enc _ => reportNothing_lifted os started H enc)
theorem reportNothing_holds : Rows.ReportNothingCardSaid :=
  Claim7.holds_tied_plain_at .later [] [.data] true (true, "5f4f87a2e4c88b550f5726fe02c1052f2ae192a5a12650754bc43b445d594d73") false
    reportNothing_row_holds (fun _ h => by cases h) (by kernel_rfl) (fun _ h => by cases h) reportNothing_row_tie rfl ⟨rfl, rfl⟩ (by kernel_rfl) rfl
    (fun f fn hf hfn => by
      obtain rfl : f = 3 := Option.some.inj ((show Tryd.prog.funcNamed Rows.reportNothingRow.func = some 3 by kernel_rfl).symm.trans hf) |>.symm
      obtain rfl : fn = Tryd.f3 := (Option.some.inj (Tryd.func3.symm.trans hfn)).symm
      exact ⟨by kernel_rfl, fun j t ht => by
        rw [Tryd.params3] at ht
        have hm : t ∈ [23, 4, 3] := by simpa using Array.mem_of_getElem? ht
        have hall : ([23, 4, 3].all fun u => !Tryd.prog.wantsStandIn u) = true := by kernel_rfl
        exact (show Tryd.prog.wantsStandIn t = false by simpa using List.all_eq_true.1 hall t hm)⟩)
    (by kernel_rfl)
end Go.Proofs.YtdbnmbmcdlaojaaDoor
