/-
  The law FxOrder returns true for every input, and what it reads is as it was. No conditions.
-/
import Derived.Test.YtbfhholefjngpaaDoorRows
import Derived.Test.YtbfhholefjngpaaDoorCards
import Derived.Test.YtbfhholefjngpaaDoorTie
import Derived.SevenTiedAt
import Derived.Test.YtbfhholefjngpaaDoorFxRow
import Derived.Test.YtbfhholefjngpaaDoorWDTab
import Derived.Test.YtbfhholefjngpaaDoorWLD4
import Derived.Test.YtbfhholefjngpaaDoorWKFxOrder
set_option linter.unusedSimpArgs false
set_option linter.unusedVariables false
set_option maxRecDepth 100000
namespace Go.Proofs.YtbfhholefjngpaaDoor
open Go Go.Fx Go.ChangeShapes Go.WideShapes Go.ChangeAt Go.RowKit Go.Proofs

theorem Tryd.own : ownKnob Tryd.prog.godebug = none := by kernel_rfl
theorem Tryd.laidOut : laidOutB Tryd.prog = true := by kernel_rfl

theorem fxOrder_con {x0 : PV} {x1 : PV} {x2 : PV} {x3 : PV} (e0 : TopFits false [(.int .i64)] x0) (e1 : TopFits false [(.int .i64)] x1) (e2 : TopFits false [(.int .i64)] x2) (e3 : TopFits false [(.int .i64)] x3) : FunEq Tryd.prog GG 10 [x0, x1, x2, x3] (.bool true) := by
  obtain ⟨ys0, rfl, t0⟩ := e0
  obtain ⟨y0, zs0, rfl, f0, t1⟩ := TS.cons_inv t0
  obtain ⟨n0, rfl, w0⟩ := fits_int f0
  obtain rfl := TS.nil_inv t1
  obtain ⟨ys1, rfl, t2⟩ := e1
  obtain ⟨y2, zs2, rfl, f2, t3⟩ := TS.cons_inv t2
  obtain ⟨n2, rfl, w2⟩ := fits_int f2
  obtain rfl := TS.nil_inv t3
  obtain ⟨ys2, rfl, t4⟩ := e2
  obtain ⟨y4, zs4, rfl, f4, t5⟩ := TS.cons_inv t4
  obtain ⟨n4, rfl, w4⟩ := fits_int f4
  obtain rfl := TS.nil_inv t5
  obtain ⟨ys3, rfl, t6⟩ := e3
  obtain ⟨y6, zs6, rfl, f6, t7⟩ := TS.cons_inv t6
  obtain ⟨n6, rfl, w6⟩ := fits_int f6
  obtain rfl := TS.nil_inv t7
  exact ok_coupletlaw02_FxOrder n0 n2 n4 n6 true (law_FxOrder w0 w2 w4 w6)

theorem fxOrder_lifted (os : Os) (started : os.Started) (H : Type) (enc : TypeId × Value → H) :
    ReturnsInHanded {} Tryd.checked os 10 .any (fun w args => (Rows.fxOrderSpec.pre enc Tryd.prog Tryd.f10 [] false w args ∧ laidMetH Tryd.prog laid5 w) ∧ sizedMet enc Tryd.prog Tryd.f10 (OpenSpec.ofChange Rows.fxOrderSpec) false w args) (Rows.fxOrderSpec.post enc Tryd.prog Tryd.f10 false true false false) := by
  refine returnsInHanded_of_change_and (C := Tryd.checked) (X := fun w _ => laidMetH Tryd.prog laid5 w) (fun _ _ _ hh h => h.of_heap hh) Tryd.own started (by kernel_rfl) Tryd.func10
    (ChangeSpec.witness_shaped (enc := enc) (C := Tryd.checked) (os := os) (X := fun w _ => laidMetH Tryd.prog laid5 w) false (World.doorLaid Tryd.prog 4000 os) #[.int .i64 0, .int .i64 0, .int .i64 0, .int .i64 0] 8 rfl (World.shaped_of_RefB (by kernel_rfl) (by kernel_rfl)) (by kernel_rfl) (by kernel_rfl) (by kernel_rfl) (door_met os _)) ?_
  intro W base args ds gs before hval0 hW _ _ hL _
  have hval : ∀ (j : Nat) t v, Tryd.f10.params[j]? = some t → args[j]? = some v → Value.okWide Tryd.prog W .any base t v := hval0
  have hW' := hW
  obtain ⟨p, q, hA0, hV, rfl, hfz, hnd⟩ := hW
  have hA : DataW.TrodAll enc Tryd.prog W 0 (fun _ => true) true Tryd.f10.params.toList args.toList ds p := hA0
  rw [Tryd.params10] at hA hval
  obtain ⟨v0, v1, v2, v3, d0, d1, d2, d3, p0, p1, p2, p3, rfl, rfl, rfl, h0, h1, h2, h3⟩ := trodAll_four hA
  obtain ⟨rfl, rfl⟩ := trodVars_none hV
  obtain ⟨x0, e0, r0⟩ := open_arg (n := 8) (agg := false) (ts := [(.int .i64)]) (by kernel_rfl) (by kernel_rfl) (hval 0 3 v0 rfl rfl) h0
  obtain ⟨x1, e1, r1⟩ := open_arg (n := 8) (agg := false) (ts := [(.int .i64)]) (by kernel_rfl) (by kernel_rfl) (hval 1 3 v1 rfl rfl) h1
  obtain ⟨x2, e2, r2⟩ := open_arg (n := 8) (agg := false) (ts := [(.int .i64)]) (by kernel_rfl) (by kernel_rfl) (hval 2 3 v2 rfl rfl) h2
  obtain ⟨x3, e3, r3⟩ := open_arg (n := 8) (agg := false) (ts := [(.int .i64)]) (by kernel_rfl) (by kernel_rfl) (hval 3 3 v3 rfl rfl) h3
  clear hA0 hval0
  simp only [List.append_nil] at hW'
  refine (funEqG_true (fxOrder_con e0 e1 e2 e3) W (glob_laid hL) (vs := [v0, v1, v2, v3]) ⟨_, _, rfl, r0, ⟨_, _, rfl, r1, ⟨_, _, rfl, r2, ⟨_, _, rfl, r3, rfl⟩⟩⟩⟩).mono fun e W' ⟨he, hl⟩ => ?_
  subst he
  exact ⟨_, rfl, post_of_left (pa := (p0 ++ (p1 ++ (p2 ++ p3)))) (pv := []) hW' (fun _ _ _ => trodAll_mk1 (shut_bool Tryd.underlying4 true)) (fun sp hs => (trodAll_mk4 (trod_left Tryd.laidOut (by kernel_rfl) (of_decide_eq_true (by kernel_rfl)) h0 hl (fun x hx => hW'.lt x (by simp [hx])) (fun x hx => hs x (by simp [hx]))) (trod_left Tryd.laidOut (by kernel_rfl) (of_decide_eq_true (by kernel_rfl)) h1 hl (fun x hx => hW'.lt x (by simp [hx])) (fun x hx => hs x (by simp [hx]))) (trod_left Tryd.laidOut (by kernel_rfl) (of_decide_eq_true (by kernel_rfl)) h2 hl (fun x hx => hW'.lt x (by simp [hx])) (fun x hx => hs x (by simp [hx]))) (trod_left Tryd.laidOut (by kernel_rfl) (of_decide_eq_true (by kernel_rfl)) h3 hl (fun x hx => hW'.lt x (by simp [hx])) (fun x hx => hs x (by simp [hx]))))) (fun _ _ => rfl) (by simp) hl (ok_one (by kernel_rfl) rfl (okWide_bool_mk Tryd.underlying4 true))⟩

theorem fxOrder_k1 : Tryd.pinned.checked.prog.funcNamed Rows.fxOrderRow.func = some 10 := by kernel_rfl
theorem fxOrder_k3 : Tryd.f10.isInstance Tryd.pinned.checked.prog Rows.fxOrderRow.origin Rows.fxOrderRow.targs := of_decide_eq_true (by kernel_rfl)
theorem fxOrder_k4 : Tryd.f10.isWrapper Tryd.pinned.checked.prog Rows.fxOrderRow.wrapper Rows.fxOrderRow.mainSum := by unfold Func.isWrapper; rw [if_neg (by decide +kernel)]; exact ⟨rfl, rfl⟩

/-- The law FxOrder, for every input. -/
theorem fxOrder_row_holds : Rows.FxOrderSaid :=
  OpenClaim.holds_of_wide 10 Tryd.f10 rfl rfl rfl rfl rfl rfl rfl ⟨rfl, rfl, rfl, rfl, rfl⟩ rfl rfl rfl rfl rfl fxOrder_k1 Tryd.func10 fxOrder_k2 fxOrder_k3 fxOrder_k4
    (fun os started H enc _ => fxOrder_lifted os started H enc)

/-- The card: the same, with the tables tied to the program's text. -/
theorem fxOrder_holds : Rows.FxOrderCardSaid :=
  Claim7.holds_tied_plain_at .later [] [.data, .data, .data, .listed, .data] true (true, "db1c1834e2f354fa787f90eadfd97fe85479a6a269ffa0197e9c1b7f75cc2301") false
    fxOrder_row_holds (fun _ h => by cases h) (by kernel_rfl) (fun _ h => by cases h) fxOrder_row_tie rfl ⟨rfl, rfl⟩ (by kernel_rfl) rfl
    (fun f fn hf hfn => by
      obtain rfl : f = 10 := Option.some.inj ((show Tryd.prog.funcNamed "couplet/coupletlaw02.FxOrder" = some 10 by kernel_rfl).symm.trans hf) |>.symm
      obtain rfl : fn = Tryd.f10 := (Option.some.inj (Tryd.func10.symm.trans hfn)).symm
      exact ⟨by kernel_rfl, fun j t ht => by
        rw [Tryd.params10] at ht
        have hm : t ∈ [3, 3, 3, 3] := by simpa using Array.mem_of_getElem? ht
        have hall : ([3, 3, 3, 3].all fun u => !Tryd.prog.wantsStandIn u) = true := by kernel_rfl
        exact (show Tryd.prog.wantsStandIn t = false by simpa using List.all_eq_true.1 hall t hm)⟩)
    (by kernel_rfl)

end Go.Proofs.YtbfhholefjngpaaDoor
