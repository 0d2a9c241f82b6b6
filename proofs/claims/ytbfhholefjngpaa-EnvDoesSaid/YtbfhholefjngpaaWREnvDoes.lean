/-
  The law EnvDoes returns true for every input, and what it reads is as it was. No conditions.
-/
import Derived.Test.YtbfhholefjngpaaRows
import Derived.Test.YtbfhholefjngpaaFxRow
import Derived.Test.YtbfhholefjngpaaWLE3
import Derived.Test.YtbfhholefjngpaaWKEnvDoes
set_option linter.unusedSimpArgs false
set_option linter.unusedVariables false
set_option maxRecDepth 100000
namespace Go.Proofs.Ytbfhholefjngpaa
open Go Go.Fx Go.ChangeShapes Go.WideShapes Go.ChangeAt Go.RowKit Go.Proofs

theorem Try.own : ownKnob Try.prog.godebug = none := by kernel_rfl
theorem Try.laidOut : laidOutB Try.prog = true := by kernel_rfl

theorem envDoes_con {x0 : PV} {x1 : PV} (e0 : TopFits true [(.int .i64), (.int .i64), (.int .i64), .bool] x0) (e1 : TopFits true [(.int .i64), (.int .i64), (.int .i64), .bool] x1) : FunEq Try.prog (fun _ => none) 17 [x0, x1] (.bool true) := by
  obtain ⟨ys0, rfl, t0⟩ := e0
  obtain ⟨y0, zs0, rfl, f0, t1⟩ := TS.cons_inv t0
  obtain ⟨n0, rfl, w0⟩ := fits_int f0
  obtain ⟨y1, zs1, rfl, f1, t2⟩ := TS.cons_inv t1
  obtain ⟨n1, rfl, w1⟩ := fits_int f1
  obtain ⟨y2, zs2, rfl, f2, t3⟩ := TS.cons_inv t2
  obtain ⟨n2, rfl, w2⟩ := fits_int f2
  obtain ⟨y3, zs3, rfl, f3, t4⟩ := TS.cons_inv t3
  obtain ⟨b3, rfl⟩ := fits_bool f3
  obtain rfl := TS.nil_inv t4
  obtain ⟨ys1, rfl, t5⟩ := e1
  obtain ⟨y5, zs5, rfl, f5, t6⟩ := TS.cons_inv t5
  obtain ⟨n5, rfl, w5⟩ := fits_int f5
  obtain ⟨y6, zs6, rfl, f6, t7⟩ := TS.cons_inv t6
  obtain ⟨n6, rfl, w6⟩ := fits_int f6
  obtain ⟨y7, zs7, rfl, f7, t8⟩ := TS.cons_inv t7
  obtain ⟨n7, rfl, w7⟩ := fits_int f7
  obtain ⟨y8, zs8, rfl, f8, t9⟩ := TS.cons_inv t8
  obtain ⟨b8, rfl⟩ := fits_bool f8
  obtain rfl := TS.nil_inv t9
  exact ok_coupletlaw03_EnvDoes n0 n1 n2 b3 n5 n6 n7 b8 true (law_EnvDoes w0 w1 w2 w5 w6 w7)

theorem envDoes_lifted (os : Os) (started : os.Started) (H : Type) (enc : TypeId × Value → H) :
    ReturnsInHanded {} Try.checked os 17 .any (Rows.envDoesSpec.pre6 enc Try.prog Try.f17 Rows.envDoesRow.domain false) (Rows.envDoesSpec.post enc Try.prog Try.f17 false true false false) := by
  refine returnsInHanded_of_change (C := Try.checked) Try.own started (by kernel_rfl) Try.func17
    (ChangeSpec.witness6 (enc := enc) (C := Try.checked) false ⟨#[], #[.agg #[.int .i64 0, .int .i64 0, .int .i64 0, .bool false], .agg #[.int .i64 0, .int .i64 0, .int .i64 0, .bool false]], []⟩ 8 (by kernel_rfl) (by kernel_rfl) (by kernel_rfl) (by kernel_rfl)) ?_
  intro W base args ds gs before hval0 hW hcnd _
  have hval : ∀ (j : Nat) t v, Try.f17.params[j]? = some t → args[j]? = some v → Value.okWide Try.prog W .any base t v := hval0
  have hW' := hW
  obtain ⟨p, q, hA0, hV, rfl, hfz, hnd⟩ := hW
  have hA : DataW.TrodAll enc Try.prog W 0 (fun _ => true) true Try.f17.params.toList args.toList ds p := hA0
  rw [Try.params17] at hA hval
  obtain ⟨v0, v1, d0, d1, p0, p1, rfl, rfl, rfl, h0, h1⟩ := trodAll_two hA
  obtain ⟨rfl, rfl⟩ := trodVars_none hV
  obtain ⟨x0, e0, r0⟩ := open_arg (n := 8) (agg := true) (ts := [(.int .i64), (.int .i64), (.int .i64), .bool]) (by kernel_rfl) (by kernel_rfl) (hval 0 36 v0 rfl rfl) h0
  obtain ⟨x1, e1, r1⟩ := open_arg (n := 8) (agg := true) (ts := [(.int .i64), (.int .i64), (.int .i64), .bool]) (by kernel_rfl) (by kernel_rfl) (hval 1 36 v1 rfl rfl) h1
  clear hA0 hval0
  simp only [List.append_nil] at hW'
  refine (funEq_true (envDoes_con e0 e1) W (vs := [v0, v1]) ⟨_, _, rfl, r0, ⟨_, _, rfl, r1, rfl⟩⟩).mono fun e W' ⟨he, hl⟩ => ?_
  subst he
  exact ⟨_, rfl, post_of_left (pa := (p0 ++ p1)) (pv := []) hW' (fun _ _ _ => trodAll_mk1 (shut_bool Try.underlying4 true)) (fun sp hs => (trodAll_mk2 (trod_left Try.laidOut (by kernel_rfl) (of_decide_eq_true (by kernel_rfl)) h0 hl (fun x hx => hW'.lt x (by simp [hx])) (fun x hx => hs x (by simp [hx]))) (trod_left Try.laidOut (by kernel_rfl) (of_decide_eq_true (by kernel_rfl)) h1 hl (fun x hx => hW'.lt x (by simp [hx])) (fun x hx => hs x (by simp [hx]))))) (fun _ _ => rfl) (by simp) hl (ok_one (by kernel_rfl) rfl (okWide_bool_mk Try.underlying4 true))⟩

theorem envDoes_k1 : Try.pinned.checked.prog.funcNamed Rows.envDoesRow.func = some 17 := by kernel_rfl
theorem envDoes_k3 : Try.f17.isInstance Try.pinned.checked.prog Rows.envDoesRow.origin Rows.envDoesRow.targs := of_decide_eq_true (by kernel_rfl)
theorem envDoes_k4 : Try.f17.isWrapper Try.pinned.checked.prog Rows.envDoesRow.wrapper Rows.envDoesRow.mainSum := by unfold Func.isWrapper; rw [if_neg (by decide +kernel)]; exact ⟨rfl, rfl⟩

/-- The law EnvDoes, for every input. -/
theorem envDoes_holds : Rows.EnvDoesSaid :=
  OpenClaim.holds_of_wide 17 Try.f17 rfl rfl rfl rfl rfl rfl rfl ⟨rfl, rfl, rfl, rfl, rfl⟩ rfl rfl rfl rfl rfl envDoes_k1 Try.func17 envDoes_k2 envDoes_k3 envDoes_k4
    (fun os started H enc _ => envDoes_lifted os started H enc)

end Go.Proofs.Ytbfhholefjngpaa
