/-
  The law VecSteps returns true for every input, and what it reads is as it was. No conditions.
-/
import Derived.Test.YtbfhholefjngpaaRows
import Derived.Test.YtbfhholefjngpaaFxRow
import Derived.Test.YtbfhholefjngpaaWLV4
import Derived.Test.YtbfhholefjngpaaWKVecSteps
set_option linter.unusedSimpArgs false
set_option linter.unusedVariables false
set_option maxRecDepth 100000
namespace Go.Proofs.Ytbfhholefjngpaa
open Go Go.Fx Go.ChangeShapes Go.WideShapes Go.ChangeAt Go.RowKit Go.Proofs
theorem Try.own : ownKnob Try.prog.godebug = none := by kernel_rfl
theorem Try.laidOut : laidOutB Try.prog = true := by kernel_rfl
theorem vecSteps_con {x0 : PV} {x1 : PV} (e0 : TopFits false [(.sl true 4 [(.int .i64), (.int .i64), (.int .i64), .bool])] x0) (e1 : TopFits false [(.sl true 4 [(.int .i64), (.int .i64), (.int .i64), .bool])] x1) : FunEq Try.prog (fun _ => none) 14 [x0, x1] (.bool true) := by
  obtain ⟨ys0, rfl, t0⟩ := e0
  obtain ⟨y0, zs0, rfl, f0, t1⟩ := TS.cons_inv t0
  obtain ⟨b0, d0, l0, rfl, w0, g0, c0⟩ := fits_sl f0
  obtain rfl := TS.nil_inv t1
  obtain ⟨ys1, rfl, t2⟩ := e1
  obtain ⟨y2, zs2, rfl, f2, t3⟩ := TS.cons_inv t2
  obtain ⟨b2, d2, l2, rfl, w2, g2, c2⟩ := fits_sl f2
  obtain rfl := TS.nil_inv t3
  exact ok_coupletlaw05_VecSteps b0 d0 l0 b2 d2 l2 true (law_VecSteps w0 g0 c0 w2 g2 c2)
theorem vecSteps_lifted (os : Os) (started : os.Started) (H : Type) (enc : TypeId × Value → H) :
    ReturnsInHanded {} Try.checked os 14 .any (Rows.vecStepsSpec.pre6 enc Try.prog Try.f14 Rows.vecStepsRow.domain false) (Rows.vecStepsSpec.post enc Try.prog Try.f14 false true false false) := by
  refine returnsInHanded_of_change (C := Try.checked) Try.own started (by kernel_rfl) Try.func14
    (ChangeSpec.witness6 (enc := enc) (C := Try.checked) false ⟨#[], #[.slice none 0 0, .slice none 0 0], []⟩ 8 (by kernel_rfl) (by kernel_rfl) (by kernel_rfl) (by kernel_rfl)) ?_
  intro W base args ds gs before hval0 hW hcnd _
  have hval : ∀ (j : Nat) t v, Try.f14.params[j]? = some t → args[j]? = some v → Value.okWide Try.prog W .any base t v := hval0
  have hW' := hW
  obtain ⟨p, q, hA0, hV, rfl, hfz, hnd⟩ := hW
  have hA : DataW.TrodAll enc Try.prog W 0 (fun _ => true) true Try.f14.params.toList args.toList ds p := hA0
  rw [Try.params14] at hA hval
  obtain ⟨v0, v1, d0, d1, p0, p1, rfl, rfl, rfl, h0, h1⟩ := trodAll_two hA
  obtain ⟨rfl, rfl⟩ := trodVars_none hV
  obtain ⟨x0, e0, r0⟩ := open_arg (n := 8) (agg := false) (ts := [(.sl true 4 [(.int .i64), (.int .i64), (.int .i64), .bool])]) (by kernel_rfl) (by kernel_rfl) (hval 0 47 v0 rfl rfl) h0
  obtain ⟨x1, e1, r1⟩ := open_arg (n := 8) (agg := false) (ts := [(.sl true 4 [(.int .i64), (.int .i64), (.int .i64), .bool])]) (by kernel_rfl) (by kernel_rfl) (hval 1 47 v1 rfl rfl) h1
  clear hA0 hval0
  simp only [List.append_nil] at hW'
  refine (funEq_true (vecSteps_con e0 e1) W (vs := [v0, v1]) ⟨_, _, rfl, r0, ⟨_, _, rfl, r1, rfl⟩⟩).mono fun e W' ⟨he, hl⟩ => ?_
  subst he
  exact ⟨_, rfl, post_of_left (pa := (p0 ++ p1)) (pv := []) hW' (fun _ _ _ => trodAll_mk1 (shut_bool Try.underlying4 true)) (fun sp hs => (trodAll_mk2 (trod_left Try.laidOut (by kernel_rfl) (of_decide_eq_true (by kernel_rfl)) h0 hl (fun x hx => hW'.lt x (by simp [hx])) (fun x hx => hs x (by simp [hx]))) (trod_left Try.laidOut (by kernel_rfl) (of_decide_eq_true (by kernel_rfl)) h1 hl (fun x hx => hW'.lt x (by simp [hx])) (fun x hx => hs x (by simp [hx]))))) (fun _ _ => rfl) (by simp) hl (ok_one (by kernel_rfl) rfl (okWide_bool_mk Try.underlying4 true))⟩
theorem vecSteps_k1 : Try.pinned.checked.prog.funcNamed Rows.vecStepsRow.func = some 14 := by kernel_rfl
theorem vecSteps_k3 : Try.f14.isInstance Try.pinned.checked.prog Rows.vecStepsRow.origin Rows.vecStepsRow.targs := of_decide_eq_true (by kernel_rfl)
theorem vecSteps_k4 : Try.f14.isWrapper Try.pinned.checked.prog Rows.vecStepsRow.wrapper Rows.vecStepsRow.mainSum := by unfold Func.isWrapper; rw [if_neg (by decide +kernel)]; exact ⟨rfl, rfl⟩
theorem vecSteps_holds : Rows.VecStepsSaid :=
  OpenClaim.holds_of_wide 14 Try.f14 rfl rfl rfl rfl rfl rfl rfl ⟨rfl, rfl, rfl, rfl, rfl⟩ rfl rfl rfl rfl rfl vecSteps_k1 Try.func14 vecSteps_k2 vecSteps_k3 vecSteps_k4
    (fun os started H enc _ => vecSteps_lifted os started H enc)
end Go.Proofs.Ytbfhholefjngpaa
