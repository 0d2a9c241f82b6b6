/-
  The law CheckNext returns true for every input, and what it reads is as it was. No conditions.
-/
import Derived.Test.YtjpfdipoijehcaaRows
import Derived.Test.YtjpfdipoijehcaaFxRow
import Derived.Test.YtjpfdipoijehcaaWLA2
set_option linter.unusedSimpArgs false
set_option linter.unusedVariables false
set_option maxRecDepth 100000
namespace Go.Proofs.Ytjpfdipoijehcaa
open Go Go.Fx Go.ChangeShapes Go.WideShapes Go.ChangeAt Go.RowKit Go.Proofs

theorem Try.own : ownKnob Try.prog.godebug = none := by kernel_rfl
theorem Try.laidOut : laidOutB Try.prog = true := by kernel_rfl

theorem checkNext_con {x0 : PV} {x1 : PV} (e0 : TopFits true [.bool, (.int .i64), (.int .i64)] x0) (e1 : TopFits true [(.int .i64), (.int .i64), (.int .i64), (.isl .i64)] x1) : FunEq Try.prog (fun _ => none) 5 [x0, x1] (.bool true) := by
  obtain ⟨ys0, rfl, t0⟩ := e0
  obtain ⟨y0, zs0, rfl, f0, t1⟩ := TS.cons_inv t0
  obtain ⟨b0, rfl⟩ := fits_bool f0
  obtain ⟨y1, zs1, rfl, f1, t2⟩ := TS.cons_inv t1
  obtain ⟨n1, rfl, w1⟩ := fits_int f1
  obtain ⟨y2, zs2, rfl, f2, t3⟩ := TS.cons_inv t2
  obtain ⟨n2, rfl, w2⟩ := fits_int f2
  obtain rfl := TS.nil_inv t3
  obtain ⟨ys1, rfl, t4⟩ := e1
  obtain ⟨y4, zs4, rfl, f4, t5⟩ := TS.cons_inv t4
  obtain ⟨n4, rfl, w4⟩ := fits_int f4
  obtain ⟨y5, zs5, rfl, f5, t6⟩ := TS.cons_inv t5
  obtain ⟨n5, rfl, w5⟩ := fits_int f5
  obtain ⟨y6, zs6, rfl, f6, t7⟩ := TS.cons_inv t6
  obtain ⟨n6, rfl, w6⟩ := fits_int f6
  obtain ⟨y7, zs7, rfl, f7, t8⟩ := TS.cons_inv t7
  obtain ⟨b7, d7, l7, rfl, w7, c7, g7⟩ := fits_isl f7
  obtain rfl := TS.nil_inv t8
  exact ok_coupletlaw14_CheckNext b0 n1 n2 n4 n5 n6 b7 d7 l7 true (law_CheckNext w1 w2 w4 w5 w6 w7 c7 g7)

theorem checkNext_lifted (os : Os) (started : os.Started) (H : Type) (enc : TypeId × Value → H) :
    ReturnsInHanded {} Try.checked os 5 .any (Rows.checkNextSpec.pre6 enc Try.prog Try.f5 Rows.checkNextRow.domain false) (Rows.checkNextSpec.post enc Try.prog Try.f5 false true false false) := by
  refine returnsInHanded_of_change (C := Try.checked) Try.own started (by kernel_rfl) Try.func5
    (ChangeSpec.witness6 (enc := enc) (C := Try.checked) false ⟨#[], #[.agg #[.bool false, .int .i64 0, .int .i64 0], .agg #[.int .i64 0, .int .i64 0, .int .i64 0, .slice none 0 0]], []⟩ 8 (by kernel_rfl) (by kernel_rfl) (by kernel_rfl) (by kernel_rfl)) ?_
  intro W base args ds gs before hval0 hW hcnd _
  have hval : ∀ (j : Nat) t v, Try.f5.params[j]? = some t → args[j]? = some v → Value.okWide Try.prog W .any base t v := hval0
  have hW' := hW
  obtain ⟨p, q, hA0, hV, rfl, hfz, hnd⟩ := hW
  have hA : DataW.TrodAll enc Try.prog W 0 (fun _ => true) true Try.f5.params.toList args.toList ds p := hA0
  rw [Try.params5] at hA hval
  obtain ⟨v0, v1, d0, d1, p0, p1, rfl, rfl, rfl, h0, h1⟩ := trodAll_two hA
  obtain ⟨rfl, rfl⟩ := trodVars_none hV
  obtain ⟨x0, e0, r0⟩ := open_arg (n := 8) (agg := true) (ts := [.bool, (.int .i64), (.int .i64)]) (by kernel_rfl) (by kernel_rfl) (hval 0 36 v0 rfl rfl) h0
  obtain ⟨x1, e1, r1⟩ := open_arg (n := 8) (agg := true) (ts := [(.int .i64), (.int .i64), (.int .i64), (.isl .i64)]) (by kernel_rfl) (by kernel_rfl) (hval 1 24 v1 rfl rfl) h1
  clear hA0 hval0
  simp only [List.append_nil] at hW'
  refine (funEq_true (checkNext_con e0 e1) W (vs := [v0, v1]) ⟨_, _, rfl, r0, ⟨_, _, rfl, r1, rfl⟩⟩).mono fun e W' ⟨he, hl⟩ => ?_
  subst he
  exact ⟨_, rfl, post_of_left (pa := (p0 ++ p1)) (pv := []) hW' (fun _ _ _ => trodAll_mk1 (shut_bool Try.underlying4 true)) (fun sp hs => (trodAll_mk2 (trod_left Try.laidOut (by kernel_rfl) (of_decide_eq_true (by kernel_rfl)) h0 hl (fun x hx => hW'.lt x (by simp [hx])) (fun x hx => hs x (by simp [hx]))) (trod_left Try.laidOut (by kernel_rfl) (of_decide_eq_true (by kernel_rfl)) h1 hl (fun x hx => hW'.lt x (by simp [hx])) (fun x hx => hs x (by simp [hx]))))) (fun _ _ => rfl) (by simp) hl (ok_one (by kernel_rfl) rfl (okWide_bool_mk Try.underlying4 true))⟩

theorem checkNext_k1 : Try.pinned.checked.prog.funcNamed Rows.checkNextRow.func = some 5 := by kernel_rfl
theorem checkNext_k2 : joinedFacts Try.pinned.checked.prog 5 Try.f5 Rows.checkNextSpec Rows.checkNextRow = true := by kernel_rfl
theorem checkNext_k3 : Try.f5.isInstance Try.pinned.checked.prog Rows.checkNextRow.origin Rows.checkNextRow.targs := of_decide_eq_true (by kernel_rfl)
theorem checkNext_k4 : Try.f5.isWrapper Try.pinned.checked.prog Rows.checkNextRow.wrapper Rows.checkNextRow.mainSum := by unfold Func.isWrapper; rw [if_neg (by decide +kernel)]; exact ⟨rfl, rfl⟩

/-- The law CheckNext, for every input. -/
theorem checkNext_holds : Rows.CheckNextSaid :=
  OpenClaim.holds_of_wide 5 Try.f5 rfl rfl rfl rfl rfl rfl rfl ⟨rfl, rfl, rfl, rfl, rfl⟩ rfl rfl rfl rfl rfl checkNext_k1 Try.func5 checkNext_k2 checkNext_k3 checkNext_k4
    (fun os started H enc _ => checkNext_lifted os started H enc)

end Go.Proofs.Ytjpfdipoijehcaa
