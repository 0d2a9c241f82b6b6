/-
  The law CheckOnce returns true for every input, and what it reads is as it was. No conditions.
-/
import Derived.Test.YtjpfdipoijehcaaRows
import Derived.Test.YtjpfdipoijehcaaFxRow
import Derived.Test.YtjpfdipoijehcaaWLA2
set_option linter.unusedSimpArgs false
set_option linter.unusedVariables false
set_option maxRecDepth 100000
namespace Go.Proofs.Ytjpfdipoijehcaa
open Go Go.Fx Go.ChangeShapes Go.WideShapes Go.ChangeAt Go.RowKit Go.Proofs

theorem Try.own : ownKnob Try.prog.godebug = none := by kernel_rfl
theorem Try.laidOut : laidOutB Try.prog = true := by kernel_rfl

theorem checkOnce_con {x0 : PV} {x1 : PV} {x2 : PV} (e0 : TopFits true [.bool, (.int .i64), (.int .i64)] x0) (e1 : TopFits true [(.int .i64), (.int .i64), (.int .i64), (.isl .i64)] x1) (e2 : TopFits true [(.int .i64), (.int .i64), (.int .i64), (.isl .i64)] x2) : FunEq Try.prog (fun _ => none) 6 [x0, x1, x2] (.bool true) := by
  obtain ⟨ys0, rfl, t0⟩ := e0
  obtain ⟨y0, zs0, rfl, f0, t1⟩ := TS.cons_inv t0
  obtain ⟨b0, rfl⟩ := fits_bool f0
  obtain ⟨y1, zs1, rfl, f1, t2⟩ := TS.cons_inv t1
  obtain ⟨n1, rfl, w1⟩ := fits_int f1
  obtain ⟨y2, zs2, rfl, f2, t3⟩ := TS.cons_inv t2
  obtain ⟨n2, rfl, w2⟩ := fits_int f2
  obtain rfl := TS.nil_inv t3
  obtain ⟨ys1, rfl, t4⟩ := e1
  obtain ⟨y4, zs4, rfl, f4, t5⟩ := TS.cons_inv t4
  obtain ⟨n4, rfl, w4⟩ := fits_int f4
  obtain ⟨y5, zs5, rfl, f5, t6⟩ := TS.cons_inv t5
  obtain ⟨n5, rfl, w5⟩ := fits_int f5
  obtain ⟨y6, zs6, rfl, f6, t7⟩ := TS.cons_inv t6
  obtain ⟨n6, rfl, w6⟩ := fits_int f6
  obtain ⟨y7, zs7, rfl, f7, t8⟩ := TS.cons_inv t7
  obtain ⟨b7, d7, l7, rfl, w7, c7, g7⟩ := fits_isl f7
  obtain rfl := TS.nil_inv t8
  obtain ⟨ys2, rfl, t9⟩ := e2
  obtain ⟨y9, zs9, rfl, f9, t10⟩ := TS.cons_inv t9
  obtain ⟨n9, rfl, w9⟩ := fits_int f9
  obtain ⟨y10, zs10, rfl, f10, t11⟩ := TS.cons_inv t10
  obtain ⟨n10, rfl, w10⟩ := fits_int f10
  obtain ⟨y11, zs11, rfl, f11, t12⟩ := TS.cons_inv t11
  obtain ⟨n11, rfl, w11⟩ := fits_int f11
  obtain ⟨y12, zs12, rfl, f12, t13⟩ := TS.cons_inv t12
  obtain ⟨b12, d12, l12, rfl, w12, c12, g12⟩ := fits_isl f12
  obtain rfl := TS.nil_inv t13
  exact ok_coupletlaw14_CheckOnce b0 n1 n2 n4 n5 n6 b7 d7 l7 n9 n10 n11 b12 d12 l12 true (law_CheckOnce w1 w2 w4 w5 w6 w7 c7 g7 w9 w10 w11 w12 c12 g12)

theorem checkOnce_lifted (os : Os) (started : os.Started) (H : Type) (enc : TypeId × Value → H) :
    ReturnsInHanded {} Try.checked os 6 .any (Rows.checkOnceSpec.pre6 enc Try.prog Try.f6 Rows.checkOnceRow.domain false) (Rows.checkOnceSpec.post enc Try.prog Try.f6 false true false false) := by
  refine returnsInHanded_of_change (C := Try.checked) Try.own started (by kernel_rfl) Try.func6
    (ChangeSpec.witness6 (enc := enc) (C := Try.checked) false ⟨#[], #[.agg #[.bool false, .int .i64 0, .int .i64 0], .agg #[.int .i64 0, .int .i64 0, .int .i64 0, .slice none 0 0], .agg #[.int .i64 0, .int .i64 0, .int .i64 0, .slice none 0 0]], []⟩ 8 (by kernel_rfl) (by kernel_rfl) (by kernel_rfl) (by kernel_rfl)) ?_
  intro W base args ds gs before hval0 hW hcnd _
  have hval : ∀ (j : Nat) t v, Try.f6.params[j]? = some t → args[j]? = some v → Value.okWide Try.prog W .any base t v := hval0
  have hW' := hW
  obtain ⟨p, q, hA0, hV, rfl, hfz, hnd⟩ := hW
  have hA : DataW.TrodAll enc Try.prog W 0 (fun _ => true) true Try.f6.params.toList args.toList ds p := hA0
  rw [Try.params6] at hA hval
  obtain ⟨v0, v1, v2, d0, d1, d2, p0, p1, p2, rfl, rfl, rfl, h0, h1, h2⟩ := trodAll_three hA
  obtain ⟨rfl, rfl⟩ := trodVars_none hV
  obtain ⟨x0, e0, r0⟩ := open_arg (n := 8) (agg := true) (ts := [.bool, (.int .i64), (.int .i64)]) (by kernel_rfl) (by kernel_rfl) (hval 0 36 v0 rfl rfl) h0
  obtain ⟨x1, e1, r1⟩ := open_arg (n := 8) (agg := true) (ts := [(.int .i64), (.int .i64), (.int .i64), (.isl .i64)]) (by kernel_rfl) (by kernel_rfl) (hval 1 24 v1 rfl rfl) h1
  obtain ⟨x2, e2, r2⟩ := open_arg (n := 8) (agg := true) (ts := [(.int .i64), (.int .i64), (.int .i64), (.isl .i64)]) (by kernel_rfl) (by kernel_rfl) (hval 2 24 v2 rfl rfl) h2
  clear hA0 hval0
  simp only [List.append_nil] at hW'
  refine (funEq_true (checkOnce_con e0 e1 e2) W (vs := [v0, v1, v2]) ⟨_, _, rfl, r0, ⟨_, _, rfl, r1, ⟨_, _, rfl, r2, rfl⟩⟩⟩).mono fun e W' ⟨he, hl⟩ => ?_
  subst he
  exact ⟨_, rfl, post_of_left (pa := (p0 ++ (p1 ++ p2))) (pv := []) hW' (fun _ _ _ => trodAll_mk1 (shut_bool Try.underlying4 true)) (fun sp hs => (trodAll_mk3 (trod_left Try.laidOut (by kernel_rfl) (of_decide_eq_true (by kernel_rfl)) h0 hl (fun x hx => hW'.lt x (by simp [hx])) (fun x hx => hs x (by simp [hx]))) (trod_left Try.laidOut (by kernel_rfl) (of_decide_eq_true (by kernel_rfl)) h1 hl (fun x hx => hW'.lt x (by simp [hx])) (fun x hx => hs x (by simp [hx]))) (trod_left Try.laidOut (by kernel_rfl) (of_decide_eq_true (by kernel_rfl)) h2 hl (fun x hx => hW'.lt x (by simp [hx])) (fun x hx => hs x (by simp [hx]))))) (fun _ _ => rfl) (by simp) hl (ok_one (by kernel_rfl) rfl (okWide_bool_mk Try.underlying4 true))⟩

theorem checkOnce_k1 : Try.pinned.checked.prog.funcNamed Rows.checkOnceRow.func = some 6 := by kernel_rfl
theorem checkOnce_k2 : joinedFacts Try.pinned.checked.prog 6 Try.f6 Rows.checkOnceSpec Rows.checkOnceRow = true := by kernel_rfl
theorem checkOnce_k3 : Try.f6.isInstance Try.pinned.checked.prog Rows.checkOnceRow.origin Rows.checkOnceRow.targs := of_decide_eq_true (by kernel_rfl)
theorem checkOnce_k4 : Try.f6.isWrapper Try.pinned.checked.prog Rows.checkOnceRow.wrapper Rows.checkOnceRow.mainSum := by unfold Func.isWrapper; rw [if_neg (by decide +kernel)]; exact ⟨rfl, rfl⟩

/-- The law CheckOnce, for every input. -/
theorem checkOnce_holds : Rows.CheckOnceSaid :=
  OpenClaim.holds_of_wide 6 Try.f6 rfl rfl rfl rfl rfl rfl rfl ⟨rfl, rfl, rfl, rfl, rfl⟩ rfl rfl rfl rfl rfl checkOnce_k1 Try.func6 checkOnce_k2 checkOnce_k3 checkOnce_k4
    (fun os started H enc _ => checkOnce_lifted os started H enc)

end Go.Proofs.Ytjpfdipoijehcaa
