/-
  The law CheckParts returns true for every input, and what it reads is as it was. No conditions.
-/
import Derived.Test.YtjpfdipoijehcaaRows
import Derived.Test.YtjpfdipoijehcaaFxRow
import Derived.Test.YtjpfdipoijehcaaWLA3
set_option linter.unusedSimpArgs false
set_option linter.unusedVariables false
set_option maxRecDepth 100000
namespace Go.Proofs.Ytjpfdipoijehcaa
open Go Go.Fx Go.ChangeShapes Go.WideShapes Go.ChangeAt Go.RowKit Go.Proofs

theorem Try.own : ownKnob Try.prog.godebug = none := by kernel_rfl
theorem Try.laidOut : laidOutB Try.prog = true := by kernel_rfl

theorem checkParts_con {x0 : PV} (e0 : TopFits true [(.int .i64), (.int .i64), (.int .i64), (.isl .i64)] x0) : FunEq Try.prog (fun _ => none) 4 [x0] (.bool true) := by
  obtain ⟨ys0, rfl, t0⟩ := e0
  obtain ⟨y0, zs0, rfl, f0, t1⟩ := TS.cons_inv t0
  obtain ⟨n0, rfl, w0⟩ := fits_int f0
  obtain ⟨y1, zs1, rfl, f1, t2⟩ := TS.cons_inv t1
  obtain ⟨n1, rfl, w1⟩ := fits_int f1
  obtain ⟨y2, zs2, rfl, f2, t3⟩ := TS.cons_inv t2
  obtain ⟨n2, rfl, w2⟩ := fits_int f2
  obtain ⟨y3, zs3, rfl, f3, t4⟩ := TS.cons_inv t3
  obtain ⟨b3, d3, l3, rfl, w3, c3, g3⟩ := fits_isl f3
  obtain rfl := TS.nil_inv t4
  exact ok_coupletlaw14_CheckParts n0 n1 n2 b3 d3 l3 true (law_CheckParts w0 w1 w2 w3 c3 g3)

theorem checkParts_lifted (os : Os) (started : os.Started) (H : Type) (enc : TypeId × Value → H) :
    ReturnsInHanded {} Try.checked os 4 .any (Rows.checkPartsSpec.pre6 enc Try.prog Try.f4 Rows.checkPartsRow.domain false) (Rows.checkPartsSpec.post enc Try.prog Try.f4 false true false false) := by
  refine returnsInHanded_of_change (C := Try.checked) Try.own started (by kernel_rfl) Try.func4
    (ChangeSpec.witness6 (enc := enc) (C := Try.checked) false ⟨#[], #[.agg #[.int .i64 0, .int .i64 0, .int .i64 0, .slice none 0 0]], []⟩ 8 (by kernel_rfl) (by kernel_rfl) (by kernel_rfl) (by kernel_rfl)) ?_
  intro W base args ds gs before hval0 hW hcnd _
  have hval : ∀ (j : Nat) t v, Try.f4.params[j]? = some t → args[j]? = some v → Value.okWide Try.prog W .any base t v := hval0
  have hW' := hW
  obtain ⟨p, q, hA0, hV, rfl, hfz, hnd⟩ := hW
  have hA : DataW.TrodAll enc Try.prog W 0 (fun _ => true) true Try.f4.params.toList args.toList ds p := hA0
  rw [Try.params4] at hA hval
  obtain ⟨v0, d0, rfl, rfl, h0⟩ := trodAll_one hA
  obtain ⟨rfl, rfl⟩ := trodVars_none hV
  obtain ⟨x0, e0, r0⟩ := open_arg (n := 8) (agg := true) (ts := [(.int .i64), (.int .i64), (.int .i64), (.isl .i64)]) (by kernel_rfl) (by kernel_rfl) (hval 0 24 v0 rfl rfl) h0
  clear hA0 hval0
  simp only [List.append_nil] at hW'
  refine (funEq_true (checkParts_con e0) W (vs := [v0]) ⟨_, _, rfl, r0, rfl⟩).mono fun e W' ⟨he, hl⟩ => ?_
  subst he
  exact ⟨_, rfl, post_of_left (pa := p) (pv := []) hW' (fun _ _ _ => trodAll_mk1 (shut_bool Try.underlying4 true)) (fun sp hs => (trodAll_mk1 (trod_left Try.laidOut (by kernel_rfl) (of_decide_eq_true (by kernel_rfl)) h0 hl (fun x hx => hW'.lt x (by simp [hx])) (fun x hx => hs x (by simp [hx]))))) (fun _ _ => rfl) (by simp) hl (ok_one (by kernel_rfl) rfl (okWide_bool_mk Try.underlying4 true))⟩

theorem checkParts_k1 : Try.pinned.checked.prog.funcNamed Rows.checkPartsRow.func = some 4 := by kernel_rfl
theorem checkParts_k2 : joinedFacts Try.pinned.checked.prog 4 Try.f4 Rows.checkPartsSpec Rows.checkPartsRow = true := by kernel_rfl
theorem checkParts_k3 : Try.f4.isInstance Try.pinned.checked.prog Rows.checkPartsRow.origin Rows.checkPartsRow.targs := of_decide_eq_true (by kernel_rfl)
theorem checkParts_k4 : Try.f4.isWrapper Try.pinned.checked.prog Rows.checkPartsRow.wrapper Rows.checkPartsRow.mainSum := by unfold Func.isWrapper; rw [if_neg (by decide +kernel)]; exact ⟨rfl, rfl⟩

/-- The law CheckParts, for every input. -/
theorem checkParts_holds : Rows.CheckPartsSaid :=
  OpenClaim.holds_of_wide 4 Try.f4 rfl rfl rfl rfl rfl rfl rfl ⟨rfl, rfl, rfl, rfl, rfl⟩ rfl rfl rfl rfl rfl checkParts_k1 Try.func4 checkParts_k2 checkParts_k3 checkParts_k4
    (fun os started H enc _ => checkParts_lifted os started H enc)

end Go.Proofs.Ytjpfdipoijehcaa
