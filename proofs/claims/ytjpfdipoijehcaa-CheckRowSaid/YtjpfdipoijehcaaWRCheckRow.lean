/-
  The law CheckRow returns true for every input, and what it reads is as it was. No conditions.
-/
import Derived.Test.YtjpfdipoijehcaaRows
import Derived.Test.YtjpfdipoijehcaaFxRow
import Derived.Test.YtjpfdipoijehcaaWLA3
set_option linter.unusedSimpArgs false
set_option linter.unusedVariables false
set_option maxRecDepth 100000
namespace Go.Proofs.Ytjpfdipoijehcaa
open Go Go.Fx Go.ChangeShapes Go.WideShapes Go.ChangeAt Go.RowKit Go.Proofs

theorem Try.own : ownKnob Try.prog.godebug = none := by kernel_rfl
theorem Try.laidOut : laidOutB Try.prog = true := by kernel_rfl

theorem checkRow_con {x0 : PV} (e0 : TopFits false [(.sl true 4 [(.int .i64), (.int .i64), (.int .i64), (.isl .i64)])] x0) : FunEq Try.prog (fun _ => none) 8 [x0] (.bool true) := by
  obtain ⟨ys0, rfl, t0⟩ := e0
  obtain ⟨y0, zs0, rfl, f0, t1⟩ := TS.cons_inv t0
  obtain ⟨b0, d0, l0, rfl, w0, g0, c0⟩ := fits_sl f0
  obtain rfl := TS.nil_inv t1
  exact ok_coupletlaw14_CheckRow b0 d0 l0 true (law_CheckRow w0 g0 c0)

theorem checkRow_lifted (os : Os) (started : os.Started) (H : Type) (enc : TypeId × Value → H) :
    ReturnsInHanded {} Try.checked os 8 .any (Rows.checkRowSpec.pre6 enc Try.prog Try.f8 Rows.checkRowRow.domain false) (Rows.checkRowSpec.post enc Try.prog Try.f8 false true false false) := by
  refine returnsInHanded_of_change (C := Try.checked) Try.own started (by kernel_rfl) Try.func8
    (ChangeSpec.witness6 (enc := enc) (C := Try.checked) false ⟨#[], #[.slice none 0 0], []⟩ 8 (by kernel_rfl) (by kernel_rfl) (by kernel_rfl) (by kernel_rfl)) ?_
  intro W base args ds gs before hval0 hW hcnd _
  have hval : ∀ (j : Nat) t v, Try.f8.params[j]? = some t → args[j]? = some v → Value.okWide Try.prog W .any base t v := hval0
  have hW' := hW
  obtain ⟨p, q, hA0, hV, rfl, hfz, hnd⟩ := hW
  have hA : DataW.TrodAll enc Try.prog W 0 (fun _ => true) true Try.f8.params.toList args.toList ds p := hA0
  rw [Try.params8] at hA hval
  obtain ⟨v0, d0, rfl, rfl, h0⟩ := trodAll_one hA
  obtain ⟨rfl, rfl⟩ := trodVars_none hV
  obtain ⟨x0, e0, r0⟩ := open_arg (n := 8) (agg := false) (ts := [(.sl true 4 [(.int .i64), (.int .i64), (.int .i64), (.isl .i64)])]) (by kernel_rfl) (by kernel_rfl) (hval 0 42 v0 rfl rfl) h0
  clear hA0 hval0
  simp only [List.append_nil] at hW'
  refine (funEq_true (checkRow_con e0) W (vs := [v0]) ⟨_, _, rfl, r0, rfl⟩).mono fun e W' ⟨he, hl⟩ => ?_
  subst he
  exact ⟨_, rfl, post_of_left (pa := p) (pv := []) hW' (fun _ _ _ => trodAll_mk1 (shut_bool Try.underlying4 true)) (fun sp hs => (trodAll_mk1 (trod_left Try.laidOut (by kernel_rfl) (of_decide_eq_true (by kernel_rfl)) h0 hl (fun x hx => hW'.lt x (by simp [hx])) (fun x hx => hs x (by simp [hx]))))) (fun _ _ => rfl) (by simp) hl (ok_one (by kernel_rfl) rfl (okWide_bool_mk Try.underlying4 true))⟩

theorem checkRow_k1 : Try.pinned.checked.prog.funcNamed Rows.checkRowRow.func = some 8 := by kernel_rfl
theorem checkRow_k2 : joinedFacts Try.pinned.checked.prog 8 Try.f8 Rows.checkRowSpec Rows.checkRowRow = true := by kernel_rfl
theorem checkRow_k3 : Try.f8.isInstance Try.pinned.checked.prog Rows.checkRowRow.origin Rows.checkRowRow.targs := of_decide_eq_true (by kernel_rfl)
theorem checkRow_k4 : Try.f8.isWrapper Try.pinned.checked.prog Rows.checkRowRow.wrapper Rows.checkRowRow.mainSum := by unfold Func.isWrapper; rw [if_neg (by decide +kernel)]; exact ⟨rfl, rfl⟩

/-- The law CheckRow, for every input. -/
theorem checkRow_holds : Rows.CheckRowSaid :=
  OpenClaim.holds_of_wide 8 Try.f8 rfl rfl rfl rfl rfl rfl rfl ⟨rfl, rfl, rfl, rfl, rfl⟩ rfl rfl rfl rfl rfl checkRow_k1 Try.func8 checkRow_k2 checkRow_k3 checkRow_k4
    (fun os started H enc _ => checkRow_lifted os started H enc)

end Go.Proofs.Ytjpfdipoijehcaa
