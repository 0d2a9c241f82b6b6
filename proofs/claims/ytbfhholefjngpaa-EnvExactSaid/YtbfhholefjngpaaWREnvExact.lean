/-
  The law EnvExact returns true for every input, and what it reads is as it was. No conditions.
-/
import Derived.Test.YtbfhholefjngpaaRows
import Derived.ProofKit
import Derived.Test.YtbfhholefjngpaaWGlue
import Derived.Test.YtbfhholefjngpaaWE8
set_option linter.unusedSimpArgs false
set_option linter.unusedVariables false
set_option maxRecDepth 100000
namespace Go.Proofs.Ytbfhholefjngpaa
open Go Go.Fx Go.ChangeShapes Go.WideShapes Go.ChangeAt Go.RowKit Go.Proofs

theorem Try.own : ownKnob Try.prog.godebug = none := by kernel_rfl

theorem envExact_lifted (os : Os) (started : os.Started) (H : Type) (enc : TypeId × Value → H) :
    ReturnsInHanded {} Try.checked os 13 .any (Rows.envExactSpec.pre6 enc Try.prog Try.f13 Rows.envExactRow.domain false) (Rows.envExactSpec.post enc Try.prog Try.f13 false true false false) := by
  refine returnsInHanded_of_change (C := Try.checked) Try.own started (by kernel_rfl) Try.func13
    (ChangeSpec.witness6 (enc := enc) (C := Try.checked) false ⟨#[], #[.int .i64 0, .int .i64 0], []⟩ 8 (by kernel_rfl) (by kernel_rfl) (by kernel_rfl) (by kernel_rfl)) ?_
  intro W base args ds gs before hval0 hW hcnd _
  have hval : ∀ (j : Nat) t v, Try.f13.params[j]? = some t → args[j]? = some v → Value.okWide Try.prog W .any base t v := hval0
  have hW' := hW
  obtain ⟨p, q, hA0, hV, rfl, hfz, hnd⟩ := hW
  have hA : DataW.TrodAll enc Try.prog W 0 (fun _ => true) true Try.f13.params.toList args.toList ds p := hA0
  rw [Try.params13] at hA hval
  obtain ⟨v0, v1, d0, d1, p0, p1, rfl, rfl, rfl, h0, h1⟩ := trodAll_two hA
  obtain ⟨rfl, rfl⟩ := trodVars_none hV
  obtain ⟨n0, rfl, rfl, rfl, w0⟩ := open_int Try.underlying3 (hval 0 3 v0 rfl rfl) h0
  obtain ⟨n1, rfl, rfl, rfl, w1⟩ := open_int Try.underlying3 (hval 1 3 v1 rfl rfl) h1
  have z0 : i64 n0 := by simp only [Lit.wf, Bool.and_eq_true, decide_eq_true_eq] at w0; exact ⟨w0.1, w0.2⟩
  have z1 : i64 n1 := by simp only [Lit.wf, Bool.and_eq_true, decide_eq_true_eq] at w1; exact ⟨w1.1, w1.2⟩
  clear hA0 hval0
  simp only [List.append_nil] at hW'
  refine (funEq_true (fn_EnvExact (fun _ => none) n0 n1 z0 z1) W (vs := [.int .i64 n0, .int .i64 n1]) (by simp [PV.relL, PV.rel])).mono fun e W' ⟨he, hl⟩ => ?_
  subst he
  exact ⟨_, rfl, post_of_left (pa := []) (pv := []) hW' (fun _ _ _ => trodAll_mk1 (shut_bool Try.underlying4 true)) (fun sp _ => trodAll_mk2 (shut_int Try.underlying3 w0) (shut_int Try.underlying3 w1)) (fun _ _ => rfl) rfl hl (ok_one (by kernel_rfl) rfl (okWide_bool_mk Try.underlying4 true))⟩

theorem envExact_k1 : Try.pinned.checked.prog.funcNamed Rows.envExactRow.func = some 13 := by kernel_rfl
theorem envExact_k2 : joinedFacts Try.pinned.checked.prog 13 Try.f13 Rows.envExactSpec Rows.envExactRow = true := by kernel_rfl
theorem envExact_k3 : Try.f13.isInstance Try.pinned.checked.prog Rows.envExactRow.origin Rows.envExactRow.targs := of_decide_eq_true (by kernel_rfl)
theorem envExact_k4 : Try.f13.isWrapper Try.pinned.checked.prog Rows.envExactRow.wrapper Rows.envExactRow.mainSum := by unfold Func.isWrapper; rw [if_neg (by decide +kernel)]; exact ⟨rfl, rfl⟩

/-- The law EnvExact, for every input. -/
theorem envExact_holds : Rows.EnvExactSaid :=
  OpenClaim.holds_of_wide 13 Try.f13 rfl rfl rfl rfl rfl rfl rfl ⟨rfl, rfl, rfl, rfl, rfl⟩ rfl rfl rfl rfl rfl envExact_k1 Try.func13 envExact_k2 envExact_k3 envExact_k4
    (fun os started H enc _ => envExact_lifted os started H enc)

end Go.Proofs.Ytbfhholefjngpaa
