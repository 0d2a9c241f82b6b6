/-
  The law EnvFine returns true for every input, and what it reads is as it was. No conditions.
-/
import Derived.Test.YtbfhholefjngpaaRows
import Derived.ProofKit
import Derived.Test.YtbfhholefjngpaaWGlue
import Derived.Test.YtbfhholefjngpaaWGlueN
import Derived.Test.YtbfhholefjngpaaWE10
set_option linter.unusedSimpArgs false
set_option linter.unusedVariables false
set_option maxRecDepth 100000
namespace Go.Proofs.Ytbfhholefjngpaa
open Go Go.Fx Go.ChangeShapes Go.WideShapes Go.ChangeAt Go.RowKit Go.Proofs

theorem Try.own : ownKnob Try.prog.godebug = none := by kernel_rfl

theorem envFine_lifted (os : Os) (started : os.Started) (H : Type) (enc : TypeId × Value → H) :
    ReturnsInHanded {} Try.checked os 18 .any (Rows.envFineSpec.pre6 enc Try.prog Try.f18 Rows.envFineRow.domain false) (Rows.envFineSpec.post enc Try.prog Try.f18 false true false false) := by
  refine returnsInHanded_of_change (C := Try.checked) Try.own started (by kernel_rfl) Try.func18
    (ChangeSpec.witness6 (enc := enc) (C := Try.checked) false ⟨#[], #[.agg #[.int .i64 0, .int .i64 0, .int .i64 0, .bool false], .agg #[.int .i64 0, .int .i64 0, .int .i64 0, .bool false]], []⟩ 8 (by kernel_rfl) (by kernel_rfl) (by kernel_rfl) (by kernel_rfl)) ?_
  intro W base args ds gs before hval0 hW hcnd _
  have hval : ∀ (j : Nat) t v, Try.f18.params[j]? = some t → args[j]? = some v → Value.okWide Try.prog W .any base t v := hval0
  have hW' := hW
  obtain ⟨p, q, hA0, hV, rfl, hfz, hnd⟩ := hW
  have hA : DataW.TrodAll enc Try.prog W 0 (fun _ => true) true Try.f18.params.toList args.toList ds p := hA0
  rw [Try.params18] at hA hval
  obtain ⟨v0, v1, d0, d1, p0, p1, rfl, rfl, rfl, h0, h1⟩ := trodAll_two hA
  obtain ⟨rfl, rfl⟩ := trodVars_none hV
  obtain ⟨n0, rfl, rfl, rfl, w0⟩ := open_num (hval 0 36 v0 rfl rfl) h0
  obtain ⟨n1, rfl, rfl, rfl, w1⟩ := open_num (hval 1 36 v1 rfl rfl) h1
  have z0 : i64N n0 := wf_i64N w0
  have z1 : i64N n1 := wf_i64N w1
  clear hA0 hval0
  simp only [List.append_nil] at hW'
  refine (funEq_true (fn_EnvFine (fun _ => none) n0 n1 z0 z1) W (vs := [n0.val, n1.val]) ⟨_, _, rfl, rel_num _ _, ⟨_, _, rfl, rel_num _ _, rfl⟩⟩).mono fun e W' ⟨he, hl⟩ => ?_
  subst he
  exact ⟨_, rfl, post_of_left (pa := []) (pv := []) hW' (fun _ _ _ => trodAll_mk1 (shut_bool Try.underlying4 true)) (fun sp _ => trodAll_mk2 (shut_num w0) (shut_num w1)) (fun _ _ => rfl) rfl hl (ok_one (by kernel_rfl) rfl (okWide_bool_mk Try.underlying4 true))⟩

theorem envFine_k1 : Try.pinned.checked.prog.funcNamed Rows.envFineRow.func = some 18 := by kernel_rfl
theorem envFine_k2 : joinedFacts Try.pinned.checked.prog 18 Try.f18 Rows.envFineSpec Rows.envFineRow = true := by kernel_rfl
theorem envFine_k3 : Try.f18.isInstance Try.pinned.checked.prog Rows.envFineRow.origin Rows.envFineRow.targs := of_decide_eq_true (by kernel_rfl)
theorem envFine_k4 : Try.f18.isWrapper Try.pinned.checked.prog Rows.envFineRow.wrapper Rows.envFineRow.mainSum := by unfold Func.isWrapper; rw [if_neg (by decide +kernel)]; exact ⟨rfl, rfl⟩

/-- The law EnvFine, for every input. -/
theorem envFine_holds : Rows.EnvFineSaid :=
  OpenClaim.holds_of_wide 18 Try.f18 rfl rfl rfl rfl rfl rfl rfl ⟨rfl, rfl, rfl, rfl, rfl⟩ rfl rfl rfl rfl rfl envFine_k1 Try.func18 envFine_k2 envFine_k3 envFine_k4
    (fun os started H enc _ => envFine_lifted os started H enc)

end Go.Proofs.Ytbfhholefjngpaa
