/-
  The law WideDivides returns true for every input, and what it reads is as it was. No conditions.
-/
import Derived.Test.YtbfhholefjngpaaRows
import Derived.ProofKit
import Derived.Test.YtbfhholefjngpaaWGlue
import Derived.Test.YtbfhholefjngpaaWC12
set_option linter.unusedSimpArgs false
set_option linter.unusedVariables false
set_option maxRecDepth 100000
namespace Go.Proofs.Ytbfhholefjngpaa
open Go Go.Fx Go.ChangeShapes Go.WideShapes Go.ChangeAt Go.RowKit Go.Proofs

theorem Try.own : ownKnob Try.prog.godebug = none := by kernel_rfl

theorem wideDivides_lifted (os : Os) (started : os.Started) (H : Type) (enc : TypeId × Value → H) :
    ReturnsInHanded {} Try.checked os 3 .any (Rows.wideDividesSpec.pre6 enc Try.prog Try.f3 Rows.wideDividesRow.domain false) (Rows.wideDividesSpec.post enc Try.prog Try.f3 false true false false) := by
  refine returnsInHanded_of_change (C := Try.checked) Try.own started (by kernel_rfl) Try.func3
    (ChangeSpec.witness6 (enc := enc) (C := Try.checked) false ⟨#[], #[.int .i64 0, .int .i64 0, .int .i64 0, .int .i64 0], []⟩ 8 (by kernel_rfl) (by kernel_rfl) (by kernel_rfl) (by kernel_rfl)) ?_
  intro W base args ds gs before hval0 hW hcnd _
  have hval : ∀ (j : Nat) t v, Try.f3.params[j]? = some t → args[j]? = some v → Value.okWide Try.prog W .any base t v := hval0
  have hW' := hW
  obtain ⟨p, q, hA0, hV, rfl, hfz, hnd⟩ := hW
  have hA : DataW.TrodAll enc Try.prog W 0 (fun _ => true) true Try.f3.params.toList args.toList ds p := hA0
  rw [Try.params3] at hA hval
  obtain ⟨v0, v1, v2, v3, d0, d1, d2, d3, p0, p1, p2, p3, rfl, rfl, rfl, h0, h1, h2, h3⟩ := trodAll_four hA
  obtain ⟨rfl, rfl⟩ := trodVars_none hV
  obtain ⟨n0, rfl, rfl, rfl, w0⟩ := open_int Try.underlying3 (hval 0 3 v0 rfl rfl) h0
  obtain ⟨n1, rfl, rfl, rfl, w1⟩ := open_int Try.underlying3 (hval 1 3 v1 rfl rfl) h1
  obtain ⟨n2, rfl, rfl, rfl, w2⟩ := open_int Try.underlying3 (hval 2 3 v2 rfl rfl) h2
  obtain ⟨n3, rfl, rfl, rfl, w3⟩ := open_int Try.underlying3 (hval 3 3 v3 rfl rfl) h3
  have z0 : i64 n0 := by simp only [Lit.wf, Bool.and_eq_true, decide_eq_true_eq] at w0; exact ⟨w0.1, w0.2⟩
  have z1 : i64 n1 := by simp only [Lit.wf, Bool.and_eq_true, decide_eq_true_eq] at w1; exact ⟨w1.1, w1.2⟩
  have z2 : i64 n2 := by simp only [Lit.wf, Bool.and_eq_true, decide_eq_true_eq] at w2; exact ⟨w2.1, w2.2⟩
  have z3 : i64 n3 := by simp only [Lit.wf, Bool.and_eq_true, decide_eq_true_eq] at w3; exact ⟨w3.1, w3.2⟩
  clear hA0 hval0
  simp only [List.append_nil] at hW'
  refine (funEq_true (fn_WideDivides (fun _ => none) n0 n1 n2 n3 z0 z1 z2 z3) W (vs := [.int .i64 n0, .int .i64 n1, .int .i64 n2, .int .i64 n3]) (by simp [PV.relL, PV.rel])).mono fun e W' ⟨he, hl⟩ => ?_
  subst he
  exact ⟨_, rfl, post_of_left (pa := []) (pv := []) hW' (fun _ _ _ => trodAll_mk1 (shut_bool Try.underlying4 true)) (fun sp _ => trodAll_mk4 (shut_int Try.underlying3 w0) (shut_int Try.underlying3 w1) (shut_int Try.underlying3 w2) (shut_int Try.underlying3 w3)) (fun _ _ => rfl) rfl hl (ok_one (by kernel_rfl) rfl (okWide_bool_mk Try.underlying4 true))⟩

theorem wideDivides_k1 : Try.pinned.checked.prog.funcNamed Rows.wideDividesRow.func = some 3 := by kernel_rfl
theorem wideDivides_k2 : joinedFacts Try.pinned.checked.prog 3 Try.f3 Rows.wideDividesSpec Rows.wideDividesRow = true := by kernel_rfl
theorem wideDivides_k3 : Try.f3.isInstance Try.pinned.checked.prog Rows.wideDividesRow.origin Rows.wideDividesRow.targs := of_decide_eq_true (by kernel_rfl)
theorem wideDivides_k4 : Try.f3.isWrapper Try.pinned.checked.prog Rows.wideDividesRow.wrapper Rows.wideDividesRow.mainSum := by unfold Func.isWrapper; rw [if_neg (by decide +kernel)]; exact ⟨rfl, rfl⟩

/-- The law WideDivides, for every input. -/
theorem wideDivides_holds : Rows.WideDividesSaid :=
  OpenClaim.holds_of_wide 3 Try.f3 rfl rfl rfl rfl rfl rfl rfl ⟨rfl, rfl, rfl, rfl, rfl⟩ rfl rfl rfl rfl rfl wideDivides_k1 Try.func3 wideDivides_k2 wideDivides_k3 wideDivides_k4
    (fun os started H enc _ => wideDivides_lifted os started H enc)

end Go.Proofs.Ytbfhholefjngpaa
