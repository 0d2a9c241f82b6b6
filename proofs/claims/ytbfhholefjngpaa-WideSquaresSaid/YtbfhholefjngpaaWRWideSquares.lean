/-
  The law WideSquares returns true for every input, and what it reads is as it was. No conditions.
-/
import Derived.Test.YtbfhholefjngpaaRows
import Derived.ProofKit
import Derived.Test.YtbfhholefjngpaaWGlue
import Derived.Test.YtbfhholefjngpaaWC7
set_option linter.unusedSimpArgs false
set_option linter.unusedVariables false
set_option maxRecDepth 100000
namespace Go.Proofs.Ytbfhholefjngpaa
open Go Go.Fx Go.ChangeShapes Go.WideShapes Go.ChangeAt Go.RowKit Go.Proofs

theorem Try.own : ownKnob Try.prog.godebug = none := by kernel_rfl

theorem wideSquares_lifted (os : Os) (started : os.Started) (H : Type) (enc : TypeId × Value → H) :
    ReturnsInHanded {} Try.checked os 10 .any (Rows.wideSquaresSpec.pre6 enc Try.prog Try.f10 Rows.wideSquaresRow.domain false) (Rows.wideSquaresSpec.post enc Try.prog Try.f10 false true false false) := by
  refine returnsInHanded_of_change (C := Try.checked) Try.own started (by kernel_rfl) Try.func10
    (ChangeSpec.witness6 (enc := enc) (C := Try.checked) false ⟨#[], #[.int .i64 0], []⟩ 8 (by kernel_rfl) (by kernel_rfl) (by kernel_rfl) (by kernel_rfl)) ?_
  intro W base args ds gs before hval0 hW hcnd _
  have hval : ∀ (j : Nat) t v, Try.f10.params[j]? = some t → args[j]? = some v → Value.okWide Try.prog W .any base t v := hval0
  have hW' := hW
  obtain ⟨p, q, hA0, hV, rfl, hfz, hnd⟩ := hW
  have hA : DataW.TrodAll enc Try.prog W 0 (fun _ => true) true Try.f10.params.toList args.toList ds p := hA0
  rw [Try.params10] at hA hval
  obtain ⟨v0, d0, rfl, rfl, h0⟩ := trodAll_one hA
  obtain ⟨rfl, rfl⟩ := trodVars_none hV
  obtain ⟨n0, rfl, rfl, rfl, w0⟩ := open_int Try.underlying3 (hval 0 3 v0 rfl rfl) h0
  have z0 : i64 n0 := by simp only [Lit.wf, Bool.and_eq_true, decide_eq_true_eq] at w0; exact ⟨w0.1, w0.2⟩
  clear hA0 hval0
  simp only [List.append_nil] at hW'
  refine (funEq_true (fn_WideSquares (fun _ => none) n0 z0) W (vs := [.int .i64 n0]) (by simp [PV.relL, PV.rel])).mono fun e W' ⟨he, hl⟩ => ?_
  subst he
  exact ⟨_, rfl, post_of_left (pa := []) (pv := []) hW' (fun _ _ _ => trodAll_mk1 (shut_bool Try.underlying4 true)) (fun sp _ => trodAll_mk1 (shut_int Try.underlying3 w0)) (fun _ _ => rfl) rfl hl (ok_one (by kernel_rfl) rfl (okWide_bool_mk Try.underlying4 true))⟩

theorem wideSquares_k1 : Try.pinned.checked.prog.funcNamed Rows.wideSquaresRow.func = some 10 := by kernel_rfl
theorem wideSquares_k2 : joinedFacts Try.pinned.checked.prog 10 Try.f10 Rows.wideSquaresSpec Rows.wideSquaresRow = true := by kernel_rfl
theorem wideSquares_k3 : Try.f10.isInstance Try.pinned.checked.prog Rows.wideSquaresRow.origin Rows.wideSquaresRow.targs := of_decide_eq_true (by kernel_rfl)
theorem wideSquares_k4 : Try.f10.isWrapper Try.pinned.checked.prog Rows.wideSquaresRow.wrapper Rows.wideSquaresRow.mainSum := by unfold Func.isWrapper; rw [if_neg (by decide +kernel)]; exact ⟨rfl, rfl⟩

/-- The law WideSquares, for every input. -/
theorem wideSquares_holds : Rows.WideSquaresSaid :=
  OpenClaim.holds_of_wide 10 Try.f10 rfl rfl rfl rfl rfl rfl rfl ⟨rfl, rfl, rfl, rfl, rfl⟩ rfl rfl rfl rfl rfl wideSquares_k1 Try.func10 wideSquares_k2 wideSquares_k3 wideSquares_k4
    (fun os started H enc _ => wideSquares_lifted os started H enc)

end Go.Proofs.Ytbfhholefjngpaa
