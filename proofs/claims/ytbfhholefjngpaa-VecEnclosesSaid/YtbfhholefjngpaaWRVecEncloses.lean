/-
  The law VecEncloses returns true for every input, and what it reads is as it was. No conditions.
-/
import Derived.Test.YtbfhholefjngpaaRows
import Derived.Test.YtbfhholefjngpaaFxRow
import Derived.Test.YtbfhholefjngpaaWLV5
import Derived.Test.YtbfhholefjngpaaWKVecEncloses
set_option linter.unusedSimpArgs false
set_option linter.unusedVariables false
set_option maxRecDepth 100000
namespace Go.Proofs.Ytbfhholefjngpaa
open Go Go.Fx Go.ChangeShapes Go.WideShapes Go.ChangeAt Go.RowKit Go.Proofs
theorem Try.own : ownKnob Try.prog.godebug = none := by kernel_rfl
theorem Try.laidOut : laidOutB Try.prog = true := by kernel_rfl
theorem vecEncloses_con {x0 : PV} {x1 : PV} (e0 : TopFits false [(.isl .i64)] x0) (e1 : TopFits false [(.isl .i64)] x1) : FunEq Try.prog (fun _ => none) 23 [x0, x1] (.bool true) := by
  obtain ⟨ys0, rfl, t0⟩ := e0
  obtain ⟨y0, zs0, rfl, f0, t1⟩ := TS.cons_inv t0
  obtain ⟨b0, d0, l0, rfl, w0, c0, g0⟩ := fits_isl f0
  obtain rfl := TS.nil_inv t1
  obtain ⟨ys1, rfl, t2⟩ := e1
  obtain ⟨y2, zs2, rfl, f2, t3⟩ := TS.cons_inv t2
  obtain ⟨b2, d2, l2, rfl, w2, c2, g2⟩ := fits_isl f2
  obtain rfl := TS.nil_inv t3
  exact ok_coupletlaw05_VecEncloses b0 d0 l0 b2 d2 l2 true (law_VecEncloses w0 c0 g0 w2 c2 g2)
theorem vecEncloses_lifted (os : Os) (started : os.Started) (H : Type) (enc : TypeId × Value → H) :
    ReturnsInHanded {} Try.checked os 23 .any (Rows.vecEnclosesSpec.pre6 enc Try.prog Try.f23 Rows.vecEnclosesRow.domain false) (Rows.vecEnclosesSpec.post enc Try.prog Try.f23 false true false false) := by
  refine returnsInHanded_of_change (C := Try.checked) Try.own started (by kernel_rfl) Try.func23
    (ChangeSpec.witness6 (enc := enc) (C := Try.checked) false ⟨#[], #[.slice none 0 0, .slice none 0 0], []⟩ 8 (by kernel_rfl) (by kernel_rfl) (by kernel_rfl) (by kernel_rfl)) ?_
  intro W base args ds gs before hval0 hW hcnd _
  have hval : ∀ (j : Nat) t v, Try.f23.params[j]? = some t → args[j]? = some v → Value.okWide Try.prog W .any base t v := hval0
  have hW' := hW
  obtain ⟨p, q, hA0, hV, rfl, hfz, hnd⟩ := hW
  have hA : DataW.TrodAll enc Try.prog W 0 (fun _ => true) true Try.f23.params.toList args.toList ds p := hA0
  rw [Try.params23] at hA hval
  obtain ⟨v0, v1, d0, d1, p0, p1, rfl, rfl, rfl, h0, h1⟩ := trodAll_two hA
  obtain ⟨rfl, rfl⟩ := trodVars_none hV
  obtain ⟨x0, e0, r0⟩ := open_arg (n := 8) (agg := false) (ts := [(.isl .i64)]) (by kernel_rfl) (by kernel_rfl) (hval 0 31 v0 rfl rfl) h0
  obtain ⟨x1, e1, r1⟩ := open_arg (n := 8) (agg := false) (ts := [(.isl .i64)]) (by kernel_rfl) (by kernel_rfl) (hval 1 31 v1 rfl rfl) h1
  clear hA0 hval0
  simp only [List.append_nil] at hW'
  refine (funEq_true (vecEncloses_con e0 e1) W (vs := [v0, v1]) ⟨_, _, rfl, r0, ⟨_, _, rfl, r1, rfl⟩⟩).mono fun e W' ⟨he, hl⟩ => ?_
  subst he
  exact ⟨_, rfl, post_of_left (pa := (p0 ++ p1)) (pv := []) hW' (fun _ _ _ => trodAll_mk1 (shut_bool Try.underlying4 true)) (fun sp hs => (trodAll_mk2 (trod_left Try.laidOut (by kernel_rfl) (of_decide_eq_true (by kernel_rfl)) h0 hl (fun x hx => hW'.lt x (by simp [hx])) (fun x hx => hs x (by simp [hx]))) (trod_left Try.laidOut (by kernel_rfl) (of_decide_eq_true (by kernel_rfl)) h1 hl (fun x hx => hW'.lt x (by simp [hx])) (fun x hx => hs x (by simp [hx]))))) (fun _ _ => rfl) (by simp) hl (ok_one (by kernel_rfl) rfl (okWide_bool_mk Try.underlying4 true))⟩
theorem vecEncloses_k1 : Try.pinned.checked.prog.funcNamed Rows.vecEnclosesRow.func = some 23 := by kernel_rfl
theorem vecEncloses_k3 : Try.f23.isInstance Try.pinned.checked.prog Rows.vecEnclosesRow.origin Rows.vecEnclosesRow.targs := of_decide_eq_true (by kernel_rfl)
theorem vecEncloses_k4 : Try.f23.isWrapper Try.pinned.checked.prog Rows.vecEnclosesRow.wrapper Rows.vecEnclosesRow.mainSum := by unfold Func.isWrapper; rw [if_neg (by decide +kernel)]; exact ⟨rfl, rfl⟩
theorem vecEncloses_holds : Rows.VecEnclosesSaid :=
  OpenClaim.holds_of_wide 23 Try.f23 rfl rfl rfl rfl rfl rfl rfl ⟨rfl, rfl, rfl, rfl, rfl⟩ rfl rfl rfl rfl rfl vecEncloses_k1 Try.func23 vecEncloses_k2 vecEncloses_k3 vecEncloses_k4
    (fun os started H enc _ => vecEncloses_lifted os started H enc)
end Go.Proofs.Ytbfhholefjngpaa
