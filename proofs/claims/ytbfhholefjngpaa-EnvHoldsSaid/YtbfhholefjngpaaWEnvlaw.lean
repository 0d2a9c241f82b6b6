/-
  Enclosed numbers: what does not hang on an order.
-/
import Derived.Test.YtbfhholefjngpaaWE6
set_option linter.unusedSimpArgs false
set_option linter.unusedVariables false
namespace Go.Proofs
open Go Go.Fx Go.Mdlaw Go.Rootlaw Go.Cmplaw

theorem okM_swap {a b c m : Int} : okM a b c m ↔ okM b a c m := by unfold okM; constructor <;> (rintro ⟨h1, h2, h3⟩; exact ⟨h2, h1, h3⟩)
theorem neg3_swap (a b c : Int) : neg3 a b c = neg3 b a c := by unfold neg3; cases decide (a < 0) <;> cases decide (b < 0) <;> rfl
theorem md_swap (a b c m : Int) : md a b c m = md b a c m := by
  unfold md
  by_cases h : okM a b c m
  · rw [if_pos h, if_pos (okM_swap.mp h)]
    unfold core
    rw [neg3_swap, Nat.mul_comm]
  · rw [if_neg h, if_neg (mt okM_swap.mpr h)]

theorem fAdd_swap (a b : Int) : fAdd a b = fAdd b a := by
  unfold fAdd
  by_cases h : okF a ∧ okF b
  · rw [if_pos h, if_pos h.symm, Int.add_comm]
  · rw [if_neg h, if_neg (mt And.symm h)]
theorem td_swap (n : Int) (is : Bool) (a b c : Int) : td n is [a, b, c] = td n is [b, a, c] := by
  unfold td
  have : (is = true ∧ ∀ x ∈ [a, b, c], okF x) ↔ (is = true ∧ ∀ x ∈ [b, a, c], okF x) := by
    simp only [List.mem_cons, List.not_mem_nil, or_false, forall_eq_or_imp, forall_eq]
    constructor <;> (rintro ⟨h, h1, h2, h3⟩; exact ⟨h, h2, h1, h3⟩)
  by_cases h : (is = true ∧ ∀ x ∈ [a, b, c], okF x)
  · rw [if_pos h, if_pos (this.mp h)]
  · rw [if_neg h, if_neg (mt this.mpr h)]
theorem fMul_swap (a b m : Int) : fMul a b m = fMul b a m := by unfold fMul; rw [md_swap, td_swap]

theorem nAdd_swap (a b : Nm) : nAdd a b = nAdd b a := by
  unfold nAdd made
  simp only [lows, highs, isAll, List.map_cons, List.map_nil, List.all_cons, List.all_nil, fAdd_swap b.v a.v, fAdd_swap b.lo a.lo, fAdd_swap b.hi a.hi]
  have : ∀ P Q : Bool, (P && fine a && fine b) = (P && fine b && fine a) := fun P Q => by cases P <;> cases fine a <;> cases fine b <;> rfl
  rw [this _ true]

theorem nMul_swap (a b : Nm) : nMul a b = nMul b a := by
  unfold nMul made
  simp only [pairs4, lows, highs, isAll, List.map_cons, List.map_nil, List.all_cons, List.all_nil, fMul_swap b.v a.v, fMul_swap b.lo a.lo, fMul_swap b.hi a.hi, fMul_swap b.lo a.hi, fMul_swap b.hi a.lo]
  have e1 : ∀ w x y z : Int, least [w, x, y, z] = least [w, y, x, z] := fun w x y z => by simp only [least, List.foldl_cons, List.foldl_nil]; omega
  have e2 : ∀ w x y z : Int, greatest [w, x, y, z] = greatest [w, y, x, z] := fun w x y z => by simp only [greatest, List.foldl_cons, List.foldl_nil]; omega
  rw [e1, e2]
  have : ∀ P w x y z : Bool, (P && (w && (x && (y && (z && true)))) && fine a && fine b) = (P && (w && (y && (x && (z && true)))) && fine b && fine a) := fun P w x y z => by
    cases P <;> cases w <;> cases x <;> cases y <;> cases z <;> cases fine a <;> cases fine b <;> rfl
  rw [this]

theorem fSub_some {a b : Int} (h : (fSub a b).2 = true) : (fSub a b).1 = a - b ∧ okF (a - b) := by
  unfold fSub at *
  split at h
  · rename_i hh
    rw [if_pos hh]
    unfold td at *
    split at h
    · rename_i h2; rw [if_pos h2]; exact ⟨rfl, h2.2 _ (by simp)⟩
    · cases h
  · cases h

theorem self_sub (a : Nm) : (nSub a a).bad = true ∨ enc (nSub a a) 0 1 = true := by
  unfold nSub
  rcases made_cases (fun x y _ => fSub x y) a a [(a.lo, a.hi), (a.hi, a.lo)] with h | ⟨h1, h2, h3, h4, h⟩
  · rw [h]; exact .inl rfl
  · rw [h]
    right
    have hf := fine_okF h3
    simp only [isAll, List.all_cons, List.all_nil, Bool.and_eq_true, Bool.and_true] at h2
    have e0 := fSub_some h1
    have e1 := fSub_some h2.1.1
    have e2 := fSub_some h2.2.1
    simp only [lows, highs, List.map_cons, List.map_nil, e0.1, e1.1, e2.1, least, greatest, List.foldl_cons, List.foldl_nil]
    unfold enc fine
    have k1 : okF (min (a.lo - a.hi) (a.hi - a.lo)) := by have := e1.2; have := e2.2; unfold okF at *; omega
    have k2 : okF (max (a.lo - a.hi) (a.hi - a.lo)) := by have := e1.2; have := e2.2; unfold okF at *; omega
    have w0 : okW 0 := by decide
    have w1 : okW 1 := by decide
    simp only [Bool.and_eq_true, decide_eq_true_eq, Bool.not_eq_true']
    refine ⟨⟨⟨⟨⟨⟨⟨⟨⟨trivial, k1⟩, k2⟩, by omega⟩, by omega⟩, by omega⟩, w0⟩, w1⟩, by omega⟩, by omega⟩

theorem self_meet (a : Nm) : fine a = false ∨ meet a a = true := by
  cases h : fine a with
  | false => exact .inl rfl
  | true =>
    have hf := fine_okF h
    right
    unfold meet
    rw [hf.2.2.2.2]
    simp only [Bool.not_false, Bool.true_and, decide_eq_true_eq]
    omega

end Go.Proofs
