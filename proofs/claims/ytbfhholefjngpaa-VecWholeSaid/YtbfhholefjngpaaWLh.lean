/-
  Plain laws of loops: rules for what they come to.
-/
import Derived.Test.YtbfhholefjngpaaFxRow
set_option linter.unusedSimpArgs false
set_option linter.unusedVariables false
namespace Go.Proofs
open Go Go.Fx

theorem iterN_mono {X Y : Type} {step : X → Option (X ⊕ Y)} : ∀ {n : Nat} {x : X} {y : Y}, iterN step n x = some y → ∀ m, n ≤ m → iterN step m x = some y
  | 0, x, y, h, m, _ => by cases h
  | n + 1, x, y, h, m, hm => by
    obtain ⟨m, rfl⟩ : ∃ k, m = k + 1 := ⟨m - 1, by omega⟩
    simp only [iterN] at h ⊢
    split at h
    · cases h
    · exact iterN_mono h m (by omega)
    · exact h
theorem loopN_of {X Y : Type} {step : X → Option (X ⊕ Y)} {x : X} {y : Y} (n : Nat) (hn : n ≤ 18446744073709551616) (h : iterN step n x = some y) : loopN step x = some y := iterN_mono h _ hn

/-- A loop with an invariant, and a measure. -/
theorem iterN_rule {X Y : Type} {step : X → Option (X ⊕ Y)} {I : X → Prop} {μ : X → Nat} {Q : Y → Prop}
    (h : ∀ x, I x → (∃ y, step x = some (.inr y) ∧ Q y) ∨ (∃ x', step x = some (.inl x') ∧ I x' ∧ μ x' < μ x)) : ∀ (n : Nat) (x : X), I x → μ x < n → ∃ y, iterN step n x = some y ∧ Q y
  | 0, x, _, hn => by omega
  | n + 1, x, hx, hn => by
    rcases h x hx with ⟨y, h1, h2⟩ | ⟨x', h1, h2, h3⟩
    · exact ⟨y, by simp only [iterN, h1], h2⟩
    · obtain ⟨y, h4, h5⟩ := iterN_rule h n x' h2 (by omega)
      exact ⟨y, by simp only [iterN, h1]; exact h4, h5⟩
theorem loop_rule {X Y : Type} {step : X → Option (X ⊕ Y)} (I : X → Prop) (μ : X → Nat) (Q : Y → Prop)
    (h : ∀ x, I x → (∃ y, step x = some (.inr y) ∧ Q y) ∨ (∃ x', step x = some (.inl x') ∧ I x' ∧ μ x' < μ x)) {x : X} (hx : I x) (hb : μ x < 18446744073709551616) : ∃ y, loopN step x = some y ∧ Q y :=
  iterN_rule h _ x hx hb

/-- Going through numbers till a test holds. -/
theorem iterN_scan {X Y : Type} {step : X → Option (X ⊕ Y)} {state : Nat → X} {T : Nat → Bool} {e : Nat → Y} {f : Y} {n : Nat} (h1 : ∀ k, k < n → step (state k) = some (bif T k then .inr (e k) else .inl (state (k + 1))))
    (h2 : step (state n) = some (.inr f)) : ∀ (d k : Nat), k + d = n → iterN step (d + 1) (state k) = some (match (List.range' k d).find? T with
      | some j => e j
      | none => f)
  | 0, k, hk => by
    obtain rfl : k = n := by omega
    simp only [iterN, h2]; rfl
  | d + 1, k, hk => by
    rw [iterN, h1 k (by omega), List.range'_succ, List.find?_cons]
    cases hT : T k with
    | true => rfl
    | false =>
      dsimp only [cond_false]
      exact iterN_scan h1 h2 d (k + 1) (by omega)
theorem loop_scan {X Y : Type} {step : X → Option (X ⊕ Y)} (state : Nat → X) (T : Nat → Bool) (e : Nat → Y) (f : Y) (n : Nat) (hn : n < 18446744073709551616) (h1 : ∀ k, k < n → step (state k) = some (bif T k then .inr (e k) else .inl (state (k + 1))))
    (h2 : step (state n) = some (.inr f)) : loopN step (state 0) = some (match (List.range n).find? T with
      | some j => e j
      | none => f) := by
  rw [List.range_eq_range']
  exact loopN_of (n + 1) (by omega) (iterN_scan h1 h2 n 0 (by omega))

/-- Going through numbers, gathering. -/
theorem iterN_fold {X Y : Type} {step : X → Option (X ⊕ Y)} {state : Nat → X} {f : Y} {n : Nat} (h1 : ∀ k, k < n → step (state k) = some (.inl (state (k + 1)))) (h2 : step (state n) = some (.inr f)) : ∀ (d k : Nat), k + d = n → iterN step (d + 1) (state k) = some f
  | 0, k, hk => by
    obtain rfl : k = n := by omega
    simp only [iterN, h2]
  | d + 1, k, hk => by
    rw [iterN, h1 k (by omega)]
    exact iterN_fold h1 h2 d (k + 1) (by omega)
theorem loop_fold {X Y : Type} {step : X → Option (X ⊕ Y)} (state : Nat → X) (f : Y) (n : Nat) (hn : n < 18446744073709551616) (h1 : ∀ k, k < n → step (state k) = some (.inl (state (k + 1)))) (h2 : step (state n) = some (.inr f)) : loopN step (state 0) = some f :=
  loopN_of (n + 1) (by omega) (iterN_fold h1 h2 n 0 (by omega))

theorem w64 {a : Int} (h1 : -9223372036854775808 ≤ a) (h2 : a ≤ 9223372036854775807) : IntKind.wrap .i64 a = a := by
  rw [IntKind.wrap_i64]; omega

theorem some_bif {α : Type} (b : Bool) (x y : α) : (bif b then some x else some y) = some (bif b then x else y) := by cases b <;> rfl
theorem ibeq (a b : Int) : (a == b) = decide (a = b) := rfl
theorem ibne (a b : Int) : (a != b) = !decide (a = b) := rfl

theorem any_getD {l : List Int} {p : Int → Bool} : ((List.range l.length).any fun k => p (l.getD k 0)) = l.any p := by
  rw [Bool.eq_iff_iff]
  simp only [List.any_eq_true, List.mem_range]
  constructor
  · rintro ⟨k, hk, h⟩
    refine ⟨l.getD k 0, ?_, h⟩
    rw [List.getD_eq_getElem?_getD, List.getElem?_eq_getElem hk]; exact List.getElem_mem hk
  · rintro ⟨x, hx, h⟩
    obtain ⟨k, hk, rfl⟩ := List.getElem_of_mem hx
    exact ⟨k, hk, by rw [List.getD_eq_getElem?_getD, List.getElem?_eq_getElem hk]; exact h⟩
theorem find_isSome {l : List Nat} {p : Nat → Bool} : (l.find? p).isSome = l.any p := by
  induction l with
  | nil => rfl
  | cons x l ih =>
    rw [List.find?_cons, List.any_cons]
    cases p x <;> simp [ih]

end Go.Proofs
