/- What the contracts proved by hand want, to be told as functions. -/
import Derived.Test.YtbfhholefjngpaaWE5
import Derived.Test.YtbfhholefjngpaaWC9
import Derived.Test.YtbfhholefjngpaaWC10
set_option linter.unusedVariables false
namespace Go.Proofs
open Go Go.Fx Go.Mdlaw Go.Rootlaw
noncomputable def sqr (a b : Int) : Nat := (exists_root (a.natAbs * b.natAbs)).choose
theorem sqr_le (a b : Int) : sqr a b * sqr a b ≤ a.natAbs * b.natAbs := (exists_root (a.natAbs * b.natAbs)).choose_spec.1
theorem sqr_lt (a b : Int) : a.natAbs * b.natAbs < (sqr a b + 1) * (sqr a b + 1) := (exists_root (a.natAbs * b.natAbs)).choose_spec.2
theorem times_at {a b : Int} (h1 : 0 ≤ a) (h2 : a < 9223372036854775808) (h3 : 0 ≤ b) (h4 : b < 9223372036854775808) : FunEq Try.prog (fun _ => none) 33 [.int .i64 a, .int .i64 b] (.isl false false .i64 (Bitrow.bits 130 (a.toNat * b.toNat))) := by
  have := fn_Times (fun _ => none) a.toNat b.toNat (by omega) (by omega)
  rw [Int.toNat_of_nonneg h1, Int.toNat_of_nonneg h3] at this
  exact this
open Classical in
noncomputable def lessV (a b : List Int) : Bool := if h : ∃ x y : Nat, x < 2 ^ 130 ∧ y < 2 ^ 130 ∧ a = Bitrow.bits 130 x ∧ b = Bitrow.bits 130 y then decide (h.choose < h.choose_spec.choose) else false
theorem less_aux {x y x' y' : Nat} (h1 : x' < 2 ^ 130) (h2 : y' < 2 ^ 130) (h3 : Bitrow.bits 130 x = Bitrow.bits 130 x') (h4 : Bitrow.bits 130 y = Bitrow.bits 130 y') : FunEq Try.prog (fun _ => none) 34 [rowP x, rowP y] (.bool (decide (x' < y'))) := by
  unfold rowP
  rw [h3, h4]
  exact fn_Less (fun _ => none) _ _ h1 h2
theorem less_at {an ae bn be : Bool} {a b : List Int} (h : ∃ x y : Nat, x < 2 ^ 130 ∧ y < 2 ^ 130 ∧ PV.isl an ae .i64 a = rowP x ∧ PV.isl bn be .i64 b = rowP y) : FunEq Try.prog (fun _ => none) 34 [.isl an ae .i64 a, .isl bn be .i64 b] (.bool (lessV a b)) := by
  obtain ⟨x, y, hx, hy, e1, e2⟩ := h
  simp only [rowP, PV.isl.injEq, true_and] at e1 e2
  obtain ⟨rfl, rfl, rfl⟩ := e1
  obtain ⟨rfl, rfl, rfl⟩ := e2
  have h : ∃ x' y' : Nat, x' < 2 ^ 130 ∧ y' < 2 ^ 130 ∧ Bitrow.bits 130 x = Bitrow.bits 130 x' ∧ Bitrow.bits 130 y = Bitrow.bits 130 y' := ⟨x, y, hx, hy, rfl, rfl⟩
  unfold lessV
  rw [dif_pos h]
  obtain ⟨h1, h2, h3, h4⟩ := h.choose_spec.choose_spec
  exact less_aux h1 h2 h3 h4
end Go.Proofs
