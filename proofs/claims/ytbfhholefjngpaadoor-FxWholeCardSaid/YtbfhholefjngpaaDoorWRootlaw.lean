/-
  Roots, bit by bit (no program in sight).
-/
import Derived.Test.YtbfhholefjngpaaDoorWMdlaw
namespace Go.Rootlaw
open Go.Mdlaw

theorem exists_root (p : Nat) : ∃ r, r * r ≤ p ∧ p < (r + 1) * (r + 1) := by
  induction p with
  | zero => exact ⟨0, by decide, by decide⟩
  | succ p ih =>
    obtain ⟨r, h1, h2⟩ := ih
    by_cases h : p + 1 < (r + 1) * (r + 1)
    · exact ⟨r, by omega, h⟩
    · refine ⟨r + 1, by omega, ?_⟩
      have : (r + 1) * (r + 1) < (r + 1 + 1) * (r + 1 + 1) := Nat.mul_lt_mul_of_lt_of_le (by omega) (by omega) (by omega)
      omega

theorem le_root {R p : Nat} (h1 : R * R ≤ p) (h2 : p < (R + 1) * (R + 1)) (x : Nat) : x * x ≤ p ↔ x ≤ R := by
  constructor
  · intro h
    apply Nat.le_of_not_lt
    intro hx
    have : (R + 1) * (R + 1) ≤ x * x := Nat.mul_le_mul (by omega) (by omega)
    omega
  · intro h
    have : x * x ≤ R * R := Nat.mul_le_mul h h
    omega

theorem root_high {R j : Nat} (h : R / 2 ^ (j + 1) * 2 ^ (j + 1) + 2 ^ j ≤ R) : R / 2 ^ j * 2 ^ j = R / 2 ^ (j + 1) * 2 ^ (j + 1) + 2 ^ j := by
  have hp : 0 < 2 ^ j := Nat.two_pow_pos j
  have h1 : R / 2 ^ (j + 1) = R / 2 ^ j / 2 := by rw [Nat.pow_succ, Nat.div_div_eq_div_mul]
  rw [h1] at h ⊢
  have h2 : R / 2 ^ j / 2 * 2 ^ (j + 1) = (R / 2 ^ j / 2 * 2) * 2 ^ j := by rw [Nat.pow_succ, Nat.mul_comm (2 ^ j), Nat.mul_assoc]
  rw [h2] at h ⊢
  have h3 : (R / 2 ^ j / 2 * 2 + 1) * 2 ^ j ≤ R := by rw [Nat.add_mul, Nat.one_mul]; exact h
  rw [← Nat.le_div_iff_mul_le hp] at h3
  rw [← Nat.succ_mul]
  congr 1
  omega

theorem root_low {R j : Nat} (h : ¬ R / 2 ^ (j + 1) * 2 ^ (j + 1) + 2 ^ j ≤ R) : R / 2 ^ j * 2 ^ j = R / 2 ^ (j + 1) * 2 ^ (j + 1) := by
  have hp : 0 < 2 ^ j := Nat.two_pow_pos j
  have h1 : R / 2 ^ (j + 1) = R / 2 ^ j / 2 := by rw [Nat.pow_succ, Nat.div_div_eq_div_mul]
  rw [h1] at h ⊢
  have h2 : R / 2 ^ j / 2 * 2 ^ (j + 1) = (R / 2 ^ j / 2 * 2) * 2 ^ j := by rw [Nat.pow_succ, Nat.mul_comm (2 ^ j), Nat.mul_assoc]
  rw [h2] at h ⊢
  have h3 : ¬ (R / 2 ^ j / 2 * 2 + 1) * 2 ^ j ≤ R := by rw [Nat.add_mul, Nat.one_mul]; exact h
  rw [← Nat.le_div_iff_mul_le hp] at h3
  congr 1
  omega

theorem root_lt {R a b M : Nat} (h1 : R * R ≤ a * b) (ha : a < M) (hb : b < M) : R < M := by
  apply Nat.lt_of_not_le
  intro h
  have : M * M ≤ R * R := Nat.mul_le_mul h h
  have : a * b < M * M := Nat.mul_lt_mul_of_lt_of_le ha (by omega) (by omega)
  omega

/-- Where a root is asked of. -/
def okR (a b : Int) : Prop := okW a ∧ okW b ∧ 0 ≤ a * b
instance (a b : Int) : Decidable (okR a b) := by unfold okR; infer_instance

def rup (m : Int) (r p : Nat) : Bool := !decide (r * r = p) && (decide (m = 2) || decide (m = 0) && decide (r * (r + 1) < p))

theorem sq_root (n : Int) {r : Nat} (h1 : r * r ≤ n.natAbs * n.natAbs) (h2 : n.natAbs * n.natAbs < (r + 1) * (r + 1)) : r = n.natAbs := by
  have h3 := (le_root h1 h2 n.natAbs).mp (Nat.le_refl _)
  have h4 := (le_root (R := n.natAbs) (Nat.le_refl _) (Nat.mul_lt_mul_of_lt_of_le (Nat.lt_succ_self _) (Nat.le_succ _) (by omega)) r).mp h1
  omega

theorem one_root {r : Nat} (h1 : r * r ≤ 1) (h2 : 1 < (r + 1) * (r + 1)) : r = 1 := by
  have := sq_root 1 h1 h2
  exact this

theorem two_root {r : Nat} (h1 : r * r ≤ 2) (h2 : 2 < (r + 1) * (r + 1)) : r = 1 := by
  have h3 := (le_root h1 h2 1).mp (by decide)
  have h4 := (le_root (R := 1) (p := 2) (by decide) (by decide) r).mp h1
  omega

end Go.Rootlaw
