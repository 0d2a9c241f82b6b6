/-
  Which product is the greater one (no program in sight).
-/
namespace Go.Cmplaw

def cmp (X Y : Int) : Int := if X < Y then -1 else if Y < X then 1 else 0

theorem sgn_mul (a b : Int) : (a * b = 0 ∧ (a = 0 ∨ b = 0)) ∨ (a * b < 0 ∧ a ≠ 0 ∧ b ≠ 0 ∧ (a < 0 ↔ ¬ b < 0)) ∨ (0 < a * b ∧ a ≠ 0 ∧ b ≠ 0 ∧ (a < 0 ↔ b < 0)) := by
  rcases Int.lt_trichotomy a 0 with ha | ha | ha <;> rcases Int.lt_trichotomy b 0 with hb | hb | hb
  · have := Int.mul_pos_of_neg_of_neg ha hb; omega
  · subst hb; simp
  · have := Int.mul_neg_of_neg_of_pos ha hb; omega
  · subst ha; simp
  · subst ha; simp
  · subst ha; simp
  · have := Int.mul_neg_of_pos_of_neg ha hb; omega
  · subst hb; simp
  · have := Int.mul_pos ha hb; omega

theorem cmp_swap (X Y : Int) : cmp Y X = -cmp X Y := by unfold cmp; split <;> split <;> (try split) <;> omega

end Go.Cmplaw
