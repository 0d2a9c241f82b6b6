/-
  Rows of bits (no program in sight).
-/
namespace Go.Bitrow

/-- The m lowest bits, the lowest one first. -/
def bits : Nat → Nat → List Int
  | 0, _ => []
  | m + 1, n => ((n % 2 : Nat) : Int) :: bits m (n / 2)

@[simp] theorem bits_length : ∀ m n, (bits m n).length = m
  | 0, _ => rfl
  | m + 1, n => by simp only [bits, List.length_cons, bits_length m]

theorem pow_div (n k : Nat) : n / 2 ^ (k + 1) = n / 2 / 2 ^ k := by rw [Nat.pow_succ, Nat.mul_comm, Nat.div_div_eq_div_mul]
theorem pow_div' (n k : Nat) : n / 2 ^ (k + 1) = n / 2 ^ k / 2 := by rw [Nat.pow_succ, Nat.div_div_eq_div_mul]

theorem bits_get {m : Nat} : ∀ {n k : Nat} {d : Int}, k < m → (bits m n).getD k d = ((n / 2 ^ k % 2 : Nat) : Int) := by
  induction m with
  | zero => intro n k d h; omega
  | succ m ih =>
    intro n k d h
    cases k with
    | zero => simp [bits]
    | succ k =>
      simp only [bits, List.getD_cons_succ]
      rw [ih (by omega), pow_div]

/-- One bit more at the top. -/
theorem bits_snoc : ∀ m n, bits m n ++ [((n / 2 ^ m % 2 : Nat) : Int)] = bits (m + 1) n
  | 0, n => by simp [bits]
  | m + 1, n => by
    have h := bits_snoc m (n / 2)
    rw [← pow_div] at h
    rw [bits, List.cons_append, h]
    conv => rhs; rw [bits]

theorem bits_take : ∀ {m m' n : Nat}, m ≤ m' → (bits m' n).take m = bits m n
  | 0, m', n, _ => by simp [bits]
  | m + 1, 0, n, h => by omega
  | m + 1, m' + 1, n, h => by simp only [bits, List.take_succ_cons]; rw [bits_take (by omega)]

theorem bits_up {m n b : Nat} (h : b < 2) : ((b : Nat) : Int) :: bits m n = bits (m + 1) (2 * n + b) := by
  rw [bits]
  congr 2 <;> omega

/-- Two bits at the place k: a sum, with what is carried. -/
theorem add_step {a b k c : Nat} (h : (a + b) / 2 ^ k = a / 2 ^ k + b / 2 ^ k + c) :
    (a + b) / 2 ^ (k + 1) = a / 2 ^ (k + 1) + b / 2 ^ (k + 1) + (a / 2 ^ k % 2 + b / 2 ^ k % 2 + c) / 2 ∧ (a + b) / 2 ^ k % 2 = (a / 2 ^ k % 2 + b / 2 ^ k % 2 + c) % 2 := by
  rw [pow_div', pow_div', pow_div']
  generalize (a + b) / 2 ^ k = S at *
  generalize a / 2 ^ k = A at *
  generalize b / 2 ^ k = B at *
  omega

/-- A difference, with what is borrowed. -/
theorem sub_step {a b k c : Nat} (hc : c ≤ 1) (h : a / 2 ^ k = b / 2 ^ k + (a - b) / 2 ^ k + c) :
    a / 2 ^ (k + 1) = b / 2 ^ (k + 1) + (a - b) / 2 ^ (k + 1) + (1 - (a / 2 ^ k % 2 + 2 - b / 2 ^ k % 2 - c) / 2) ∧ (a - b) / 2 ^ k % 2 = (a / 2 ^ k % 2 + 2 - b / 2 ^ k % 2 - c) % 2 := by
  rw [pow_div', pow_div', pow_div']
  generalize (a - b) / 2 ^ k = S at *
  generalize a / 2 ^ k = A at *
  generalize b / 2 ^ k = B at *
  omega

theorem lt_of_bit {a b k : Nat} (h : a / 2 ^ (k + 1) = b / 2 ^ (k + 1)) (hl : a / 2 ^ k % 2 < b / 2 ^ k % 2) : a < b := by
  rw [pow_div', pow_div'] at h
  have h1 : a / 2 ^ k < b / 2 ^ k := by
    generalize a / 2 ^ k = A at *
    generalize b / 2 ^ k = B at *
    omega
  exact Nat.lt_of_not_le fun h2 => absurd (Nat.div_le_div_right (c := 2 ^ k) h2) (by omega)

theorem eq_of_bit {a b k : Nat} (h : a / 2 ^ (k + 1) = b / 2 ^ (k + 1)) (hl : a / 2 ^ k % 2 = b / 2 ^ k % 2) : a / 2 ^ k = b / 2 ^ k := by
  rw [pow_div', pow_div'] at h
  generalize a / 2 ^ k = A at *
  generalize b / 2 ^ k = B at *
  omega

/-- The lower bits, by one more. -/
theorem mod_step (b k : Nat) : b % 2 ^ (k + 1) = b % 2 ^ k + 2 ^ k * (b / 2 ^ k % 2) := by
  rw [Nat.pow_succ, Nat.mod_mul]

/-- A digit of a long division. -/
theorem div_low {p d k : Nat} (hd : 0 < d) (h : 2 * (p / 2 ^ (k + 1) % d) + p / 2 ^ k % 2 < d) :
    p / 2 ^ k / d = 2 * (p / 2 ^ (k + 1) / d) ∧ p / 2 ^ k % d = 2 * (p / 2 ^ (k + 1) % d) + p / 2 ^ k % 2 := by
  rw [Nat.div_mod_unique hd]
  refine ⟨?_, h⟩
  have h1 := Nat.div_add_mod (p / 2 ^ (k + 1)) d
  rw [Nat.mul_left_comm]
  generalize d * (p / 2 ^ (k + 1) / d) = A at *
  generalize p / 2 ^ (k + 1) % d = B at *
  rw [pow_div'] at h1
  omega

theorem div_high {p d k : Nat} (hd : 0 < d) (h : d ≤ 2 * (p / 2 ^ (k + 1) % d) + p / 2 ^ k % 2) :
    p / 2 ^ k / d = 2 * (p / 2 ^ (k + 1) / d) + 1 ∧ p / 2 ^ k % d = 2 * (p / 2 ^ (k + 1) % d) + p / 2 ^ k % 2 - d := by
  rw [Nat.div_mod_unique hd]
  have h1 := Nat.div_add_mod (p / 2 ^ (k + 1)) d
  have h2 := Nat.mod_lt (p / 2 ^ (k + 1)) hd
  rw [Nat.mul_add, Nat.mul_left_comm, Nat.mul_one]
  generalize d * (p / 2 ^ (k + 1) / d) = A at *
  generalize p / 2 ^ (k + 1) % d = B at *
  rw [pow_div'] at h1
  omega

end Go.Bitrow
