/-
  The arithmetic of a division of two words by one, digit by digit (no program in sight).
-/
namespace Go.Knuth
variable {y1 y0 u d q r : Nat}
structure Inv (y1 y0 u d q r : Nat) : Prop where
  sum : q * y1 + r = u
  up : (u * 4294967296 + d) / (y1 * 4294967296 + y0) ≤ q
  lim : q ≤ 4294967297
  small : r < 4294967296
theorem mulY (q y1 y0 : Nat) : q * (y1 * 4294967296 + y0) = q * y1 * 4294967296 + q * y0 := by rw [Nat.mul_add, Nat.mul_assoc]
theorem init (h1 : 2147483648 ≤ y1) (h2 : y1 < 4294967296) (h3 : y0 < 4294967296) (hu : u < y1 * 4294967296 + y0) (hd : d < 4294967296) : Inv y1 y0 u d (u / y1) (u % y1) := by
  have hp : 0 < y1 := by omega
  refine ⟨by rw [Nat.mul_comm]; exact Nat.div_add_mod u y1, ?_, ?_, ?_⟩
  · rw [Nat.le_div_iff_mul_le hp]
    have h := Nat.div_mul_le_self (u * 4294967296 + d) (y1 * 4294967296 + y0)
    rw [mulY] at h
    generalize (u * 4294967296 + d) / (y1 * 4294967296 + y0) = Q at *
    omega
  · apply Nat.le_of_lt_succ
    rw [Nat.div_lt_iff_lt_mul hp]
    omega
  · have := Nat.mod_lt u hp
    omega
theorem high (hu : u < y1 * 4294967296 + y0) (hd : d < 4294967296) (i : Inv y1 y0 u d q r) (hc : 4294967296 ≤ q ∨ 4294967296 * r + d < q * y0) : (u * 4294967296 + d) / (y1 * 4294967296 + y0) < q := by
  have hy : 0 < y1 * 4294967296 + y0 := by omega
  rw [Nat.div_lt_iff_lt_mul hy]
  rcases hc with hc | hc
  · have : 4294967296 * (y1 * 4294967296 + y0) ≤ q * (y1 * 4294967296 + y0) := Nat.mul_le_mul_right _ hc
    omega
  · rw [mulY]
    have := i.sum
    omega
theorem done (hy : 0 < y1 * 4294967296 + y0) (i : Inv y1 y0 u d q r) (hc : ¬ (4294967296 ≤ q ∨ 4294967296 * r + d < q * y0)) : q = (u * 4294967296 + d) / (y1 * 4294967296 + y0) := by
  refine Nat.le_antisymm ?_ i.up
  rw [Nat.le_div_iff_mul_le hy, mulY]
  have := i.sum
  omega
theorem step (h2 : y1 < 4294967296) (hu : u < y1 * 4294967296 + y0) (hd : d < 4294967296) (h3 : y0 < 4294967296) (i : Inv y1 y0 u d q r) (hc : 4294967296 ≤ q ∨ 4294967296 * r + d < q * y0) :
    0 < q ∧ (r + y1 < 4294967296 → Inv y1 y0 u d (q - 1) (r + y1)) ∧ (4294967296 ≤ r + y1 → q - 1 = (u * 4294967296 + d) / (y1 * 4294967296 + y0)) := by
  have hq := high hu hd i hc
  have hq1 : 0 < q := Nat.lt_of_le_of_lt (Nat.zero_le _) hq
  have hy : 0 < y1 * 4294967296 + y0 := by omega
  have hs : (q - 1) * y1 + (r + y1) = u := by
    have := i.sum
    obtain ⟨p, rfl⟩ : ∃ p, q = p + 1 := ⟨q - 1, by omega⟩
    rw [Nat.add_mul, Nat.one_mul] at this
    rw [Nat.add_sub_cancel]
    omega
  have hl := i.lim
  have hq2 : (u * 4294967296 + d) / (y1 * 4294967296 + y0) ≤ q - 1 := Nat.le_sub_one_of_lt hq
  refine ⟨hq1, fun h => ⟨hs, hq2, by omega, h⟩, fun h => ?_⟩
  refine Nat.le_antisymm ?_ hq2
  rw [Nat.le_div_iff_mul_le hy, mulY]
  have h4 : (q - 1) * y0 ≤ 4294967296 * 4294967295 := Nat.mul_le_mul (by omega) (by omega)
  omega
end Go.Knuth
