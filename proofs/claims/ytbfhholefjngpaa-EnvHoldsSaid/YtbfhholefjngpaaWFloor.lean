/-
  A quotient rounded down, and up: what it is between (no program in sight).
-/
import Derived.Test.YtbfhholefjngpaaWMdlaw
namespace Go.Mdlaw

theorem neg3_pos {a b c : Int} (hc : 0 < c) : neg3 a b c = (decide (a < 0) != decide (b < 0)) := by
  unfold neg3
  have : decide (c < 0) = false := decide_eq_false (by omega)
  rw [this]
  cases decide (a < 0) <;> cases decide (b < 0) <;> rfl

/-- A product, with and without its sign. -/
theorem signed (a b : Int) : (neg3 a b 1 = false → a * b = ((a.natAbs * b.natAbs : Nat) : Int)) ∧ (neg3 a b 1 = true → a * b = -((a.natAbs * b.natAbs : Nat) : Int)) := by
  rw [neg3_pos (by decide), ← Int.natAbs_mul]
  rcases Int.lt_or_le a 0 with ha | ha <;> rcases Int.lt_or_le b 0 with hb | hb
  · have := Int.mul_pos_of_neg_of_neg ha hb
    simp [ha, hb]; omega
  · have := Int.mul_nonpos_of_nonpos_of_nonneg (Int.le_of_lt ha) hb
    have hb' : ¬ b < 0 := by omega
    simp [ha, hb']; omega
  · have := Int.mul_nonpos_of_nonneg_of_nonpos ha (Int.le_of_lt hb)
    have ha' : ¬ a < 0 := by omega
    simp [ha', hb]; omega
  · have := Int.mul_nonneg ha hb
    have ha' : ¬ a < 0 := by omega
    have hb' : ¬ b < 0 := by omega
    simp [ha', hb']; omega

/-- Rounded down it is the whole number below; rounded up that above; to the nearest one of both. -/
theorem md_floor {a b c : Int} (hc : 0 < c) {m : Int} (h : (md a b c m).2 = true) :
    (m = 1 → (md a b c m).1 * c ≤ a * b ∧ a * b < (md a b c m).1 * c + c) ∧ (m = 2 → a * b ≤ (md a b c m).1 * c ∧ (md a b c m).1 * c < a * b + c) := by
  have ho : okM a b c m := Decidable.byContradiction fun hn => by rw [md_neg hn] at h; cases h
  have hn3 : neg3 a b c = neg3 a b 1 := by rw [neg3_pos hc, neg3_pos (by decide)]
  have h' := h
  rw [md_pos ho] at h'
  unfold core at h'
  have hv := fit_some h'
  have hv2 : (md a b c m).1 = _ := (congrArg Prod.fst (md_pos ho)).trans hv
  rw [hv2, hn3]
  clear hv2 hv h' h ho
  have hs := signed a b
  obtain ⟨d, rfl⟩ : ∃ d : Nat, c = d := ⟨c.toNat, by omega⟩
  have hd : 0 < d := by omega
  generalize a * b = X at *
  generalize a.natAbs * b.natAbs = p at *
  rw [Int.natAbs_natCast] at *
  have h1 := Nat.div_add_mod p d
  have h2 := Nat.mod_lt p hd
  generalize hq : p / d = q at *
  generalize hr : p % d = r at *
  generalize neg3 a b 1 = s at *
  have hqd : ((d * q : Nat) : Int) = (q : Int) * (d : Int) := by rw [Int.natCast_mul, Int.mul_comm]
  have hp : (p : Int) = (q : Int) * d + r := by rw [← hqd]; omega
  constructor
  · intro hm
    subst hm
    cases s
    · rw [hs.1 rfl]
      have he : more 1 false q r d = false := by unfold more; split <;> rfl
      simp only [he, Bool.toNat_false, Nat.add_zero, Bool.false_eq_true, if_false]
      omega
    · rw [hs.2 rfl]
      by_cases h0 : r = 0
      · have he : more 1 true q r d = false := by unfold more; rw [if_pos h0]
        simp only [he, Bool.toNat_false, Nat.add_zero, if_true, Int.neg_mul]
        omega
      · have he : more 1 true q r d = true := by unfold more; rw [if_neg h0]; rfl
        simp only [he, Bool.toNat_true, if_true, Int.neg_mul, Int.natCast_add, Int.add_mul, Int.natCast_one, Int.one_mul]
        omega
  · intro hm
    subst hm
    cases s
    · rw [hs.1 rfl]
      by_cases h0 : r = 0
      · have he : more 2 false q r d = false := by unfold more; rw [if_pos h0]
        simp only [he, Bool.toNat_false, Nat.add_zero, Bool.false_eq_true, if_false]
        omega
      · have he : more 2 false q r d = true := by unfold more; rw [if_neg h0]; rfl
        simp only [he, Bool.toNat_true, Bool.false_eq_true, if_false, Int.natCast_add, Int.add_mul, Int.natCast_one, Int.one_mul]
        omega
    · rw [hs.2 rfl]
      have he : more 2 true q r d = false := by unfold more; split <;> rfl
      simp only [he, Bool.toNat_false, Nat.add_zero, if_true, Int.neg_mul]
      omega

/-- However rounded, it is less than one away. -/
theorem md_near {a b c : Int} (hc : 0 < c) {m : Int} (h : (md a b c m).2 = true) :
    a * b - c < (md a b c m).1 * c ∧ (md a b c m).1 * c < a * b + c := by
  have ho : okM a b c m := Decidable.byContradiction fun hn => by rw [md_neg hn] at h; cases h
  have hn3 : neg3 a b c = neg3 a b 1 := by rw [neg3_pos hc, neg3_pos (by decide)]
  have h' := h
  rw [md_pos ho] at h'
  unfold core at h'
  have hv := fit_some h'
  have hv2 : (md a b c m).1 = _ := (congrArg Prod.fst (md_pos ho)).trans hv
  rw [hv2, hn3]
  clear hv2 hv h' h ho
  have hs := signed a b
  obtain ⟨d, rfl⟩ : ∃ d : Nat, c = d := ⟨c.toNat, by omega⟩
  have hd : 0 < d := by omega
  generalize a * b = X at *
  generalize a.natAbs * b.natAbs = p at *
  rw [Int.natAbs_natCast] at *
  have h1 := Nat.div_add_mod p d
  have h2 := Nat.mod_lt p hd
  generalize hq : p / d = q at *
  generalize hr : p % d = r at *
  generalize neg3 a b 1 = s at *
  have hqd : ((d * q : Nat) : Int) = (q : Int) * (d : Int) := by rw [Int.natCast_mul, Int.mul_comm]
  have hp : (p : Int) = (q : Int) * d + r := by rw [← hqd]; omega
  have hmore : r = 0 → more m s q r d = false := fun h0 => by unfold more; rw [if_pos h0]
  generalize more m s q r d = e at *
  cases s
  · rw [hs.1 rfl]
    cases e
    · simp only [Bool.toNat_false, Nat.add_zero, Bool.false_eq_true, if_false]
      omega
    · have h0 : r ≠ 0 := fun h => by cases hmore h
      simp only [Bool.toNat_true, Bool.false_eq_true, if_false, Int.natCast_add, Int.add_mul, Int.natCast_one, Int.one_mul]
      omega
  · rw [hs.2 rfl]
    cases e
    · simp only [Bool.toNat_false, Nat.add_zero, if_true, Int.neg_mul]
      omega
    · have h0 : r ≠ 0 := fun h => by cases hmore h
      simp only [Bool.toNat_true, if_true, Int.neg_mul, Int.natCast_add, Int.add_mul, Int.natCast_one, Int.one_mul]
      omega

/-- Both signs turned, a quotient is as it was. -/
theorem md_negc (a b c m : Int) : md (-a) b (-c) m = md a b c m := by
  unfold md
  have ho : okM (-a) b (-c) m ↔ okM a b c m := by unfold okM okW; omega
  by_cases h : okM a b c m
  · rw [if_pos h, if_pos (ho.mpr h)]
    by_cases ha : a = 0
    · subst ha
      simp [core, more_zero, fit]
    · unfold core
      have hc := h.2.2.2.1
      have : neg3 (-a) b (-c) = neg3 a b c := by
        rw [neg3_a ha]
        unfold neg3
        have : decide (-c < 0) = !decide (c < 0) := by
          rcases Int.lt_trichotomy c 0 with h1 | h1 | h1
          · simp [h1]; omega
          · exact absurd h1 hc
          · simp [h1]; omega
        rw [this]
        cases decide (a < 0) <;> cases decide (b < 0) <;> cases decide (c < 0) <;> rfl
      rw [this, Int.natAbs_neg, Int.natAbs_neg]
  · rw [if_neg h, if_neg (mt ho.mp h)]

end Go.Mdlaw
