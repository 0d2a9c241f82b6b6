import Derived.Test.YtbfhholefjngpaaWE6
import Derived.Test.YtbfhholefjngpaaWMdlaw
/-
  Enclosed numbers: what does not hang on an order.
-/
set_option linter.unusedSimpArgs false
set_option linter.unusedVariables false
namespace Go.Proofs
open Go Go.Fx Go.Mdlaw Go.Rootlaw Go.Cmplaw

theorem okM_swap {a b c m : Int} : okM a b c m ↔ okM b a c m := by unfold okM; constructor <;> (rintro ⟨h1, h2, h3⟩; exact ⟨h2, h1, h3⟩)
theorem neg3_swap (a b c : Int) : neg3 a b c = neg3 b a c := by unfold neg3; cases decide (a < 0) <;> cases decide (b < 0) <;> rfl
theorem md_swap (a b c m : Int) : md a b c m = md b a c m := by
  unfold md
  by_cases h : okM a b c m
  · rw [if_pos h, if_pos (okM_swap.mp h)]
    unfold core
    rw [neg3_swap, Nat.mul_comm]
  · rw [if_neg h, if_neg (mt okM_swap.mpr h)]

theorem fAdd_swap (a b : Int) : fAdd a b = fAdd b a := by
  unfold fAdd
  by_cases h : okF a ∧ okF b
  · rw [if_pos h, if_pos h.symm, Int.add_comm]
  · rw [if_neg h, if_neg (mt And.symm h)]
theorem td_swap (n : Int) (is : Bool) (a b c : Int) : td n is [a, b, c] = td n is [b, a, c] := by
  unfold td
  have : (is = true ∧ ∀ x ∈ [a, b, c], okF x) ↔ (is = true ∧ ∀ x ∈ [b, a, c], okF x) := by
    simp only [List.mem_cons, List.not_mem_nil, or_false, forall_eq_or_imp, forall_eq]
    constructor <;> (rintro ⟨h, h1, h2, h3⟩; exact ⟨h, h2, h1, h3⟩)
  by_cases h : (is = true ∧ ∀ x ∈ [a, b, c], okF x)
  · rw [if_pos h, if_pos (this.mp h)]
  · rw [if_neg h, if_neg (mt this.mpr h)]
theorem fMul_swap (a b m : Int) : fMul a b m = fMul b a m := by unfold fMul; rw [md_swap, td_swap]

theorem nAdd_swap (a b : Nm) : nAdd a b = nAdd b a := by
  unfold nAdd made
  simp only [lows, highs, isAll, List.map_cons, List.map_nil, List.all_cons, List.all_nil, fAdd_swap b.v a.v, fAdd_swap b.lo a.lo, fAdd_swap b.hi a.hi]
  have : ∀ P Q : Bool, (P && fine a && fine b) = (P && fine b && fine a) := fun P Q => by cases P <;> cases fine a <;> cases fine b <;> rfl
  rw [this _ true]

theorem nMul_swap (a b : Nm) : nMul a b = nMul b a := by
  unfold nMul made
  simp only [pairs4, lows, highs, isAll, List.map_cons, List.map_nil, List.all_cons, List.all_nil, fMul_swap b.v a.v, fMul_swap b.lo a.lo, fMul_swap b.hi a.hi, fMul_swap b.lo a.hi, fMul_swap b.hi a.lo]
  have e1 : ∀ w x y z : Int, least [w, x, y, z] = least [w, y, x, z] := fun w x y z => by simp only [least, List.foldl_cons, List.foldl_nil]; omega
  have e2 : ∀ w x y z : Int, greatest [w, x, y, z] = greatest [w, y, x, z] := fun w x y z => by simp only [greatest, List.foldl_cons, List.foldl_nil]; omega
  rw [e1, e2]
  have : ∀ P w x y z : Bool, (P && (w && (x && (y && (z && true)))) && fine a && fine b) = (P && (w && (y && (x && (z && true)))) && fine b && fine a) := fun P w x y z => by
    cases P <;> cases w <;> cases x <;> cases y <;> cases z <;> cases fine a <;> cases fine b <;> rfl
  rw [this]

theorem fSub_some {a b : Int} (h : (fSub a b).2 = true) : (fSub a b).1 = a - b ∧ okF (a - b) := by
  unfold fSub at *
  split at h
  · rename_i hh
    rw [if_pos hh]
    unfold td at *
    split at h
    · rename_i h2; rw [if_pos h2]; exact ⟨rfl, h2.2 _ (by simp)⟩
    · cases h
  · cases h

theorem self_sub (a : Nm) : (nSub a a).bad = true ∨ enc (nSub a a) 0 1 = true := by
  unfold nSub
  rcases made_cases (fun x y _ => fSub x y) a a [(a.lo, a.hi), (a.hi, a.lo)] with h | ⟨h1, h2, h3, h4, h⟩
  · rw [h]; exact .inl rfl
  · rw [h]
    right
    have hf := fine_okF h3
    simp only [isAll, List.all_cons, List.all_nil, Bool.and_eq_true, Bool.and_true] at h2
    have e0 := fSub_some h1
    have e1 := fSub_some h2.1.1
    have e2 := fSub_some h2.2.1
    simp only [lows, highs, List.map_cons, List.map_nil, e0.1, e1.1, e2.1, least, greatest, List.foldl_cons, List.foldl_nil]
    unfold enc fine
    have k1 : okF (min (a.lo - a.hi) (a.hi - a.lo)) := by have := e1.2; have := e2.2; unfold okF at *; omega
    have k2 : okF (max (a.lo - a.hi) (a.hi - a.lo)) := by have := e1.2; have := e2.2; unfold okF at *; omega
    have w0 : okW 0 := by decide
    have w1 : okW 1 := by decide
    simp only [Bool.and_eq_true, decide_eq_true_eq, Bool.not_eq_true']
    refine ⟨⟨⟨⟨⟨⟨⟨⟨⟨trivial, k1⟩, k2⟩, by omega⟩, by omega⟩, by omega⟩, w0⟩, w1⟩, by omega⟩, by omega⟩

theorem self_meet (a : Nm) : fine a = false ∨ meet a a = true := by
  cases h : fine a with
  | false => exact .inl rfl
  | true =>
    have hf := fine_okF h
    right
    unfold meet
    rw [hf.2.2.2.2]
    simp only [Bool.not_false, Bool.true_and, decide_eq_true_eq]
    omega

end Go.Proofs

/-
  A quotient rounded down, and up: what it is between (no program in sight).
-/
namespace Go.Mdlaw

theorem neg3_pos {a b c : Int} (hc : 0 < c) : neg3 a b c = (decide (a < 0) != decide (b < 0)) := by
  unfold neg3
  have : decide (c < 0) = false := decide_eq_false (by omega)
  rw [this]
  cases decide (a < 0) <;> cases decide (b < 0) <;> rfl

/-- A product, with and without its sign. -/
theorem signed (a b : Int) : (neg3 a b 1 = false → a * b = ((a.natAbs * b.natAbs : Nat) : Int)) ∧ (neg3 a b 1 = true → a * b = -((a.natAbs * b.natAbs : Nat) : Int)) := by
  rw [neg3_pos (by decide), ← Int.natAbs_mul]
  rcases Int.lt_or_le a 0 with ha | ha <;> rcases Int.lt_or_le b 0 with hb | hb
  · have := Int.mul_pos_of_neg_of_neg ha hb
    simp [ha, hb]; omega
  · have := Int.mul_nonpos_of_nonpos_of_nonneg (Int.le_of_lt ha) hb
    have hb' : ¬ b < 0 := by omega
    simp [ha, hb']; omega
  · have := Int.mul_nonpos_of_nonneg_of_nonpos ha (Int.le_of_lt hb)
    have ha' : ¬ a < 0 := by omega
    simp [ha', hb]; omega
  · have := Int.mul_nonneg ha hb
    have ha' : ¬ a < 0 := by omega
    have hb' : ¬ b < 0 := by omega
    simp [ha', hb']; omega

/-- Rounded down it is the whole number below; rounded up that above; to the nearest one of both. -/
theorem md_floor {a b c : Int} (hc : 0 < c) {m : Int} (h : (md a b c m).2 = true) :
    (m = 1 → (md a b c m).1 * c ≤ a * b ∧ a * b < (md a b c m).1 * c + c) ∧ (m = 2 → a * b ≤ (md a b c m).1 * c ∧ (md a b c m).1 * c < a * b + c) := by
  have ho : okM a b c m := Decidable.byContradiction fun hn => by rw [md_neg hn] at h; cases h
  have hn3 : neg3 a b c = neg3 a b 1 := by rw [neg3_pos hc, neg3_pos (by decide)]
  have h' := h
  rw [md_pos ho] at h'
  unfold core at h'
  have hv := fit_some h'
  have hv2 : (md a b c m).1 = _ := (congrArg Prod.fst (md_pos ho)).trans hv
  rw [hv2, hn3]
  clear hv2 hv h' h ho
  have hs := signed a b
  obtain ⟨d, rfl⟩ : ∃ d : Nat, c = d := ⟨c.toNat, by omega⟩
  have hd : 0 < d := by omega
  generalize a * b = X at *
  generalize a.natAbs * b.natAbs = p at *
  rw [Int.natAbs_natCast] at *
  have h1 := Nat.div_add_mod p d
  have h2 := Nat.mod_lt p hd
  generalize hq : p / d = q at *
  generalize hr : p % d = r at *
  generalize neg3 a b 1 = s at *
  have hqd : ((d * q : Nat) : Int) = (q : Int) * (d : Int) := by rw [Int.natCast_mul, Int.mul_comm]
  have hp : (p : Int) = (q : Int) * d + r := by rw [← hqd]; omega
  constructor
  · intro hm
    subst hm
    cases s
    · rw [hs.1 rfl]
      have he : more 1 false q r d = false := by unfold more; split <;> rfl
      simp only [he, Bool.toNat_false, Nat.add_zero, Bool.false_eq_true, if_false]
      omega
    · rw [hs.2 rfl]
      by_cases h0 : r = 0
      · have he : more 1 true q r d = false := by unfold more; rw [if_pos h0]
        simp only [he, Bool.toNat_false, Nat.add_zero, if_true, Int.neg_mul]
        omega
      · have he : more 1 true q r d = true := by unfold more; rw [if_neg h0]; rfl
        simp only [he, Bool.toNat_true, if_true, Int.neg_mul, Int.natCast_add, Int.add_mul, Int.natCast_one, Int.one_mul]
        omega
  · intro hm
    subst hm
    cases s
    · rw [hs.1 rfl]
      by_cases h0 : r = 0
      · have he : more 2 false q r d = false := by unfold more; rw [if_pos h0]
        simp only [he, Bool.toNat_false, Nat.add_zero, Bool.false_eq_true, if_false]
        omega
      · have he : more 2 false q r d = true := by unfold more; rw [if_neg h0]; rfl
        simp only [he, Bool.toNat_true, Bool.false_eq_true, if_false, Int.natCast_add, Int.add_mul, Int.natCast_one, Int.one_mul]
        omega
    · rw [hs.2 rfl]
      have he : more 2 true q r d = false := by unfold more; split <;> rfl
      simp only [he, Bool.toNat_false, Nat.add_zero, if_true, Int.neg_mul]
      omega

/-- However rounded, it is less than one away. -/
theorem md_near {a b c : Int} (hc : 0 < c) {m : Int} (h : (md a b c m).2 = true) :
    a * b - c < (md a b c m).1 * c ∧ (md a b c m).1 * c < a * b + c := by
  have ho : okM a b c m := Decidable.byContradiction fun hn => by rw [md_neg hn] at h; cases h
  have hn3 : neg3 a b c = neg3 a b 1 := by rw [neg3_pos hc, neg3_pos (by decide)]
  have h' := h
  rw [md_pos ho] at h'
  unfold core at h'
  have hv := fit_some h'
  have hv2 : (md a b c m).1 = _ := (congrArg Prod.fst (md_pos ho)).trans hv
  rw [hv2, hn3]
  clear hv2 hv h' h ho
  have hs := signed a b
  obtain ⟨d, rfl⟩ : ∃ d : Nat, c = d := ⟨c.toNat, by omega⟩
  have hd : 0 < d := by omega
  generalize a * b = X at *
  generalize a.natAbs * b.natAbs = p at *
  rw [Int.natAbs_natCast] at *
  have h1 := Nat.div_add_mod p d
  have h2 := Nat.mod_lt p hd
  generalize hq : p / d = q at *
  generalize hr : p % d = r at *
  generalize neg3 a b 1 = s at *
  have hqd : ((d * q : Nat) : Int) = (q : Int) * (d : Int) := by rw [Int.natCast_mul, Int.mul_comm]
  have hp : (p : Int) = (q : Int) * d + r := by rw [← hqd]; omega
  have hmore : r = 0 → more m s q r d = false := fun h0 => by unfold more; rw [if_pos h0]
  generalize more m s q r d = e at *
  cases s
  · rw [hs.1 rfl]
    cases e
    · simp only [Bool.toNat_false, Nat.add_zero, Bool.false_eq_true, if_false]
      omega
    · have h0 : r ≠ 0 := fun h => by cases hmore h
      simp only [Bool.toNat_true, Bool.false_eq_true, if_false, Int.natCast_add, Int.add_mul, Int.natCast_one, Int.one_mul]
      omega
  · rw [hs.2 rfl]
    cases e
    · simp only [Bool.toNat_false, Nat.add_zero, if_true, Int.neg_mul]
      omega
    · have h0 : r ≠ 0 := fun h => by cases hmore h
      simp only [Bool.toNat_true, if_true, Int.neg_mul, Int.natCast_add, Int.add_mul, Int.natCast_one, Int.one_mul]
      omega

/-- Both signs turned, a quotient is as it was. -/
theorem md_negc (a b c m : Int) : md (-a) b (-c) m = md a b c m := by
  unfold md
  have ho : okM (-a) b (-c) m ↔ okM a b c m := by unfold okM okW; omega
  by_cases h : okM a b c m
  · rw [if_pos h, if_pos (ho.mpr h)]
    by_cases ha : a = 0
    · subst ha
      simp [core, more_zero, fit]
    · unfold core
      have hc := h.2.2.2.1
      have : neg3 (-a) b (-c) = neg3 a b c := by
        rw [neg3_a ha]
        unfold neg3
        have : decide (-c < 0) = !decide (c < 0) := by
          rcases Int.lt_trichotomy c 0 with h1 | h1 | h1
          · simp [h1]; omega
          · exact absurd h1 hc
          · simp [h1]; omega
        rw [this]
        cases decide (a < 0) <;> cases decide (b < 0) <;> cases decide (c < 0) <;> rfl
      rw [this, Int.natAbs_neg, Int.natAbs_neg]
  · rw [if_neg h, if_neg (mt ho.mp h)]

end Go.Mdlaw

/-
  Whole numbers, enclosed: their sums, differences, products, quotients (no program's walk).
-/
set_option linter.unusedSimpArgs false
set_option linter.unusedVariables false
namespace Go.Proofs
open Go Go.Fx Go.Mdlaw Go.Rootlaw Go.Cmplaw

def small (n : Int) : Prop := -1048576 ≤ n ∧ n ≤ 1048576
def unitNm (n : Int) : Nm := ⟨n * 16777216, n * 16777216, n * 16777216, false⟩

theorem unit_okF {n : Int} (h : small n) : okF (n * 16777216) := by unfold small at h; unfold okF; omega
theorem unit_fine {n : Int} (h : small n) : fine (unitNm n) = true := by
  have := unit_okF h
  unfold fine unitNm
  simp [this]

theorem nOf_small {n : Int} (h : small n) : nOf n = unitNm n := by
  have hu := unit_okF h
  have e : md n 16777216 1 0 = (n * 16777216, true) := md_exact ⟨by unfold small at h; unfold okW; omega, by decide, by decide, by decide, by decide, by decide⟩ (by unfold okF at hu; unfold okW; omega) (by omega)
  have e2 : fOf n = (n * 16777216, true) := by
    unfold fOf td
    rw [e, if_pos ⟨rfl, by intro x hx; simp at hx; rw [hx]; exact hu⟩]
  unfold nOf
  rw [e2, if_pos rfl]
  unfold point
  rw [if_pos hu]
  rfl

theorem unit_wf {n : Int} (h : small n) : i64N (unitNm n) := by
  have := unit_okF h
  unfold okF at this
  unfold i64N unitNm i64
  dsimp only
  omega

theorem td_okF {n : Int} {is : Bool} {L : List Int} (h : (td n is L).2 = true) : ∀ x ∈ L, okF x := by
  unfold td at h
  split at h
  · rename_i hh; exact hh.2
  · cases h

theorem enc_of {x : Nm} {n d : Int} (hb : x.bad = false) (h1 : okF x.lo) (h2 : okF x.hi) (h3 : x.lo ≤ x.v) (h4 : x.v ≤ x.hi) (hd : 1 ≤ d) (hn : okW n) (hw : okW d) (hl : x.lo * d ≤ n * 16777216) (hh : n * 16777216 ≤ x.hi * d) : enc x n d = true := by
  unfold enc fine
  simp [hb, h1, h2, h3, h4, hd, hn, hw, hl, hh]

theorem small_mul {n m : Int} (hn : small n) (hm : small m) : -1099511627776 ≤ n * m ∧ n * m ≤ 1099511627776 := by
  have h : (n * m).natAbs ≤ 1048576 * 1048576 := by
    rw [Int.natAbs_mul]
    exact Nat.mul_le_mul (by unfold small at hn; omega) (by unfold small at hm; omega)
  omega

theorem exact_mul {n m : Int} (hn : small n) (hm : small m) : (nMul (unitNm n) (unitNm m)).bad = true ∨ enc (nMul (unitNm n) (unitNm m)) (n * m) 1 = true := by
  unfold nMul
  rcases made_cases fMul (unitNm n) (unitNm m) (pairs4 (unitNm n) (unitNm m)) with h | ⟨h1, h2, h3, h4, h⟩
  · rw [h]; exact .inl rfl
  · rw [h]
    right
    simp only [pairs4, unitNm, isAll, List.all_cons, Bool.and_eq_true] at h2
    have s1 := h2.1.1
    have s2 := h2.1.2
    simp only [unitNm] at h1
    have o1 := td_okF s1
    have o2 := td_okF s2
    have e0 := td_some h1
    have e1 := td_some s1
    have e2 := td_some s2
    have hm3 := md_modes (md_some' e0.2) e1.2 e0.2 e2.2
    have f1 := (md_floor (by decide) e1.2).1 rfl
    have f2 := (md_floor (by decide) e2.2).2 rfl
    have hz := small_mul hn hm
    have hprod : n * 16777216 * (m * 16777216) = n * m * 281474976710656 := by
      rw [Int.mul_assoc, Int.mul_comm 16777216 (m * 16777216), Int.mul_assoc m, ← Int.mul_assoc n]; rfl
    rw [hprod] at f1 f2
    simp only [pairs4, unitNm, lows, highs, List.map_cons, List.map_nil, least_same4, greatest_same4]
    have g1 : (fMul (n * 16777216) (m * 16777216) 1).1 = (md (n * 16777216) (m * 16777216) 16777216 1).1 := e1.1
    have g2 : (fMul (n * 16777216) (m * 16777216) 2).1 = (md (n * 16777216) (m * 16777216) 16777216 2).1 := e2.1
    have g0 : (fMul (n * 16777216) (m * 16777216) 0).1 = (md (n * 16777216) (m * 16777216) 16777216 0).1 := e0.1
    have k1 := o1 _ (List.mem_cons_of_mem _ (List.mem_cons_of_mem _ (List.mem_cons_self ..)))
    have k2 := o2 _ (List.mem_cons_of_mem _ (List.mem_cons_of_mem _ (List.mem_cons_self ..)))
    rw [g0, g1, g2]
    generalize md (n * 16777216) (m * 16777216) 16777216 1 = x1 at *
    generalize md (n * 16777216) (m * 16777216) 16777216 0 = x0 at *
    generalize md (n * 16777216) (m * 16777216) 16777216 2 = x2 at *
    generalize n * m = z at *
    exact enc_of rfl k1 k2 hm3.1 hm3.2.1 (by omega) (by unfold okW; omega) (by decide) (by dsimp only; omega) (by dsimp only; omega)

theorem fAdd_okF {a b : Int} (ha : okF a) (hb : okF b) (h : okF (a + b)) : fAdd a b = (a + b, true) := by
  unfold fAdd td
  rw [if_pos ⟨ha, hb⟩, if_pos ⟨rfl, by intro x hx; simp at hx; rw [hx]; exact h⟩]
theorem fSub_okF {a b : Int} (ha : okF a) (hb : okF b) (h : okF (a - b)) : fSub a b = (a - b, true) := by
  unfold fSub td
  rw [if_pos ⟨ha, hb⟩, if_pos ⟨rfl, by intro x hx; simp at hx; rw [hx]; exact h⟩]

theorem exact_add {n m : Int} (hn : small n) (hm : small m) : enc (nAdd (unitNm n) (unitNm m)) (n + m) 1 = true := by
  have hs : okF (n * 16777216 + m * 16777216) := by unfold small at *; unfold okF; omega
  have e := fAdd_okF (unit_okF hn) (unit_okF hm) hs
  have hmk : nAdd (unitNm n) (unitNm m) = ⟨n * 16777216 + m * 16777216, n * 16777216 + m * 16777216, n * 16777216 + m * 16777216, false⟩ := by
    unfold nAdd made
    have hc : (((fAdd (unitNm n).v (unitNm m).v).2 && isAll (fun x y _ => fAdd x y) [((unitNm n).lo, (unitNm m).lo), ((unitNm n).hi, (unitNm m).hi)]) && fine (unitNm n) && fine (unitNm m)) = true := by
      rw [unit_fine hn, unit_fine hm]
      simp only [unitNm, isAll, List.all_cons, List.all_nil, e, Bool.and_true]
    rw [if_pos hc]
    simp only [unitNm, lows, highs, List.map_cons, List.map_nil, e, least_same, greatest_same]
  rw [hmk]
  exact enc_of rfl hs hs (Int.le_refl _) (Int.le_refl _) (by omega) (by unfold small at *; unfold okW; omega) (by decide) (by dsimp only; omega) (by dsimp only; omega)

theorem exact_sub {n m : Int} (hn : small n) (hm : small m) : enc (nSub (unitNm n) (unitNm m)) (n - m) 1 = true := by
  have hs : okF (n * 16777216 - m * 16777216) := by unfold small at *; unfold okF; omega
  have e := fSub_okF (unit_okF hn) (unit_okF hm) hs
  have hmk : nSub (unitNm n) (unitNm m) = ⟨n * 16777216 - m * 16777216, n * 16777216 - m * 16777216, n * 16777216 - m * 16777216, false⟩ := by
    unfold nSub made
    have hc : (((fSub (unitNm n).v (unitNm m).v).2 && isAll (fun x y _ => fSub x y) [((unitNm n).lo, (unitNm m).hi), ((unitNm n).hi, (unitNm m).lo)]) && fine (unitNm n) && fine (unitNm m)) = true := by
      rw [unit_fine hn, unit_fine hm]
      simp only [unitNm, isAll, List.all_cons, List.all_nil, e, Bool.and_true]
    rw [if_pos hc]
    simp only [unitNm, lows, highs, List.map_cons, List.map_nil, e, least_same, greatest_same]
  rw [hmk]
  exact enc_of rfl hs hs (Int.le_refl _) (Int.le_refl _) (by omega) (by unfold small at *; unfold okW; omega) (by decide) (by dsimp only; omega) (by dsimp only; omega)


/-- A quotient of small whole numbers is told, and small. -/
theorem div_some {N M k : Int} (hN : small N) (hM : 0 < M ∧ M ≤ 1048576) (hk : 0 ≤ k ∧ k ≤ 2) : (md (N * 16777216) 16777216 (M * 16777216) k).2 = true ∧ okF (md (N * 16777216) 16777216 (M * 16777216) k).1 := by
  have ho : okM (N * 16777216) 16777216 (M * 16777216) k := ⟨by unfold small at hN; unfold okW; omega, by decide, by unfold okW; omega, by omega, hk⟩
  rw [md_pos ho]
  unfold core
  have hd : 16777216 ≤ (M * 16777216).natAbs := by omega
  have hp : (N * 16777216).natAbs * (16777216 : Int).natAbs / (M * 16777216).natAbs ≤ 17592186044416 := by
    refine Nat.le_trans (Nat.div_le_div_left hd (by decide)) ?_
    rw [show (16777216 : Int).natAbs = 16777216 from rfl, Nat.mul_div_cancel _ (by decide)]
    unfold small at hN
    omega
  generalize (N * 16777216).natAbs * (16777216 : Int).natAbs / (M * 16777216).natAbs = q at *
  have hb := Bool.toNat_le (more k (neg3 (N * 16777216) 16777216 (M * 16777216)) q ((N * 16777216).natAbs * (16777216 : Int).natAbs % (M * 16777216).natAbs) (M * 16777216).natAbs)
  generalize (more k (neg3 (N * 16777216) 16777216 (M * 16777216)) q ((N * 16777216).natAbs * (16777216 : Int).natAbs % (M * 16777216).natAbs) (M * 16777216).natAbs).toNat = e at *
  rw [fit_le (by omega)]
  refine ⟨rfl, ?_⟩
  unfold okF
  dsimp only
  split <;> omega

theorem div_told {N M k : Int} (hN : small N) (hM : 0 < M ∧ M ≤ 1048576) (hk : 0 ≤ k ∧ k ≤ 2) : fDiv (N * 16777216) (M * 16777216) k = ((md (N * 16777216) 16777216 (M * 16777216) k).1, true) := by
  have h := div_some hN hM hk
  unfold fDiv td
  rw [if_pos]
  refine ⟨h.1, ?_⟩
  intro x hx
  simp only [List.mem_cons, List.not_mem_nil, or_false] at hx
  rcases hx with rfl | rfl | rfl
  · exact unit_okF hN
  · exact unit_okF (by unfold small; omega)
  · exact h.2

theorem fDiv_neg {a b k : Int} (h1 : okF a) (h2 : okF b) : fDiv (-a) (-b) k = fDiv a b k := by
  unfold fDiv
  rw [md_negc]
  unfold td
  have : ((md a 16777216 b k).2 = true ∧ ∀ x ∈ [-a, -b, (md a 16777216 b k).1], okF x) ↔ ((md a 16777216 b k).2 = true ∧ ∀ x ∈ [a, b, (md a 16777216 b k).1], okF x) := by
    simp only [List.mem_cons, List.not_mem_nil, or_false, forall_eq_or_imp, forall_eq]
    have n1 : okF (-a) := by unfold okF at *; omega
    have n2 : okF (-b) := by unfold okF at *; omega
    simp only [h1, h2, n1, n2, true_and]
  by_cases h : ((md a 16777216 b k).2 = true ∧ ∀ x ∈ [a, b, (md a 16777216 b k).1], okF x)
  · rw [if_pos h, if_pos (this.mpr h)]
  · rw [if_neg h, if_neg (mt this.mp h)]

/-- What is told of a quotient of small whole numbers by one above 0. -/
theorem enc_div {N M : Int} (hN : small N) (hM : 0 < M ∧ M ≤ 1048576) (x : Nm) (hx : x = ⟨(md (N * 16777216) 16777216 (M * 16777216) 0).1, (md (N * 16777216) 16777216 (M * 16777216) 1).1, (md (N * 16777216) 16777216 (M * 16777216) 2).1, false⟩) : enc x N M = true := by
  have d0 := div_some hN hM (k := 0) (by decide)
  have d1 := div_some hN hM (k := 1) (by decide)
  have d2 := div_some hN hM (k := 2) (by decide)
  have hm3 := md_modes (md_some' d0.1) d1.1 d0.1 d2.1
  have f1 := (md_floor (by omega) d1.1).1 rfl
  have f2 := (md_floor (by omega) d2.1).2 rfl
  subst hx
  generalize md (N * 16777216) 16777216 (M * 16777216) 0 = x0 at *
  generalize md (N * 16777216) 16777216 (M * 16777216) 1 = x1 at *
  generalize md (N * 16777216) 16777216 (M * 16777216) 2 = x2 at *
  rw [← Int.mul_assoc] at f1 f2
  generalize hz1 : x1.1 * M = z1 at *
  generalize hz2 : x2.1 * M = z2 at *
  refine enc_of rfl d1.2 d2.2 hm3.1 hm3.2.1 (by omega) (by unfold small at hN; unfold okW; omega) (by unfold okW; omega) ?_ ?_
  · dsimp only; rw [hz1]; omega
  · dsimp only; rw [hz2]; omega

theorem made_div {n m : Int} (hn : small n) (hm : small m) (h0 : m ≠ 0) {v l u : Int} (e0 : fDiv (n * 16777216) (m * 16777216) 0 = (v, true)) (e1 : fDiv (n * 16777216) (m * 16777216) 1 = (l, true)) (e2 : fDiv (n * 16777216) (m * 16777216) 2 = (u, true)) :
    nDiv (unitNm n) (unitNm m) = ⟨v, l, u, false⟩ := by
  unfold nDiv
  rw [if_neg (by simp only [unitNm]; omega)]
  unfold made
  have hc : (((fDiv (unitNm n).v (unitNm m).v 0).2 && isAll fDiv (pairs4 (unitNm n) (unitNm m))) && fine (unitNm n) && fine (unitNm m)) = true := by
    rw [unit_fine hn, unit_fine hm]
    simp only [unitNm, pairs4, isAll, List.all_cons, List.all_nil, e0, e1, e2, Bool.and_true]
  rw [if_pos hc]
  simp only [unitNm, pairs4, lows, highs, List.map_cons, List.map_nil, e0, e1, e2, least_same4, greatest_same4]

theorem exact_div {n m : Int} (hn : small n) (hm : small m) : (m = 0 → (nDiv (unitNm n) (unitNm m)).bad = true) ∧ (0 < m → enc (nDiv (unitNm n) (unitNm m)) n m = true) ∧ (m < 0 → enc (nDiv (unitNm n) (unitNm m)) (-n) (-m) = true) := by
  refine ⟨fun h => ?_, fun h => ?_, fun h => ?_⟩
  · subst h; rfl
  · have hM : 0 < m ∧ m ≤ 1048576 := ⟨h, hm.2⟩
    exact enc_div hn hM _ (made_div hn hm (by omega) (div_told hn hM (by decide)) (div_told hn hM (by decide)) (div_told hn hM (by decide)))
  · have hM : 0 < -m ∧ -m ≤ 1048576 := by unfold small at hm; omega
    have hN : small (-n) := by unfold small at *; omega
    have ed : ∀ k, 0 ≤ k ∧ k ≤ 2 → fDiv (n * 16777216) (m * 16777216) k = ((md (-n * 16777216) 16777216 (-m * 16777216) k).1, true) := fun k hk => by
      rw [← fDiv_neg (unit_okF hn) (unit_okF hm), ← Int.neg_mul, ← Int.neg_mul]
      exact div_told hN hM hk
    exact enc_div hN hM _ (made_div hn hm (by omega) (ed 0 (by decide)) (ed 1 (by decide)) (ed 2 (by decide)))

end Go.Proofs

/-
  What is told of enclosed numbers is Fine, or Bad (no walk).
-/
set_option linter.unusedSimpArgs false
set_option linter.unusedVariables false
set_option maxRecDepth 100000
namespace Go.Proofs
open Go Go.Fx Go.Mdlaw Go.Rootlaw Go.Cmplaw

theorem foldl_min_le : ∀ (L : List Int) (x : Int), L.foldl min x ≤ x ∧ ∀ y ∈ L, L.foldl min x ≤ y
  | [], x => ⟨Int.le_refl _, fun y hy => by cases hy⟩
  | z :: L, x => by
    have h := foldl_min_le L (min x z)
    rw [List.foldl_cons]
    refine ⟨by omega, fun y hy => ?_⟩
    rcases List.mem_cons.mp hy with rfl | hy
    · omega
    · exact h.2 y hy
theorem foldl_le_max : ∀ (L : List Int) (x : Int), x ≤ L.foldl max x ∧ ∀ y ∈ L, y ≤ L.foldl max x
  | [], x => ⟨Int.le_refl _, fun y hy => by cases hy⟩
  | z :: L, x => by
    have h := foldl_le_max L (max x z)
    rw [List.foldl_cons]
    refine ⟨by omega, fun y hy => ?_⟩
    rcases List.mem_cons.mp hy with rfl | hy
    · omega
    · exact h.2 y hy
theorem least_le {L : List Int} {y : Int} (h : y ∈ L) : least L ≤ y := by
  cases L with
  | nil => cases h
  | cons x L =>
    show L.foldl min x ≤ y
    rcases List.mem_cons.mp h with rfl | h
    · exact (foldl_min_le L _).1
    · exact (foldl_min_le L _).2 y h
theorem le_greatest {L : List Int} {y : Int} (h : y ∈ L) : y ≤ greatest L := by
  cases L with
  | nil => cases h
  | cons x L =>
    show y ≤ L.foldl max x
    rcases List.mem_cons.mp h with rfl | h
    · exact (foldl_le_max L _).1
    · exact (foldl_le_max L _).2 y h
theorem foldl_min_mem : ∀ (L : List Int) (x : Int), L.foldl min x = x ∨ L.foldl min x ∈ L
  | [], x => .inl rfl
  | z :: L, x => by
    rw [List.foldl_cons]
    rcases foldl_min_mem L (min x z) with h | h
    · rw [h]
      by_cases hz : x ≤ z
      · exact .inl (by omega)
      · exact .inr (by rw [show min x z = z by omega]; exact List.mem_cons_self ..)
    · exact .inr (List.mem_cons_of_mem _ h)
theorem foldl_max_mem : ∀ (L : List Int) (x : Int), L.foldl max x = x ∨ L.foldl max x ∈ L
  | [], x => .inl rfl
  | z :: L, x => by
    rw [List.foldl_cons]
    rcases foldl_max_mem L (max x z) with h | h
    · rw [h]
      by_cases hz : z ≤ x
      · exact .inl (by omega)
      · exact .inr (by rw [show max x z = z by omega]; exact List.mem_cons_self ..)
    · exact .inr (List.mem_cons_of_mem _ h)
theorem least_mem {L : List Int} (h : L ≠ []) : least L ∈ L := by
  cases L with
  | nil => exact absurd rfl h
  | cons x L =>
    show L.foldl min x ∈ x :: L
    rcases foldl_min_mem L x with e | e
    · rw [e]; exact List.mem_cons_self ..
    · exact List.mem_cons_of_mem _ e
theorem greatest_mem {L : List Int} (h : L ≠ []) : greatest L ∈ L := by
  cases L with
  | nil => exact absurd rfl h
  | cons x L =>
    show L.foldl max x ∈ x :: L
    rcases foldl_max_mem L x with e | e
    · rw [e]; exact List.mem_cons_self ..
    · exact List.mem_cons_of_mem _ e

/-- What is told is Bad, or Fine, if each number is told as one that may be, and the value lies between some of both. -/
theorem made_fine (f : Fn) (a b : Nm) (P : List (Int × Int)) (hP : P ≠ []) (hok : ∀ x y m, (f x y m).2 = true → okF (f x y m).1)
    (hin : (f a.v b.v 0).2 = true → isAll f P = true → fine a = true → fine b = true → (∃ p ∈ P, (f p.1 p.2 1).1 ≤ (f a.v b.v 0).1) ∧ (∃ p ∈ P, (f a.v b.v 0).1 ≤ (f p.1 p.2 2).1)) :
    made f a b P = wrong ∨ fine (made f a b P) = true := by
  rcases made_cases f a b P with h | ⟨h1, h2, h3, h4, h⟩
  · exact .inl h
  · right
    rw [h]
    obtain ⟨⟨p, hp, hl⟩, ⟨q, hq, hg⟩⟩ := hin h1 h2 h3 h4
    have l1 := least_le (L := lows f P) (List.mem_map.mpr ⟨p, hp, rfl⟩)
    have g1 := le_greatest (L := highs f P) (List.mem_map.mpr ⟨q, hq, rfl⟩)
    have hne : lows f P ≠ [] := fun e => hP (List.map_eq_nil_iff.mp e)
    have hne2 : highs f P ≠ [] := fun e => hP (List.map_eq_nil_iff.mp e)
    have all : ∀ p ∈ P, (f p.1 p.2 1).2 = true ∧ (f p.1 p.2 2).2 = true := fun p hp => by
      have := List.all_eq_true.mp h2 p hp
      simpa using this
    have ol : okF (least (lows f P)) := by
      obtain ⟨p, hp, e⟩ := List.mem_map.mp (least_mem hne)
      have e' : (f p.1 p.2 1).1 = least (lows f P) := e
      rw [← e']; exact hok _ _ _ (all p hp).1
    have og : okF (greatest (highs f P)) := by
      obtain ⟨p, hp, e⟩ := List.mem_map.mp (greatest_mem hne2)
      have e' : (f p.1 p.2 2).1 = greatest (highs f P) := e
      rw [← e']; exact hok _ _ _ (all p hp).2
    unfold fine
    simp only [Bool.and_eq_true, decide_eq_true_eq, Bool.not_eq_true']
    exact ⟨⟨⟨⟨trivial, ol⟩, og⟩, by omega⟩, by omega⟩

theorem fAdd_some {a b : Int} (h : (fAdd a b).2 = true) : (fAdd a b).1 = a + b ∧ okF (a + b) := by
  unfold fAdd at *
  split at h
  · rename_i hh
    rw [if_pos hh]
    unfold td at *
    split at h
    · rename_i h2; rw [if_pos h2]; exact ⟨rfl, h2.2 _ (by simp)⟩
    · cases h
  · cases h

theorem fine_add (a b : Nm) : nAdd a b = wrong ∨ fine (nAdd a b) = true := by
  refine made_fine _ a b _ (by simp) (fun x y m h => by rw [(fAdd_some h).1]; exact (fAdd_some h).2) fun h1 h2 h3 h4 => ?_
  have fa := fine_okF h3
  have fb := fine_okF h4
  simp only [isAll, List.all_cons, List.all_nil, Bool.and_eq_true, Bool.and_true] at h2
  have e0 := (fAdd_some h1).1
  have e1 := (fAdd_some h2.1.1).1
  have e2 := (fAdd_some h2.2.1).1
  refine ⟨⟨(a.lo, b.lo), by simp, ?_⟩, ⟨(a.hi, b.hi), by simp, ?_⟩⟩
  · show (fAdd a.lo b.lo).1 ≤ (fAdd a.v b.v).1; rw [e0, e1]; omega
  · show (fAdd a.v b.v).1 ≤ (fAdd a.hi b.hi).1; rw [e0, e2]; omega

theorem fine_sub (a b : Nm) : nSub a b = wrong ∨ fine (nSub a b) = true := by
  refine made_fine _ a b _ (by simp) (fun x y m h => by rw [(fSub_some h).1]; exact (fSub_some h).2) fun h1 h2 h3 h4 => ?_
  have fa := fine_okF h3
  have fb := fine_okF h4
  simp only [isAll, List.all_cons, List.all_nil, Bool.and_eq_true, Bool.and_true] at h2
  have e0 := (fSub_some h1).1
  have e1 := (fSub_some h2.1.1).1
  have e2 := (fSub_some h2.2.1).1
  refine ⟨⟨(a.lo, b.hi), by simp, ?_⟩, ⟨(a.hi, b.lo), by simp, ?_⟩⟩
  · show (fSub a.lo b.hi).1 ≤ (fSub a.v b.v).1; rw [e0, e1]; omega
  · show (fSub a.v b.v).1 ≤ (fSub a.hi b.lo).1; rw [e0, e2]; omega

/-- One factor moved to an end of its bounds. -/
theorem mul_end {x l h y : Int} (h1 : l ≤ x) (h2 : x ≤ h) : (l * y ≤ x * y ∨ h * y ≤ x * y) ∧ (x * y ≤ l * y ∨ x * y ≤ h * y) := by
  rcases Int.le_total 0 y with hy | hy
  · exact ⟨.inl (Int.mul_le_mul_of_nonneg_right h1 hy), .inr (Int.mul_le_mul_of_nonneg_right h2 hy)⟩
  · exact ⟨.inr (Int.mul_le_mul_of_nonpos_right h2 hy), .inl (Int.mul_le_mul_of_nonpos_right h1 hy)⟩

/-- A product of numbers between bounds lies between products of bounds. -/
theorem corners {a b : Nm} {x y : Int} (h1 : a.lo ≤ x) (h2 : x ≤ a.hi) (h3 : b.lo ≤ y) (h4 : y ≤ b.hi) : (∃ p ∈ pairs4 a b, p.1 * p.2 ≤ x * y) ∧ (∃ p ∈ pairs4 a b, x * y ≤ p.1 * p.2) := by
  have k1 := mul_end (y := y) h1 h2
  have k2 := mul_end (y := a.lo) h3 h4
  have k3 := mul_end (y := a.hi) h3 h4
  rw [Int.mul_comm b.lo, Int.mul_comm y, Int.mul_comm b.hi] at k2 k3
  constructor
  · rcases k1.1 with h | h
    · rcases k2.1 with g | g
      · exact ⟨(a.lo, b.lo), by simp [pairs4], Int.le_trans g h⟩
      · exact ⟨(a.lo, b.hi), by simp [pairs4], Int.le_trans g h⟩
    · rcases k3.1 with g | g
      · exact ⟨(a.hi, b.lo), by simp [pairs4], Int.le_trans g h⟩
      · exact ⟨(a.hi, b.hi), by simp [pairs4], Int.le_trans g h⟩
  · rcases k1.2 with h | h
    · rcases k2.2 with g | g
      · exact ⟨(a.lo, b.lo), by simp [pairs4], Int.le_trans h g⟩
      · exact ⟨(a.lo, b.hi), by simp [pairs4], Int.le_trans h g⟩
    · rcases k3.2 with g | g
      · exact ⟨(a.hi, b.lo), by simp [pairs4], Int.le_trans h g⟩
      · exact ⟨(a.hi, b.hi), by simp [pairs4], Int.le_trans h g⟩

theorem fMul_some {a b m : Int} (h : (fMul a b m).2 = true) : (fMul a b m).1 = (md a b 16777216 m).1 ∧ (md a b 16777216 m).2 = true ∧ okF (fMul a b m).1 := by
  unfold fMul at *
  have e := td_some h
  have o := td_okF h
  refine ⟨e.1, e.2, ?_⟩
  rw [e.1]
  exact o _ (by simp)

theorem fine_mul (a b : Nm) : nMul a b = wrong ∨ fine (nMul a b) = true := by
  refine made_fine _ a b _ (by simp [pairs4]) (fun x y m h => (fMul_some h).2.2) fun h1 h2 h3 h4 => ?_
  have fa := fine_okF h3
  have fb := fine_okF h4
  have all := List.all_eq_true.mp h2
  obtain ⟨⟨p, hp, c1⟩, ⟨q, hq, c2⟩⟩ := corners (a := a) (b := b) fa.2.2.1 fa.2.2.2.1 fb.2.2.1 fb.2.2.2.1
  have e0 := fMul_some h1
  have n0 := md_near (by decide) e0.2.1
  refine ⟨⟨p, hp, ?_⟩, ⟨q, hq, ?_⟩⟩
  · have ep := fMul_some (Bool.and_eq_true _ _ ▸ all p hp).1
    have fp := (md_floor (by decide) ep.2.1).1 rfl
    rw [e0.1, ep.1]
    generalize a.v * b.v = X at *
    generalize p.1 * p.2 = C at *
    omega
  · have eq := fMul_some (Bool.and_eq_true _ _ ▸ all q hq).2
    have fq := (md_floor (by decide) eq.2.1).2 rfl
    rw [e0.1, eq.1]
    generalize a.v * b.v = X at *
    generalize q.1 * q.2 = C at *
    omega


/-- A quotient is at least one of two quotients of bounds, rounded down. -/
theorem quo_low {x l y lo hi v Fl Fh : Int} (h0 : 0 < lo) (h1 : lo ≤ y) (h2 : y ≤ hi) (hx : l ≤ x) (hv : x * 16777216 - y < v * y) (fl : Fl * lo ≤ l * 16777216) (fh : Fh * hi ≤ l * 16777216 ∧ l * 16777216 < Fh * hi + hi) : Fl ≤ v ∨ Fh ≤ v := by
  have key : ∀ F : Int, F * y ≤ x * 16777216 → F ≤ v := fun F hF => by
    have h3 : (F - 1) * y < v * y := by rw [Int.sub_mul, Int.one_mul]; omega
    have := Int.lt_of_mul_lt_mul_right h3 (by omega)
    omega
  rcases Int.lt_or_le l 0 with hl | hl
  · left
    refine key _ ?_
    have hF : Fl ≤ 0 := by
      apply Int.not_lt.mp; intro h
      have := Int.mul_pos h h0
      omega
    have := Int.mul_le_mul_of_nonpos_left hF h1
    omega
  · right
    refine key _ ?_
    have hF : 0 ≤ Fh := by
      apply Int.not_lt.mp; intro h
      have h4 : (Fh + 1) * hi ≤ 0 := Int.mul_nonpos_of_nonpos_of_nonneg (by omega) (by omega)
      rw [Int.add_mul, Int.one_mul] at h4
      omega
    have := Int.mul_le_mul_of_nonneg_left h2 hF
    omega

/-- A quotient is at most one of two quotients of bounds, rounded up. -/
theorem quo_high {x u y lo hi v Gl Gh : Int} (h0 : 0 < lo) (h1 : lo ≤ y) (h2 : y ≤ hi) (hx : x ≤ u) (hv : v * y < x * 16777216 + y) (gl : u * 16777216 ≤ Gl * lo) (gh : u * 16777216 ≤ Gh * hi ∧ Gh * hi < u * 16777216 + hi) : v ≤ Gl ∨ v ≤ Gh := by
  have key : ∀ F : Int, x * 16777216 ≤ F * y → v ≤ F := fun F hF => by
    have h3 : v * y < (F + 1) * y := by rw [Int.add_mul, Int.one_mul]; omega
    have := Int.lt_of_mul_lt_mul_right h3 (by omega)
    omega
  rcases Int.lt_or_le u 0 with hl | hl
  · right
    refine key _ ?_
    have hF : Gh ≤ 0 := by
      apply Int.not_lt.mp; intro h
      have h4 : 0 ≤ (Gh - 1) * hi := Int.mul_nonneg (by omega) (by omega)
      rw [Int.sub_mul, Int.one_mul] at h4
      omega
    have := Int.mul_le_mul_of_nonpos_left hF h2
    omega
  · left
    refine key _ ?_
    have hF : 0 ≤ Gl := by
      apply Int.not_lt.mp; intro h
      have := Int.mul_neg_of_neg_of_pos h h0
      omega
    have := Int.mul_le_mul_of_nonneg_left h1 hF
    omega

theorem fDiv_some {a b m : Int} (h : (fDiv a b m).2 = true) : (fDiv a b m).1 = (md a 16777216 b m).1 ∧ (md a 16777216 b m).2 = true ∧ okF (fDiv a b m).1 := by
  unfold fDiv at *
  have e := td_some h
  have o := td_okF h
  refine ⟨e.1, e.2, ?_⟩
  rw [e.1]
  exact o _ (by simp)

theorem fine_div (a b : Nm) : nDiv a b = wrong ∨ fine (nDiv a b) = true := by
  unfold nDiv
  by_cases hz : b.lo ≤ 0 ∧ 0 ≤ b.hi
  · rw [if_pos hz]; exact .inl rfl
  rw [if_neg hz]
  refine made_fine _ a b _ (by simp [pairs4]) (fun x y m h => (fDiv_some h).2.2) fun h1 h2 h3 h4 => ?_
  have fa := fine_okF h3
  have fb := fine_okF h4
  have all := List.all_eq_true.mp h2
  have get : ∀ p ∈ pairs4 a b, (fDiv p.1 p.2 1).2 = true ∧ (fDiv p.1 p.2 2).2 = true := fun p hp => Bool.and_eq_true _ _ ▸ all p hp
  have e0 := fDiv_some h1
  have m1 : (a.lo, b.lo) ∈ pairs4 a b := by simp [pairs4]
  have m2 : (a.lo, b.hi) ∈ pairs4 a b := by simp [pairs4]
  have m3 : (a.hi, b.lo) ∈ pairs4 a b := by simp [pairs4]
  have m4 : (a.hi, b.hi) ∈ pairs4 a b := by simp [pairs4]
  rcases Int.lt_or_le 0 b.lo with hp | hp
  · have n0 := md_near (by omega) e0.2.1
    have q1 := fDiv_some (get _ m1).1
    have q2 := fDiv_some (get _ m2).1
    have q3 := fDiv_some (get _ m3).2
    have q4 := fDiv_some (get _ m4).2
    dsimp only at q1 q2 q3 q4
    have f1 := (md_floor hp q1.2.1).1 rfl
    have f2 := (md_floor (by omega) q2.2.1).1 rfl
    have f3 := (md_floor hp q3.2.1).2 rfl
    have f4 := (md_floor (by omega) q4.2.1).2 rfl
    rw [← e0.1] at n0
    rw [← q1.1] at f1
    rw [← q2.1] at f2
    rw [← q3.1] at f3
    rw [← q4.1] at f4
    constructor
    · rcases quo_low hp fb.2.2.1 fb.2.2.2.1 fa.2.2.1 n0.1 f1.1 f2 with h | h
      · exact ⟨_, m1, h⟩
      · exact ⟨_, m2, h⟩
    · rcases quo_high hp fb.2.2.1 fb.2.2.2.1 fa.2.2.2.1 n0.2 f3.1 f4 with h | h
      · exact ⟨_, m3, h⟩
      · exact ⟨_, m4, h⟩
  · have hn : b.hi < 0 := by omega
    have q1 := fDiv_some (get _ m1).2
    have q2 := fDiv_some (get _ m2).2
    have q3 := fDiv_some (get _ m3).1
    have q4 := fDiv_some (get _ m4).1
    dsimp only at q1 q2 q3 q4
    have t0 := e0.2.1
    have t1 := q1.2.1
    have t2 := q2.2.1
    have t3 := q3.2.1
    have t4 := q4.2.1
    rw [← md_negc] at t0 t1 t2 t3 t4
    have n0 := md_near (by omega) t0
    have f1 := (md_floor (by omega) t1).2 rfl
    have f2 := (md_floor (by omega) t2).2 rfl
    have f3 := (md_floor (by omega) t3).1 rfl
    have f4 := (md_floor (by omega) t4).1 rfl
    rw [md_negc, ← e0.1] at n0
    rw [md_negc, ← q1.1] at f1
    rw [md_negc, ← q2.1] at f2
    rw [md_negc, ← q3.1] at f3
    rw [md_negc, ← q4.1] at f4
    constructor
    · rcases quo_low (x := -a.v) (l := -a.hi) (y := -b.v) (lo := -b.hi) (hi := -b.lo) (by omega) (by omega) (by omega) (by omega) n0.1 f4.1 f3 with h | h
      · exact ⟨_, m4, h⟩
      · exact ⟨_, m3, h⟩
    · rcases quo_high (x := -a.v) (u := -a.lo) (y := -b.v) (lo := -b.hi) (hi := -b.lo) (by omega) (by omega) (by omega) (by omega) n0.2 f2.1 f1 with h | h
      · exact ⟨_, m2, h⟩
      · exact ⟨_, m1, h⟩

theorem isq_mono {x y : Int} (h : x.natAbs ≤ y.natAbs) : isq x ≤ isq y := by
  have h1 := isq_le x
  have h2 := isq_lt y
  have h3 := isq_le y
  exact (le_root h3 h2 (isq x)).mp (Nat.le_trans h1 (Nat.mul_le_mul_right _ h))

theorem rup_mono {R P Q : Nat} (h1 : R * R ≤ P) (h : P ≤ Q) : (rup 0 R P).toNat ≤ (rup 2 R Q).toNat := by
  unfold rup
  by_cases hQ : R * R = Q
  · have hP : R * R = P := by omega
    simp [hP]
  · have : (!decide (R * R = Q) && (decide ((2 : Int) = 2) || decide ((2 : Int) = 0) && decide (R * (R + 1) < Q))) = true := by simp [hQ]
    rw [this]
    exact Bool.toNat_le _

theorem fRt_some {a m : Int} (h : (fRt a m).2 = true) : 0 ≤ a ∧ okF (fRt a m).1 ∧ (fRt a m).1 = ((isq a + (rup m (isq a) (a.natAbs * 16777216)).toNat : Nat) : Int) := by
  unfold fRt fRoot at *
  have e := td_some h
  have o := td_okF h
  have ho : okRt a 16777216 m := Decidable.byContradiction fun hn => by unfold rt at e; rw [if_neg hn] at e; cases e.2
  refine ⟨?_, by rw [e.1]; exact o _ (by simp), ?_⟩
  · have := ho.1.2.2; omega
  · rw [e.1]; unfold rt; rw [if_pos ho]; rfl

theorem fine_root (a : Nm) : nRoot a = wrong ∨ fine (nRoot a) = true := by
  refine made_fine _ a a _ (by simp) (fun x y m h => (fRt_some h).2.1) fun h1 h2 h3 _ => ?_
  have fa := fine_okF h3
  simp only [isAll, List.all_cons, List.all_nil, Bool.and_eq_true, Bool.and_true] at h2
  have e0 := fRt_some h1
  have e1 := fRt_some h2.1.1
  have e2 := fRt_some h2.2.2
  refine ⟨⟨(a.lo, a.lo), by simp, ?_⟩, ⟨(a.hi, a.hi), by simp, ?_⟩⟩
  · show (fRt a.lo 1).1 ≤ (fRt a.v 0).1
    have hm := isq_mono (x := a.lo) (y := a.v) (by omega)
    rw [e0.2.2, e1.2.2]
    have hu : rup 1 (isq a.lo) (a.lo.natAbs * 16777216) = false := by unfold rup; simp
    rw [hu, Bool.toNat_false]
    omega
  · show (fRt a.v 0).1 ≤ (fRt a.hi 2).1
    have hm := isq_mono (x := a.v) (y := a.hi) (by omega)
    rw [e0.2.2, e2.2.2]
    rcases Nat.lt_or_ge (isq a.v) (isq a.hi) with h | h
    · have := Bool.toNat_le (rup 0 (isq a.v) (a.v.natAbs * 16777216))
      omega
    · have he : isq a.v = isq a.hi := by omega
      have hle : a.v.natAbs * 16777216 ≤ a.hi.natAbs * 16777216 := Nat.mul_le_mul_right _ (by omega)
      have l1 := isq_le a.v
      rw [he] at l1 ⊢
      exact Int.ofNat_le.mpr (Nat.add_le_add_left (rup_mono l1 hle) _)

end Go.Proofs

/-
  What is told of numbers encloses what is told of any within their bounds (no program in sight).
-/
set_option linter.unusedSimpArgs false
set_option linter.unusedVariables false
set_option maxRecDepth 100000
namespace Go.Proofs
open Go Go.Fx Go.Mdlaw Go.Rootlaw Go.Cmplaw

theorem md_tells {a b c m : Int} {K : Nat} (ha : okW a) (hb : okW b) (hc : okW c) (hz : c ≠ 0) (hm : 0 ≤ m ∧ m ≤ 2) (hK : K ≤ 4611686018427387903) (h : a.natAbs * b.natAbs ≤ K * c.natAbs) :
    (md a b c m).2 = true ∧ (md a b c m).1.natAbs ≤ K := by
  rw [md_pos ⟨ha, hb, hc, hz, hm⟩]
  unfold core
  have hd : 0 < c.natAbs := by omega
  generalize a.natAbs * b.natAbs = p at *
  generalize c.natAbs = d at *
  generalize neg3 a b c = s
  have h1 := Nat.div_add_mod p d
  have h2 := Nat.mod_lt p hd
  have hQ : p / d + (more m s (p / d) (p % d) d).toNat ≤ K := by
    have hq : p / d ≤ K := Nat.div_le_of_le_mul (by rw [Nat.mul_comm]; exact h)
    by_cases h0 : p % d = 0
    · have : more m s (p / d) (p % d) d = false := by unfold more; rw [if_pos h0]
      rw [this]; simpa using hq
    · have hlt : p / d < K := by
        apply Nat.lt_of_not_le
        intro hge
        have := Nat.mul_le_mul_right d hge
        rw [Nat.mul_comm (p / d) d] at this
        omega
      have := Bool.toNat_le (more m s (p / d) (p % d) d)
      omega
  generalize p / d + (more m s (p / d) (p % d) d).toNat = Q at *
  rw [fit_le (by omega)]
  refine ⟨rfl, ?_⟩
  cases s
  · show (Q : Int).natAbs ≤ K; omega
  · show (-(Q : Int)).natAbs ≤ K; omega

def wi (i o : Nm) : Prop := o.bad = true ∨ (i.bad = false ∧ o.lo ≤ i.lo ∧ i.hi ≤ o.hi)
def pt (x : Int) : Nm := ⟨x, x, x, false⟩
theorem pt_fine {x : Int} (hx : okF x) : fine (pt x) = true := by unfold fine pt; simp [hx]
theorem point_pt {x : Int} (hx : okF x) : point x = pt x := if_pos hx

theorem made_within (f : Fn) (a b : Nm) (x y : Int) (P P' : List (Int × Int)) (hx : okF x) (hy : okF y) (hP : ∀ q ∈ P', q = (x, y)) (hne : P' ≠ [])
    (H : isAll f P = true → fine a = true → fine b = true → ((f x y 0).2 = true ∧ (f x y 1).2 = true ∧ (f x y 2).2 = true) ∧ (∃ p ∈ P, (f p.1 p.2 1).1 ≤ (f x y 1).1) ∧ (∃ p ∈ P, (f x y 2).1 ≤ (f p.1 p.2 2).1)) :
    wi (made f (pt x) (pt y) P') (made f a b P) := by
  rcases made_cases f a b P with h | ⟨h1, h2, h3, h4, h⟩
  · rw [h]; exact .inl rfl
  · obtain ⟨⟨t0, t1, t2⟩, ⟨p, hp, hl⟩, ⟨q, hq, hg⟩⟩ := H h2 h3 h4
    have hall : isAll f P' = true := List.all_eq_true.mpr fun q hq => by rw [hP q hq]; simp [t1, t2]
    have e : made f (pt x) (pt y) P' = ⟨(f x y 0).1, least (lows f P'), greatest (highs f P'), false⟩ := by
      unfold made
      rw [if_pos (by show ((f x y 0).2 && isAll f P' && fine (pt x) && fine (pt y)) = true; rw [t0, hall, pt_fine hx, pt_fine hy]; rfl)]
      rfl
    have m1 : least (lows f P') = (f x y 1).1 := by
      obtain ⟨r, hr, e⟩ := List.mem_map.mp (least_mem (L := lows f P') fun e => hne (List.map_eq_nil_iff.mp e))
      rw [hP r hr] at e; exact e.symm
    have m2 : greatest (highs f P') = (f x y 2).1 := by
      obtain ⟨r, hr, e⟩ := List.mem_map.mp (greatest_mem (L := highs f P') fun e => hne (List.map_eq_nil_iff.mp e))
      rw [hP r hr] at e; exact e.symm
    right
    rw [h, e, m1, m2]
    refine ⟨rfl, Int.le_trans (least_le (List.mem_map.mpr ⟨p, hp, rfl⟩)) hl, Int.le_trans hg (le_greatest (List.mem_map.mpr ⟨q, hq, rfl⟩))⟩

theorem fAdd_tells {a b : Int} (ha : okF a) (hb : okF b) (h : okF (a + b)) : fAdd a b = (a + b, true) := by
  unfold fAdd td
  rw [if_pos ⟨ha, hb⟩, if_pos ⟨rfl, fun x hx => by simp at hx; rw [hx]; exact h⟩]
theorem fSub_tells {a b : Int} (ha : okF a) (hb : okF b) (h : okF (a - b)) : fSub a b = (a - b, true) := by
  unfold fSub td
  rw [if_pos ⟨ha, hb⟩, if_pos ⟨rfl, fun x hx => by simp at hx; rw [hx]; exact h⟩]

theorem within_add (a b : Nm) {x y : Int} (hx : okF x) (hy : okF y) (h1 : a.lo ≤ x) (h2 : x ≤ a.hi) (h3 : b.lo ≤ y) (h4 : y ≤ b.hi) : wi (nAdd (pt x) (pt y)) (nAdd a b) := by
  refine made_within _ a b x y _ _ hx hy (by simp [pt]) (by simp) fun h _ _ => ?_
  simp only [isAll, List.all_cons, List.all_nil, Bool.and_eq_true, Bool.and_true] at h
  have e1 := fAdd_some h.1.1
  have e2 := fAdd_some h.2.1
  have e0 := fAdd_tells hx hy (by have := e1.2; have := e2.2; unfold okF at *; omega)
  refine ⟨⟨by rw [e0], by rw [e0], by rw [e0]⟩, ⟨(a.lo, b.lo), by simp, ?_⟩, ⟨(a.hi, b.hi), by simp, ?_⟩⟩
  · show (fAdd a.lo b.lo).1 ≤ (fAdd x y).1; rw [e0, e1.1]; show _ ≤ x + y; omega
  · show (fAdd x y).1 ≤ (fAdd a.hi b.hi).1; rw [e0, e2.1]; show x + y ≤ _; omega

theorem within_sub (a b : Nm) {x y : Int} (hx : okF x) (hy : okF y) (h1 : a.lo ≤ x) (h2 : x ≤ a.hi) (h3 : b.lo ≤ y) (h4 : y ≤ b.hi) : wi (nSub (pt x) (pt y)) (nSub a b) := by
  refine made_within _ a b x y _ _ hx hy (by simp [pt]) (by simp) fun h _ _ => ?_
  simp only [isAll, List.all_cons, List.all_nil, Bool.and_eq_true, Bool.and_true] at h
  have e1 := fSub_some h.1.1
  have e2 := fSub_some h.2.1
  have e0 := fSub_tells hx hy (by have := e1.2; have := e2.2; unfold okF at *; omega)
  refine ⟨⟨by rw [e0], by rw [e0], by rw [e0]⟩, ⟨(a.lo, b.hi), by simp, ?_⟩, ⟨(a.hi, b.lo), by simp, ?_⟩⟩
  · show (fSub a.lo b.hi).1 ≤ (fSub x y).1; rw [e0, e1.1]; show _ ≤ x - y; omega
  · show (fSub x y).1 ≤ (fSub a.hi b.lo).1; rw [e0, e2.1]; show x - y ≤ _; omega

theorem fMul_tells {x y m : Int} (hx : okF x) (hy : okF y) (hm : 0 ≤ m ∧ m ≤ 2) (h1 : -1125899906842624 * 16777216 ≤ x * y) (h2 : x * y ≤ 1125899906842624 * 16777216) : (fMul x y m).2 = true := by
  have t := md_tells (a := x) (b := y) (c := 16777216) (K := 1125899906842624) (by unfold okF at hx; unfold okW; omega) (by unfold okF at hy; unfold okW; omega) (by decide) (by decide) hm (by decide) (by rw [← Int.natAbs_mul]; show (x * y).natAbs ≤ 1125899906842624 * 16777216; omega)
  unfold fMul td
  rw [if_pos ⟨t.1, fun z hz => by
    simp only [List.mem_cons, List.not_mem_nil, or_false] at hz
    rcases hz with rfl | rfl | rfl
    · exact hx
    · exact hy
    · have := t.2; unfold okF; omega⟩]

theorem within_mul (a b : Nm) {x y : Int} (hx : okF x) (hy : okF y) (h1 : a.lo ≤ x) (h2 : x ≤ a.hi) (h3 : b.lo ≤ y) (h4 : y ≤ b.hi) : wi (nMul (pt x) (pt y)) (nMul a b) := by
  refine made_within _ a b x y _ _ hx hy (by simp [pt, pairs4]) (by simp [pairs4]) fun h _ _ => ?_
  have all := List.all_eq_true.mp h
  obtain ⟨⟨p, hp, c1⟩, ⟨q, hq, c2⟩⟩ := corners (a := a) (b := b) h1 h2 h3 h4
  have ep := fMul_some (Bool.and_eq_true _ _ ▸ all p hp).1
  have fp := (md_floor (by decide) ep.2.1).1 rfl
  have eq := fMul_some (Bool.and_eq_true _ _ ▸ all q hq).2
  have fq := (md_floor (by decide) eq.2.1).2 rfl
  rw [← ep.1] at fp
  rw [← eq.1] at fq
  have op := ep.2.2
  have oq := eq.2.2
  unfold okF at op oq
  generalize p.1 * p.2 = C at *
  generalize q.1 * q.2 = D at *
  have k1 : -1125899906842624 * 16777216 ≤ x * y := by generalize x * y = X at *; omega
  have k2 : x * y ≤ 1125899906842624 * 16777216 := by generalize x * y = X at *; omega
  have t : ∀ m : Int, 0 ≤ m ∧ m ≤ 2 → (fMul x y m).2 = true := fun m hm => fMul_tells hx hy hm k1 k2
  have s1 := fMul_some (t 1 (by decide))
  have g1 := (md_floor (by decide) s1.2.1).1 rfl
  have s2 := fMul_some (t 2 (by decide))
  have g2 := (md_floor (by decide) s2.2.1).2 rfl
  rw [← s1.1] at g1
  rw [← s2.1] at g2
  refine ⟨⟨t 0 (by decide), t 1 (by decide), t 2 (by decide)⟩, ⟨p, hp, ?_⟩, ⟨q, hq, ?_⟩⟩
  · generalize x * y = X at *; omega
  · generalize x * y = X at *; omega

theorem fDiv_neg2 (x y m : Int) : fDiv (-x) (-y) m = fDiv x y m := by
  unfold fDiv
  rw [md_negc]
  unfold td
  have : ((md x 16777216 y m).2 = true ∧ ∀ z ∈ [-x, -y, (md x 16777216 y m).1], okF z) ↔ ((md x 16777216 y m).2 = true ∧ ∀ z ∈ [x, y, (md x 16777216 y m).1], okF z) := by
    simp only [List.mem_cons, List.not_mem_nil, or_false, forall_eq_or_imp, forall_eq]
    have e : ∀ z : Int, okF (-z) ↔ okF z := fun z => by unfold okF; omega
    rw [e, e]
  by_cases h : ((md x 16777216 y m).2 = true ∧ ∀ z ∈ [x, y, (md x 16777216 y m).1], okF z)
  · rw [if_pos h, if_pos (this.mpr h)]
  · rw [if_neg h, if_neg (mt this.mp h)]

theorem div_key {l u lo hi x y : Int} (h0 : 0 < lo) (h1 : lo ≤ y) (h2 : y ≤ hi) (h3 : l ≤ x) (h4 : x ≤ u) (hx : okF x) (hy : okF y)
    (q1 : (fDiv l lo 1).2 = true) (q2 : (fDiv l hi 1).2 = true) (q3 : (fDiv u lo 2).2 = true) (q4 : (fDiv u hi 2).2 = true) :
    (∀ m : Int, 0 ≤ m ∧ m ≤ 2 → (fDiv x y m).2 = true) ∧ ((fDiv l lo 1).1 ≤ (fDiv x y 1).1 ∨ (fDiv l hi 1).1 ≤ (fDiv x y 1).1) ∧ ((fDiv x y 2).1 ≤ (fDiv u lo 2).1 ∨ (fDiv x y 2).1 ≤ (fDiv u hi 2).1) := by
  have e1 := fDiv_some q1
  have e2 := fDiv_some q2
  have e3 := fDiv_some q3
  have e4 := fDiv_some q4
  have f1 := (md_floor h0 e1.2.1).1 rfl
  have f2 := (md_floor (by omega) e2.2.1).1 rfl
  have f3 := (md_floor h0 e3.2.1).2 rfl
  have f4 := (md_floor (by omega) e4.2.1).2 rfl
  rw [← e1.1] at f1
  rw [← e2.1] at f2
  rw [← e3.1] at f3
  rw [← e4.1] at f4
  have o1 := e1.2.2
  have o2 := e2.2.2
  have o3 := e3.2.2
  have o4 := e4.2.2
  have hy0 : 0 < y := by omega
  have lowk : ∀ v : Int, x * 16777216 - y < v * y → (fDiv l lo 1).1 ≤ v ∨ (fDiv l hi 1).1 ≤ v := fun v hv => quo_low h0 h1 h2 h3 hv f1.1 f2
  have highk : ∀ v : Int, v * y < x * 16777216 + y → v ≤ (fDiv u lo 2).1 ∨ v ≤ (fDiv u hi 2).1 := fun v hv => quo_high h0 h1 h2 h4 hv f3.1 f4
  have k1 : -(1125899906842624 * y) ≤ x * 16777216 := by
    have d1 := Int.ediv_mul_le (x * 16777216) (Int.ne_of_gt hy0)
    have d2 := Int.lt_ediv_add_one_mul_self (x * 16777216) hy0
    generalize x * 16777216 / y = v at *
    rw [Int.add_mul, Int.one_mul] at d2
    have hv : -1125899906842624 ≤ v := by
      unfold okF at o1 o2
      rcases lowk v (by omega) with h | h <;> omega
    have := Int.mul_le_mul_of_nonneg_right hv (Int.le_of_lt hy0)
    omega
  have k2 : x * 16777216 ≤ 1125899906842624 * y := by
    have d1 := Int.ediv_mul_le (-(x * 16777216)) (Int.ne_of_gt hy0)
    have d2 := Int.lt_ediv_add_one_mul_self (-(x * 16777216)) hy0
    generalize -(x * 16777216) / y = v at *
    rw [Int.add_mul, Int.one_mul] at d2
    have hv : -v ≤ 1125899906842624 := by
      unfold okF at o3 o4
      rcases highk (-v) (by rw [Int.neg_mul]; omega) with h | h <;> omega
    have := Int.mul_le_mul_of_nonneg_right hv (Int.le_of_lt hy0)
    rw [Int.neg_mul] at this
    omega
  have t : ∀ m : Int, 0 ≤ m ∧ m ≤ 2 → (fDiv x y m).2 = true := fun m hm => by
    have t := md_tells (a := x) (b := 16777216) (c := y) (K := 1125899906842624) (by unfold okF at hx; unfold okW; omega) (by decide) (by unfold okF at hy; unfold okW; omega) (by omega) hm (by decide) (by rw [← Int.natAbs_mul]; omega)
    unfold fDiv td
    rw [if_pos ⟨t.1, fun z hz => by
      simp only [List.mem_cons, List.not_mem_nil, or_false] at hz
      rcases hz with rfl | rfl | rfl
      · exact hx
      · exact hy
      · have := t.2; unfold okF; omega⟩]
  have s1 := fDiv_some (t 1 (by decide))
  have g1 := (md_floor hy0 s1.2.1).1 rfl
  have s2 := fDiv_some (t 2 (by decide))
  have g2 := (md_floor hy0 s2.2.1).2 rfl
  rw [← s1.1] at g1
  rw [← s2.1] at g2
  exact ⟨t, lowk _ (by omega), highk _ (by omega)⟩

theorem within_div (a b : Nm) {x y : Int} (hx : okF x) (hy : okF y) (h1 : a.lo ≤ x) (h2 : x ≤ a.hi) (h3 : b.lo ≤ y) (h4 : y ≤ b.hi) : wi (nDiv (pt x) (pt y)) (nDiv a b) := by
  unfold nDiv
  by_cases hz : b.lo ≤ 0 ∧ 0 ≤ b.hi
  · rw [if_pos hz]; exact .inl rfl
  rw [if_neg hz, if_neg (by show ¬ (y ≤ 0 ∧ 0 ≤ y); omega)]
  refine made_within _ a b x y _ _ hx hy (by simp [pt, pairs4]) (by simp [pairs4]) fun h _ _ => ?_
  have all := List.all_eq_true.mp h
  have get : ∀ p ∈ pairs4 a b, (fDiv p.1 p.2 1).2 = true ∧ (fDiv p.1 p.2 2).2 = true := fun p hp => Bool.and_eq_true _ _ ▸ all p hp
  have m1 : (a.lo, b.lo) ∈ pairs4 a b := by simp [pairs4]
  have m2 : (a.lo, b.hi) ∈ pairs4 a b := by simp [pairs4]
  have m3 : (a.hi, b.lo) ∈ pairs4 a b := by simp [pairs4]
  have m4 : (a.hi, b.hi) ∈ pairs4 a b := by simp [pairs4]
  rcases Int.lt_or_le 0 b.lo with hp | hp
  · obtain ⟨t, hl, hg⟩ := div_key hp h3 h4 h1 h2 hx hy (get _ m1).1 (get _ m2).1 (get _ m3).2 (get _ m4).2
    refine ⟨⟨t 0 (by decide), t 1 (by decide), t 2 (by decide)⟩, ?_, ?_⟩
    · rcases hl with h | h
      · exact ⟨_, m1, h⟩
      · exact ⟨_, m2, h⟩
    · rcases hg with h | h
      · exact ⟨_, m3, h⟩
      · exact ⟨_, m4, h⟩
  · have hn : b.hi < 0 := by omega
    obtain ⟨t, hl, hg⟩ := div_key (l := -a.hi) (u := -a.lo) (lo := -b.hi) (hi := -b.lo) (x := -x) (y := -y) (by omega) (by omega) (by omega) (by omega) (by omega) (by unfold okF at *; omega) (by unfold okF at *; omega)
      (by rw [fDiv_neg2]; exact (get _ m4).1) (by rw [fDiv_neg2]; exact (get _ m3).1) (by rw [fDiv_neg2]; exact (get _ m2).2) (by rw [fDiv_neg2]; exact (get _ m1).2)
    simp only [fDiv_neg2] at t hl hg
    refine ⟨⟨t 0 (by decide), t 1 (by decide), t 2 (by decide)⟩, ?_, ?_⟩
    · rcases hl with h | h
      · exact ⟨_, m4, h⟩
      · exact ⟨_, m3, h⟩
    · rcases hg with h | h
      · exact ⟨_, m2, h⟩
      · exact ⟨_, m1, h⟩

theorem isq_bound {x : Int} (hx : okF x) : isq x ≤ 137438953472 := by
  have h := isq_le x
  apply Nat.le_of_not_lt
  intro hn
  have h2 := Nat.mul_le_mul (show 137438953473 ≤ isq x from hn) (show 137438953473 ≤ isq x from hn)
  generalize isq x * isq x = s at *
  unfold okF at hx
  omega

theorem fRt_tells {x m : Int} (hx : okF x) (h0 : 0 ≤ x) (hm : 0 ≤ m ∧ m ≤ 2) : fRt x m = (((isq x + (rup m (isq x) (x.natAbs * 16777216)).toNat : Nat) : Int), true) := by
  have hb := isq_bound hx
  have ho : okRt x 16777216 m := ⟨⟨by unfold okF at hx; unfold okW; omega, by decide, by omega⟩, hm⟩
  have hr := Bool.toNat_le (rup m (isq x) (x.natAbs * 16777216))
  unfold fRt fRoot rt
  rw [if_pos ho]
  unfold td
  rw [if_pos ⟨rfl, fun z hz => by
    simp only [List.mem_cons, List.not_mem_nil, or_false] at hz
    rcases hz with rfl | rfl
    · exact hx
    · unfold okF
      show -1125899906842624 ≤ ((isq x + (rup m (isq x) (x.natAbs * 16777216)).toNat : Nat) : Int) ∧ ((isq x + (rup m (isq x) (x.natAbs * 16777216)).toNat : Nat) : Int) ≤ 1125899906842624
      omega⟩]
  rfl

theorem rup_mono2 {R P Q : Nat} (h1 : R * R ≤ P) (h : P ≤ Q) : (rup 2 R P).toNat ≤ (rup 2 R Q).toNat := by
  unfold rup
  by_cases hQ : R * R = Q
  · have hP : R * R = P := by omega
    simp [hP]
  · have : (!decide (R * R = Q) && (decide ((2 : Int) = 2) || decide ((2 : Int) = 0) && decide (R * (R + 1) < Q))) = true := by simp [hQ]
    rw [this]
    exact Bool.toNat_le _

theorem within_root (a : Nm) {x : Int} (hx : okF x) (h1 : a.lo ≤ x) (h2 : x ≤ a.hi) : wi (nRoot (pt x)) (nRoot a) := by
  refine made_within (fun x _ m => fRt x m) a a x x _ _ hx hx (by simp [pt]) (by simp) fun h _ _ => ?_
  simp only [isAll, List.all_cons, List.all_nil, Bool.and_eq_true, Bool.and_true] at h
  have e1 := fRt_some h.1.1
  have e2 := fRt_some h.2.2
  have t : ∀ m : Int, 0 ≤ m ∧ m ≤ 2 → fRt x m = _ := fun m hm => fRt_tells hx (by omega) hm
  refine ⟨⟨by rw [t 0 (by decide)], by rw [t 1 (by decide)], by rw [t 2 (by decide)]⟩, ⟨(a.lo, a.lo), by simp, ?_⟩, ⟨(a.hi, a.hi), by simp, ?_⟩⟩
  · show (fRt a.lo 1).1 ≤ (fRt x 1).1
    have hm := isq_mono (x := a.lo) (y := x) (by omega)
    rw [t 1 (by decide), e1.2.2]
    have hu : rup 1 (isq a.lo) (a.lo.natAbs * 16777216) = false := by unfold rup; simp
    rw [hu, Bool.toNat_false]
    omega
  · show (fRt x 2).1 ≤ (fRt a.hi 2).1
    have hm := isq_mono (x := x) (y := a.hi) (by omega)
    rw [t 2 (by decide), e2.2.2]
    rcases Nat.lt_or_ge (isq x) (isq a.hi) with h | h
    · have := Bool.toNat_le (rup 2 (isq x) (x.natAbs * 16777216))
      show ((isq x + (rup 2 (isq x) (x.natAbs * 16777216)).toNat : Nat) : Int) ≤ _
      omega
    · have he : isq x = isq a.hi := by omega
      have hle : x.natAbs * 16777216 ≤ a.hi.natAbs * 16777216 := Nat.mul_le_mul_right _ (by omega)
      have l1 := isq_le x
      show ((isq x + (rup 2 (isq x) (x.natAbs * 16777216)).toNat : Nat) : Int) ≤ _
      rw [he] at l1 ⊢
      exact Int.ofNat_le.mpr (Nat.add_le_add_left (rup_mono2 l1 hle) _)

theorem within_neg (a : Nm) {x : Int} (hx : okF x) (h1 : a.lo ≤ x) (h2 : x ≤ a.hi) : wi (nSub (point 0) (pt x)) (nSub (point 0) a) := by
  have h0 : okF 0 := by decide
  rw [point_pt h0]
  exact within_sub (pt 0) a h0 hx (Int.le_refl _) (Int.le_refl _) h1 h2
end Go.Proofs

