/-
  A product, divided, and rounded: what is asked of it (no program in sight).
-/
namespace Go.Mdlaw

def MW : Int := 4611686018427387903
def okW (n : Int) : Prop := -4611686018427387903 ≤ n ∧ n ≤ 4611686018427387903
instance (n : Int) : Decidable (okW n) := by unfold okW; infer_instance

/-- Which sign a quotient of a product has. -/
def neg3 (a b c : Int) : Bool := (decide (a < 0) != decide (b < 0)) != decide (c < 0)

/-- Whether there is one more, rounded. -/
def more (m : Int) (minus : Bool) (q r d : Nat) : Bool :=
  if r = 0 then false else if m = 0 then decide (d < 2 * r) || (decide (2 * r = d) && decide (q % 2 = 1)) else (decide (m = 2) != minus)

def fit (minus : Bool) (Q : Nat) : Int × Bool :=
  if Q ≤ 4611686018427387903 then (if minus then -(Q : Int) else (Q : Int), true) else (0, false)

def okM (a b c m : Int) : Prop := okW a ∧ okW b ∧ okW c ∧ c ≠ 0 ∧ 0 ≤ m ∧ m ≤ 2
instance (a b c m : Int) : Decidable (okM a b c m) := by unfold okM; infer_instance

def core (a b c m : Int) : Int × Bool :=
  fit (neg3 a b c) (a.natAbs * b.natAbs / c.natAbs + (more m (neg3 a b c) (a.natAbs * b.natAbs / c.natAbs) (a.natAbs * b.natAbs % c.natAbs) c.natAbs).toNat)

def md (a b c m : Int) : Int × Bool := if okM a b c m then core a b c m else (0, false)

theorem md_pos {a b c m : Int} (h : okM a b c m) : md a b c m = core a b c m := if_pos h
theorem md_neg {a b c m : Int} (h : ¬ okM a b c m) : md a b c m = (0, false) := if_neg h

theorem fit_some {s : Bool} {Q : Nat} (h : (fit s Q).2 = true) : (fit s Q).1 = if s then -(Q : Int) else (Q : Int) := by
  unfold fit at *
  split at h
  · rename_i hq; rw [if_pos hq]
  · cases h

theorem fit_gt {s : Bool} {Q : Nat} (h : 4611686018427387903 < Q) : fit s Q = (0, false) := if_neg (by omega)
theorem fit_le {s : Bool} {Q : Nat} (h : Q ≤ 4611686018427387903) : fit s Q = (if s then -(Q : Int) else (Q : Int), true) := if_pos h

theorem fit_bounds (s : Bool) (Q : Nat) : okW (fit s Q).1 := by
  unfold fit okW
  split
  · cases s <;> simp <;> omega
  · simp
theorem md_bounds (a b c m : Int) : okW (md a b c m).1 := by
  unfold md
  split
  · exact fit_bounds _ _
  · simp [okW]

theorem md_modes {a b c : Int} (h : okM a b c 0) (h1 : (md a b c 1).2 = true) (h0 : (md a b c 0).2 = true) (h2 : (md a b c 2).2 = true) :
    (md a b c 1).1 ≤ (md a b c 0).1 ∧ (md a b c 0).1 ≤ (md a b c 2).1 ∧ (md a b c 2).1 ≤ (md a b c 1).1 + 1 := by
  obtain ⟨ha, hb, hc, hz, _, _⟩ := h
  rw [md_pos (m := 0) ⟨ha, hb, hc, hz, by omega, by omega⟩, md_pos (m := 1) ⟨ha, hb, hc, hz, by omega, by omega⟩, md_pos (m := 2) ⟨ha, hb, hc, hz, by omega, by omega⟩] at *
  unfold core at *
  generalize a.natAbs * b.natAbs / c.natAbs = q at *
  generalize a.natAbs * b.natAbs % c.natAbs = r at *
  generalize c.natAbs = d at *
  generalize neg3 a b c = s at *
  have key : (∃ e : Nat, e ≤ 1 ∧ (more 0 s q r d).toNat = e ∧ (more 1 s q r d).toNat = (if r = 0 then 0 else s.toNat) ∧ (more 2 s q r d).toNat = (if r = 0 then 0 else (!s).toNat)) ∧ (r = 0 → (more 0 s q r d).toNat = 0) := by
    refine ⟨⟨_, Bool.toNat_le _, rfl, ?_, ?_⟩, ?_⟩
    · unfold more; split <;> first | rfl | (cases s <;> simp)
    · unfold more; split <;> first | rfl | (cases s <;> simp)
    · intro h; unfold more; rw [if_pos h]; rfl
  obtain ⟨⟨e, he, k0, k1, k2⟩, k3⟩ := key
  rw [k0] at k3 h0 ⊢
  rw [k1] at h1 ⊢
  rw [k2] at h2 ⊢
  rw [fit_some h0, fit_some h1, fit_some h2]
  cases s <;> by_cases hr : r = 0 <;> simp only [hr, Bool.toNat_true, Bool.toNat_false, Bool.not_true, Bool.not_false, if_true, Bool.false_eq_true, if_false, true_implies, false_implies] at * <;> omega

theorem more_zero (m : Int) (s : Bool) (q d : Nat) : more m s q 0 d = false := if_pos rfl

theorem md_exact {a b c m : Int} (h : okM a b c m) {n : Int} (hn : okW n) (h1 : a * b = n * c) : md a b c m = (n, true) := by
  have hc := h.2.2.2.1
  have h2 : a.natAbs * b.natAbs = n.natAbs * c.natAbs := by rw [← Int.natAbs_mul, h1, Int.natAbs_mul]
  have hp : 0 < c.natAbs := by omega
  rw [md_pos h]
  unfold core
  rw [h2, Nat.mul_mod_left, more_zero, Nat.mul_div_cancel _ hp]
  have h3 : n = if neg3 a b c then -(n.natAbs : Int) else (n.natAbs : Int) := by
    unfold neg3
    by_cases hn0 : n = 0
    · subst hn0; simp
    rcases Int.lt_trichotomy a 0 with ha | ha | ha <;> rcases Int.lt_trichotomy b 0 with hb | hb | hb <;> rcases Int.lt_trichotomy c 0 with hc' | hc' | hc' <;> rcases Int.lt_trichotomy n 0 with hn' | hn' | hn' <;>
      (first
        | omega
        | (exfalso; simp only [*, Int.zero_mul, Int.mul_zero] at *; omega)
        | (simp only [Int.not_lt.mpr (Int.le_of_lt ha), Int.not_lt.mpr (Int.le_of_lt hb), Int.not_lt.mpr (Int.le_of_lt hc'), ha, hb, hc', decide_true, decide_false, bne_self_eq_false, Bool.true_bne, Bool.false_bne, Bool.not_true, Bool.not_false, if_true, Bool.false_eq_true, if_false]; omega)
        | (exfalso; have x1 := Int.mul_pos (a := a) (b := b); have x2 := Int.mul_neg_of_neg_of_pos (a := a) (b := b); have x3 := Int.mul_neg_of_pos_of_neg (a := a) (b := b); have x4 := Int.mul_pos_of_neg_of_neg (a := a) (b := b)
           have z1 := Int.mul_pos (a := n) (b := c); have z2 := Int.mul_neg_of_neg_of_pos (a := n) (b := c); have z3 := Int.mul_neg_of_pos_of_neg (a := n) (b := c); have z4 := Int.mul_pos_of_neg_of_neg (a := n) (b := c)
           rw [h1] at x1 x2 x3 x4
           simp only [ha, hb, hc', hn', true_implies] at *
           omega))
  have h4 : n.natAbs ≤ 4611686018427387903 := by unfold okW at hn; omega
  unfold fit
  rw [Bool.toNat_false, Nat.add_zero, if_pos h4, ← h3]

theorem md_back {a b m : Int} (ha : okW a) (hb : okW b) (h : b ≠ 0) (hm : 0 ≤ m ∧ m ≤ 2) : md a b b m = (a, true) := md_exact ⟨ha, hb, hb, h, hm⟩ ha rfl
theorem md_one {a m : Int} (ha : okW a) (hm : 0 ≤ m ∧ m ≤ 2) : md a 1 1 m = (a, true) := md_exact ⟨ha, by decide, by decide, by decide, hm⟩ ha rfl
theorem md_minus {a m : Int} (ha : okW a) (hm : 0 ≤ m ∧ m ≤ 2) : md a (-1) 1 m = (-a, true) := md_exact ⟨ha, by decide, by decide, by decide, hm⟩ (by unfold okW at *; omega) (by omega)

theorem neg3_a {a b c : Int} (h : a ≠ 0) : neg3 (-a) b c = !neg3 a b c := by
  unfold neg3
  have : decide (-a < 0) = !decide (a < 0) := by
    rcases Int.lt_trichotomy a 0 with h1 | h1 | h1
    · simp [h1]; omega
    · exact absurd h1 h
    · simp [h1]; omega
  rw [this]
  cases decide (a < 0) <;> cases decide (b < 0) <;> cases decide (c < 0) <;> rfl
theorem neg3_b {a b c : Int} (h : b ≠ 0) : neg3 a (-b) c = !neg3 a b c := by
  unfold neg3
  have : decide (-b < 0) = !decide (b < 0) := by
    rcases Int.lt_trichotomy b 0 with h1 | h1 | h1
    · simp [h1]; omega
    · exact absurd h1 h
    · simp [h1]; omega
  rw [this]
  cases decide (a < 0) <;> cases decide (b < 0) <;> cases decide (c < 0) <;> rfl

theorem fit_neg (s : Bool) (Q : Nat) : fit (!s) Q = (-(fit s Q).1, (fit s Q).2) := by
  unfold fit
  split <;> cases s <;> simp

theorem okM_a {a b c m : Int} : okM (-a) b c m ↔ okM a b c m := by unfold okM okW; omega
theorem okM_b {a b c m : Int} : okM a (-b) c m ↔ okM a b c m := by unfold okM okW; omega

theorem more_turn (s : Bool) (q r d : Nat) : more 2 (!s) q r d = more 1 s q r d := by
  unfold more
  split
  · rfl
  · cases s <;> rfl
theorem more_even (s : Bool) (q r d : Nat) : more 0 (!s) q r d = more 0 s q r d := rfl

theorem md_turn (a b c : Int) : md (-a) b c 2 = (-(md a b c 1).1, (md a b c 1).2) := by
  unfold md
  by_cases h : okM a b c 1
  · have h2 : okM a b c 2 := ⟨h.1, h.2.1, h.2.2.1, h.2.2.2.1, by omega, by omega⟩
    rw [if_pos h, if_pos (okM_a.mpr h2)]
    by_cases ha : a = 0
    · subst ha
      simp [core, more_zero, fit]
    · unfold core
      rw [neg3_a ha, Int.natAbs_neg, more_turn, fit_neg]
  · have h2 : ¬ okM a b c 2 := fun x => h ⟨x.1, x.2.1, x.2.2.1, x.2.2.2.1, by omega, by omega⟩
    rw [if_neg h, if_neg (mt okM_a.mp h2)]
    rfl

theorem md_even (a b c : Int) : md a (-b) c 0 = (-(md a b c 0).1, (md a b c 0).2) := by
  unfold md
  by_cases h : okM a b c 0
  · rw [if_pos h, if_pos (okM_b.mpr h)]
    by_cases hb : b = 0
    · subst hb
      simp [core, more_zero, fit]
    · unfold core
      rw [neg3_b hb, Int.natAbs_neg, more_even, fit_neg]
  · rw [if_neg h, if_neg (mt okM_b.mp h)]
    rfl

end Go.Mdlaw
