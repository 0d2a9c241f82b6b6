/-
  Whole numbers, enclosed: their sums, differences, products, quotients (no program's walk).
-/
import Derived.Test.YtbfhholefjngpaaWEnvlaw
import Derived.Test.YtbfhholefjngpaaWFloor
set_option linter.unusedSimpArgs false
set_option linter.unusedVariables false
namespace Go.Proofs
open Go Go.Fx Go.Mdlaw Go.Rootlaw Go.Cmplaw

def small (n : Int) : Prop := -1048576 ≤ n ∧ n ≤ 1048576
def unitNm (n : Int) : Nm := ⟨n * 16777216, n * 16777216, n * 16777216, false⟩

theorem unit_okF {n : Int} (h : small n) : okF (n * 16777216) := by unfold small at h; unfold okF; omega
theorem unit_fine {n : Int} (h : small n) : fine (unitNm n) = true := by
  have := unit_okF h
  unfold fine unitNm
  simp [this]

theorem nOf_small {n : Int} (h : small n) : nOf n = unitNm n := by
  have hu := unit_okF h
  have e : md n 16777216 1 0 = (n * 16777216, true) := md_exact ⟨by unfold small at h; unfold okW; omega, by decide, by decide, by decide, by decide, by decide⟩ (by unfold okF at hu; unfold okW; omega) (by omega)
  have e2 : fOf n = (n * 16777216, true) := by
    unfold fOf td
    rw [e, if_pos ⟨rfl, by intro x hx; simp at hx; rw [hx]; exact hu⟩]
  unfold nOf
  rw [e2, if_pos rfl]
  unfold point
  rw [if_pos hu]
  rfl

theorem unit_wf {n : Int} (h : small n) : i64N (unitNm n) := by
  have := unit_okF h
  unfold okF at this
  unfold i64N unitNm i64
  dsimp only
  omega

theorem td_okF {n : Int} {is : Bool} {L : List Int} (h : (td n is L).2 = true) : ∀ x ∈ L, okF x := by
  unfold td at h
  split at h
  · rename_i hh; exact hh.2
  · cases h

theorem enc_of {x : Nm} {n d : Int} (hb : x.bad = false) (h1 : okF x.lo) (h2 : okF x.hi) (h3 : x.lo ≤ x.v) (h4 : x.v ≤ x.hi) (hd : 1 ≤ d) (hn : okW n) (hw : okW d) (hl : x.lo * d ≤ n * 16777216) (hh : n * 16777216 ≤ x.hi * d) : enc x n d = true := by
  unfold enc fine
  simp [hb, h1, h2, h3, h4, hd, hn, hw, hl, hh]

theorem small_mul {n m : Int} (hn : small n) (hm : small m) : -1099511627776 ≤ n * m ∧ n * m ≤ 1099511627776 := by
  have h : (n * m).natAbs ≤ 1048576 * 1048576 := by
    rw [Int.natAbs_mul]
    exact Nat.mul_le_mul (by unfold small at hn; omega) (by unfold small at hm; omega)
  omega

theorem exact_mul {n m : Int} (hn : small n) (hm : small m) : (nMul (unitNm n) (unitNm m)).bad = true ∨ enc (nMul (unitNm n) (unitNm m)) (n * m) 1 = true := by
  unfold nMul
  rcases made_cases fMul (unitNm n) (unitNm m) (pairs4 (unitNm n) (unitNm m)) with h | ⟨h1, h2, h3, h4, h⟩
  · rw [h]; exact .inl rfl
  · rw [h]
    right
    simp only [pairs4, unitNm, isAll, List.all_cons, Bool.and_eq_true] at h2
    have s1 := h2.1.1
    have s2 := h2.1.2
    simp only [unitNm] at h1
    have o1 := td_okF s1
    have o2 := td_okF s2
    have e0 := td_some h1
    have e1 := td_some s1
    have e2 := td_some s2
    have hm3 := md_modes (md_some' e0.2) e1.2 e0.2 e2.2
    have f1 := (md_floor (by decide) e1.2).1 rfl
    have f2 := (md_floor (by decide) e2.2).2 rfl
    have hz := small_mul hn hm
    have hprod : n * 16777216 * (m * 16777216) = n * m * 281474976710656 := by
      rw [Int.mul_assoc, Int.mul_comm 16777216 (m * 16777216), Int.mul_assoc m, ← Int.mul_assoc n]; rfl
    rw [hprod] at f1 f2
    simp only [pairs4, unitNm, lows, highs, List.map_cons, List.map_nil, least_same4, greatest_same4]
    have g1 : (fMul (n * 16777216) (m * 16777216) 1).1 = (md (n * 16777216) (m * 16777216) 16777216 1).1 := e1.1
    have g2 : (fMul (n * 16777216) (m * 16777216) 2).1 = (md (n * 16777216) (m * 16777216) 16777216 2).1 := e2.1
    have g0 : (fMul (n * 16777216) (m * 16777216) 0).1 = (md (n * 16777216) (m * 16777216) 16777216 0).1 := e0.1
    have k1 := o1 _ (List.mem_cons_of_mem _ (List.mem_cons_of_mem _ (List.mem_cons_self ..)))
    have k2 := o2 _ (List.mem_cons_of_mem _ (List.mem_cons_of_mem _ (List.mem_cons_self ..)))
    rw [g0, g1, g2]
    generalize md (n * 16777216) (m * 16777216) 16777216 1 = x1 at *
    generalize md (n * 16777216) (m * 16777216) 16777216 0 = x0 at *
    generalize md (n * 16777216) (m * 16777216) 16777216 2 = x2 at *
    generalize n * m = z at *
    exact enc_of rfl k1 k2 hm3.1 hm3.2.1 (by omega) (by unfold okW; omega) (by decide) (by dsimp only; omega) (by dsimp only; omega)

theorem fAdd_okF {a b : Int} (ha : okF a) (hb : okF b) (h : okF (a + b)) : fAdd a b = (a + b, true) := by
  unfold fAdd td
  rw [if_pos ⟨ha, hb⟩, if_pos ⟨rfl, by intro x hx; simp at hx; rw [hx]; exact h⟩]
theorem fSub_okF {a b : Int} (ha : okF a) (hb : okF b) (h : okF (a - b)) : fSub a b = (a - b, true) := by
  unfold fSub td
  rw [if_pos ⟨ha, hb⟩, if_pos ⟨rfl, by intro x hx; simp at hx; rw [hx]; exact h⟩]

theorem exact_add {n m : Int} (hn : small n) (hm : small m) : enc (nAdd (unitNm n) (unitNm m)) (n + m) 1 = true := by
  have hs : okF (n * 16777216 + m * 16777216) := by unfold small at *; unfold okF; omega
  have e := fAdd_okF (unit_okF hn) (unit_okF hm) hs
  have hmk : nAdd (unitNm n) (unitNm m) = ⟨n * 16777216 + m * 16777216, n * 16777216 + m * 16777216, n * 16777216 + m * 16777216, false⟩ := by
    unfold nAdd made
    have hc : (((fAdd (unitNm n).v (unitNm m).v).2 && isAll (fun x y _ => fAdd x y) [((unitNm n).lo, (unitNm m).lo), ((unitNm n).hi, (unitNm m).hi)]) && fine (unitNm n) && fine (unitNm m)) = true := by
      rw [unit_fine hn, unit_fine hm]
      simp only [unitNm, isAll, List.all_cons, List.all_nil, e, Bool.and_true]
    rw [if_pos hc]
    simp only [unitNm, lows, highs, List.map_cons, List.map_nil, e, least_same, greatest_same]
  rw [hmk]
  exact enc_of rfl hs hs (Int.le_refl _) (Int.le_refl _) (by omega) (by unfold small at *; unfold okW; omega) (by decide) (by dsimp only; omega) (by dsimp only; omega)

theorem exact_sub {n m : Int} (hn : small n) (hm : small m) : enc (nSub (unitNm n) (unitNm m)) (n - m) 1 = true := by
  have hs : okF (n * 16777216 - m * 16777216) := by unfold small at *; unfold okF; omega
  have e := fSub_okF (unit_okF hn) (unit_okF hm) hs
  have hmk : nSub (unitNm n) (unitNm m) = ⟨n * 16777216 - m * 16777216, n * 16777216 - m * 16777216, n * 16777216 - m * 16777216, false⟩ := by
    unfold nSub made
    have hc : (((fSub (unitNm n).v (unitNm m).v).2 && isAll (fun x y _ => fSub x y) [((unitNm n).lo, (unitNm m).hi), ((unitNm n).hi, (unitNm m).lo)]) && fine (unitNm n) && fine (unitNm m)) = true := by
      rw [unit_fine hn, unit_fine hm]
      simp only [unitNm, isAll, List.all_cons, List.all_nil, e, Bool.and_true]
    rw [if_pos hc]
    simp only [unitNm, lows, highs, List.map_cons, List.map_nil, e, least_same, greatest_same]
  rw [hmk]
  exact enc_of rfl hs hs (Int.le_refl _) (Int.le_refl _) (by omega) (by unfold small at *; unfold okW; omega) (by decide) (by dsimp only; omega) (by dsimp only; omega)


/-- A quotient of small whole numbers is told, and small. -/
theorem div_some {N M k : Int} (hN : small N) (hM : 0 < M ∧ M ≤ 1048576) (hk : 0 ≤ k ∧ k ≤ 2) : (md (N * 16777216) 16777216 (M * 16777216) k).2 = true ∧ okF (md (N * 16777216) 16777216 (M * 16777216) k).1 := by
  have ho : okM (N * 16777216) 16777216 (M * 16777216) k := ⟨by unfold small at hN; unfold okW; omega, by decide, by unfold okW; omega, by omega, hk⟩
  rw [md_pos ho]
  unfold core
  have hd : 16777216 ≤ (M * 16777216).natAbs := by omega
  have hp : (N * 16777216).natAbs * (16777216 : Int).natAbs / (M * 16777216).natAbs ≤ 17592186044416 := by
    refine Nat.le_trans (Nat.div_le_div_left hd (by decide)) ?_
    rw [show (16777216 : Int).natAbs = 16777216 from rfl, Nat.mul_div_cancel _ (by decide)]
    unfold small at hN
    omega
  generalize (N * 16777216).natAbs * (16777216 : Int).natAbs / (M * 16777216).natAbs = q at *
  have hb := Bool.toNat_le (more k (neg3 (N * 16777216) 16777216 (M * 16777216)) q ((N * 16777216).natAbs * (16777216 : Int).natAbs % (M * 16777216).natAbs) (M * 16777216).natAbs)
  generalize (more k (neg3 (N * 16777216) 16777216 (M * 16777216)) q ((N * 16777216).natAbs * (16777216 : Int).natAbs % (M * 16777216).natAbs) (M * 16777216).natAbs).toNat = e at *
  rw [fit_le (by omega)]
  refine ⟨rfl, ?_⟩
  unfold okF
  dsimp only
  split <;> omega

theorem div_told {N M k : Int} (hN : small N) (hM : 0 < M ∧ M ≤ 1048576) (hk : 0 ≤ k ∧ k ≤ 2) : fDiv (N * 16777216) (M * 16777216) k = ((md (N * 16777216) 16777216 (M * 16777216) k).1, true) := by
  have h := div_some hN hM hk
  unfold fDiv td
  rw [if_pos]
  refine ⟨h.1, ?_⟩
  intro x hx
  simp only [List.mem_cons, List.not_mem_nil, or_false] at hx
  rcases hx with rfl | rfl | rfl
  · exact unit_okF hN
  · exact unit_okF (by unfold small; omega)
  · exact h.2

theorem fDiv_neg {a b k : Int} (h1 : okF a) (h2 : okF b) : fDiv (-a) (-b) k = fDiv a b k := by
  unfold fDiv
  rw [md_negc]
  unfold td
  have : ((md a 16777216 b k).2 = true ∧ ∀ x ∈ [-a, -b, (md a 16777216 b k).1], okF x) ↔ ((md a 16777216 b k).2 = true ∧ ∀ x ∈ [a, b, (md a 16777216 b k).1], okF x) := by
    simp only [List.mem_cons, List.not_mem_nil, or_false, forall_eq_or_imp, forall_eq]
    have n1 : okF (-a) := by unfold okF at *; omega
    have n2 : okF (-b) := by unfold okF at *; omega
    simp only [h1, h2, n1, n2, true_and]
  by_cases h : ((md a 16777216 b k).2 = true ∧ ∀ x ∈ [a, b, (md a 16777216 b k).1], okF x)
  · rw [if_pos h, if_pos (this.mpr h)]
  · rw [if_neg h, if_neg (mt this.mp h)]

/-- What is told of a quotient of small whole numbers by one above 0. -/
theorem enc_div {N M : Int} (hN : small N) (hM : 0 < M ∧ M ≤ 1048576) (x : Nm) (hx : x = ⟨(md (N * 16777216) 16777216 (M * 16777216) 0).1, (md (N * 16777216) 16777216 (M * 16777216) 1).1, (md (N * 16777216) 16777216 (M * 16777216) 2).1, false⟩) : enc x N M = true := by
  have d0 := div_some hN hM (k := 0) (by decide)
  have d1 := div_some hN hM (k := 1) (by decide)
  have d2 := div_some hN hM (k := 2) (by decide)
  have hm3 := md_modes (md_some' d0.1) d1.1 d0.1 d2.1
  have f1 := (md_floor (by omega) d1.1).1 rfl
  have f2 := (md_floor (by omega) d2.1).2 rfl
  subst hx
  generalize md (N * 16777216) 16777216 (M * 16777216) 0 = x0 at *
  generalize md (N * 16777216) 16777216 (M * 16777216) 1 = x1 at *
  generalize md (N * 16777216) 16777216 (M * 16777216) 2 = x2 at *
  rw [← Int.mul_assoc] at f1 f2
  generalize hz1 : x1.1 * M = z1 at *
  generalize hz2 : x2.1 * M = z2 at *
  refine enc_of rfl d1.2 d2.2 hm3.1 hm3.2.1 (by omega) (by unfold small at hN; unfold okW; omega) (by unfold okW; omega) ?_ ?_
  · dsimp only; rw [hz1]; omega
  · dsimp only; rw [hz2]; omega

theorem made_div {n m : Int} (hn : small n) (hm : small m) (h0 : m ≠ 0) {v l u : Int} (e0 : fDiv (n * 16777216) (m * 16777216) 0 = (v, true)) (e1 : fDiv (n * 16777216) (m * 16777216) 1 = (l, true)) (e2 : fDiv (n * 16777216) (m * 16777216) 2 = (u, true)) :
    nDiv (unitNm n) (unitNm m) = ⟨v, l, u, false⟩ := by
  unfold nDiv
  rw [if_neg (by simp only [unitNm]; omega)]
  unfold made
  have hc : (((fDiv (unitNm n).v (unitNm m).v 0).2 && isAll fDiv (pairs4 (unitNm n) (unitNm m))) && fine (unitNm n) && fine (unitNm m)) = true := by
    rw [unit_fine hn, unit_fine hm]
    simp only [unitNm, pairs4, isAll, List.all_cons, List.all_nil, e0, e1, e2, Bool.and_true]
  rw [if_pos hc]
  simp only [unitNm, pairs4, lows, highs, List.map_cons, List.map_nil, e0, e1, e2, least_same4, greatest_same4]

theorem exact_div {n m : Int} (hn : small n) (hm : small m) : (m = 0 → (nDiv (unitNm n) (unitNm m)).bad = true) ∧ (0 < m → enc (nDiv (unitNm n) (unitNm m)) n m = true) ∧ (m < 0 → enc (nDiv (unitNm n) (unitNm m)) (-n) (-m) = true) := by
  refine ⟨fun h => ?_, fun h => ?_, fun h => ?_⟩
  · subst h; rfl
  · have hM : 0 < m ∧ m ≤ 1048576 := ⟨h, hm.2⟩
    exact enc_div hn hM _ (made_div hn hm (by omega) (div_told hn hM (by decide)) (div_told hn hM (by decide)) (div_told hn hM (by decide)))
  · have hM : 0 < -m ∧ -m ≤ 1048576 := by unfold small at hm; omega
    have hN : small (-n) := by unfold small at *; omega
    have ed : ∀ k, 0 ≤ k ∧ k ≤ 2 → fDiv (n * 16777216) (m * 16777216) k = ((md (-n * 16777216) 16777216 (-m * 16777216) k).1, true) := fun k hk => by
      rw [← fDiv_neg (unit_okF hn) (unit_okF hm), ← Int.neg_mul, ← Int.neg_mul]
      exact div_told hN hM hk
    exact enc_div hN hM _ (made_div hn hm (by omega) (ed 0 (by decide)) (ed 1 (by decide)) (ed 2 (by decide)))

end Go.Proofs
