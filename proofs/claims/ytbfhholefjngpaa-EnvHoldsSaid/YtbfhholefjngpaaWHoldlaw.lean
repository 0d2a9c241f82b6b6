/-
  What is told of numbers encloses what is told of any within their bounds (no program in sight).
-/
import Derived.Test.YtbfhholefjngpaaWFinelaw
set_option linter.unusedSimpArgs false
set_option linter.unusedVariables false
set_option maxRecDepth 100000
namespace Go.Proofs
open Go Go.Fx Go.Mdlaw Go.Rootlaw Go.Cmplaw

theorem md_tells {a b c m : Int} {K : Nat} (ha : okW a) (hb : okW b) (hc : okW c) (hz : c ≠ 0) (hm : 0 ≤ m ∧ m ≤ 2) (hK : K ≤ 4611686018427387903) (h : a.natAbs * b.natAbs ≤ K * c.natAbs) :
    (md a b c m).2 = true ∧ (md a b c m).1.natAbs ≤ K := by
  rw [md_pos ⟨ha, hb, hc, hz, hm⟩]
  unfold core
  have hd : 0 < c.natAbs := by omega
  generalize a.natAbs * b.natAbs = p at *
  generalize c.natAbs = d at *
  generalize neg3 a b c = s
  have h1 := Nat.div_add_mod p d
  have h2 := Nat.mod_lt p hd
  have hQ : p / d + (more m s (p / d) (p % d) d).toNat ≤ K := by
    have hq : p / d ≤ K := Nat.div_le_of_le_mul (by rw [Nat.mul_comm]; exact h)
    by_cases h0 : p % d = 0
    · have : more m s (p / d) (p % d) d = false := by unfold more; rw [if_pos h0]
      rw [this]; simpa using hq
    · have hlt : p / d < K := by
        apply Nat.lt_of_not_le
        intro hge
        have := Nat.mul_le_mul_right d hge
        rw [Nat.mul_comm (p / d) d] at this
        omega
      have := Bool.toNat_le (more m s (p / d) (p % d) d)
      omega
  generalize p / d + (more m s (p / d) (p % d) d).toNat = Q at *
  rw [fit_le (by omega)]
  refine ⟨rfl, ?_⟩
  cases s
  · show (Q : Int).natAbs ≤ K; omega
  · show (-(Q : Int)).natAbs ≤ K; omega

def wi (i o : Nm) : Prop := o.bad = true ∨ (i.bad = false ∧ o.lo ≤ i.lo ∧ i.hi ≤ o.hi)
def pt (x : Int) : Nm := ⟨x, x, x, false⟩
theorem pt_fine {x : Int} (hx : okF x) : fine (pt x) = true := by unfold fine pt; simp [hx]
theorem point_pt {x : Int} (hx : okF x) : point x = pt x := if_pos hx

theorem made_within (f : Fn) (a b : Nm) (x y : Int) (P P' : List (Int × Int)) (hx : okF x) (hy : okF y) (hP : ∀ q ∈ P', q = (x, y)) (hne : P' ≠ [])
    (H : isAll f P = true → fine a = true → fine b = true → ((f x y 0).2 = true ∧ (f x y 1).2 = true ∧ (f x y 2).2 = true) ∧ (∃ p ∈ P, (f p.1 p.2 1).1 ≤ (f x y 1).1) ∧ (∃ p ∈ P, (f x y 2).1 ≤ (f p.1 p.2 2).1)) :
    wi (made f (pt x) (pt y) P') (made f a b P) := by
  rcases made_cases f a b P with h | ⟨h1, h2, h3, h4, h⟩
  · rw [h]; exact .inl rfl
  · obtain ⟨⟨t0, t1, t2⟩, ⟨p, hp, hl⟩, ⟨q, hq, hg⟩⟩ := H h2 h3 h4
    have hall : isAll f P' = true := List.all_eq_true.mpr fun q hq => by rw [hP q hq]; simp [t1, t2]
    have e : made f (pt x) (pt y) P' = ⟨(f x y 0).1, least (lows f P'), greatest (highs f P'), false⟩ := by
      unfold made
      rw [if_pos (by show ((f x y 0).2 && isAll f P' && fine (pt x) && fine (pt y)) = true; rw [t0, hall, pt_fine hx, pt_fine hy]; rfl)]
      rfl
    have m1 : least (lows f P') = (f x y 1).1 := by
      obtain ⟨r, hr, e⟩ := List.mem_map.mp (least_mem (L := lows f P') fun e => hne (List.map_eq_nil_iff.mp e))
      rw [hP r hr] at e; exact e.symm
    have m2 : greatest (highs f P') = (f x y 2).1 := by
      obtain ⟨r, hr, e⟩ := List.mem_map.mp (greatest_mem (L := highs f P') fun e => hne (List.map_eq_nil_iff.mp e))
      rw [hP r hr] at e; exact e.symm
    right
    rw [h, e, m1, m2]
    refine ⟨rfl, Int.le_trans (least_le (List.mem_map.mpr ⟨p, hp, rfl⟩)) hl, Int.le_trans hg (le_greatest (List.mem_map.mpr ⟨q, hq, rfl⟩))⟩

theorem fAdd_tells {a b : Int} (ha : okF a) (hb : okF b) (h : okF (a + b)) : fAdd a b = (a + b, true) := by
  unfold fAdd td
  rw [if_pos ⟨ha, hb⟩, if_pos ⟨rfl, fun x hx => by simp at hx; rw [hx]; exact h⟩]
theorem fSub_tells {a b : Int} (ha : okF a) (hb : okF b) (h : okF (a - b)) : fSub a b = (a - b, true) := by
  unfold fSub td
  rw [if_pos ⟨ha, hb⟩, if_pos ⟨rfl, fun x hx => by simp at hx; rw [hx]; exact h⟩]

theorem within_add (a b : Nm) {x y : Int} (hx : okF x) (hy : okF y) (h1 : a.lo ≤ x) (h2 : x ≤ a.hi) (h3 : b.lo ≤ y) (h4 : y ≤ b.hi) : wi (nAdd (pt x) (pt y)) (nAdd a b) := by
  refine made_within _ a b x y _ _ hx hy (by simp [pt]) (by simp) fun h _ _ => ?_
  simp only [isAll, List.all_cons, List.all_nil, Bool.and_eq_true, Bool.and_true] at h
  have e1 := fAdd_some h.1.1
  have e2 := fAdd_some h.2.1
  have e0 := fAdd_tells hx hy (by have := e1.2; have := e2.2; unfold okF at *; omega)
  refine ⟨⟨by rw [e0], by rw [e0], by rw [e0]⟩, ⟨(a.lo, b.lo), by simp, ?_⟩, ⟨(a.hi, b.hi), by simp, ?_⟩⟩
  · show (fAdd a.lo b.lo).1 ≤ (fAdd x y).1; rw [e0, e1.1]; show _ ≤ x + y; omega
  · show (fAdd x y).1 ≤ (fAdd a.hi b.hi).1; rw [e0, e2.1]; show x + y ≤ _; omega

theorem within_sub (a b : Nm) {x y : Int} (hx : okF x) (hy : okF y) (h1 : a.lo ≤ x) (h2 : x ≤ a.hi) (h3 : b.lo ≤ y) (h4 : y ≤ b.hi) : wi (nSub (pt x) (pt y)) (nSub a b) := by
  refine made_within _ a b x y _ _ hx hy (by simp [pt]) (by simp) fun h _ _ => ?_
  simp only [isAll, List.all_cons, List.all_nil, Bool.and_eq_true, Bool.and_true] at h
  have e1 := fSub_some h.1.1
  have e2 := fSub_some h.2.1
  have e0 := fSub_tells hx hy (by have := e1.2; have := e2.2; unfold okF at *; omega)
  refine ⟨⟨by rw [e0], by rw [e0], by rw [e0]⟩, ⟨(a.lo, b.hi), by simp, ?_⟩, ⟨(a.hi, b.lo), by simp, ?_⟩⟩
  · show (fSub a.lo b.hi).1 ≤ (fSub x y).1; rw [e0, e1.1]; show _ ≤ x - y; omega
  · show (fSub x y).1 ≤ (fSub a.hi b.lo).1; rw [e0, e2.1]; show x - y ≤ _; omega

theorem fMul_tells {x y m : Int} (hx : okF x) (hy : okF y) (hm : 0 ≤ m ∧ m ≤ 2) (h1 : -1125899906842624 * 16777216 ≤ x * y) (h2 : x * y ≤ 1125899906842624 * 16777216) : (fMul x y m).2 = true := by
  have t := md_tells (a := x) (b := y) (c := 16777216) (K := 1125899906842624) (by unfold okF at hx; unfold okW; omega) (by unfold okF at hy; unfold okW; omega) (by decide) (by decide) hm (by decide) (by rw [← Int.natAbs_mul]; show (x * y).natAbs ≤ 1125899906842624 * 16777216; omega)
  unfold fMul td
  rw [if_pos ⟨t.1, fun z hz => by
    simp only [List.mem_cons, List.not_mem_nil, or_false] at hz
    rcases hz with rfl | rfl | rfl
    · exact hx
    · exact hy
    · have := t.2; unfold okF; omega⟩]

theorem within_mul (a b : Nm) {x y : Int} (hx : okF x) (hy : okF y) (h1 : a.lo ≤ x) (h2 : x ≤ a.hi) (h3 : b.lo ≤ y) (h4 : y ≤ b.hi) : wi (nMul (pt x) (pt y)) (nMul a b) := by
  refine made_within _ a b x y _ _ hx hy (by simp [pt, pairs4]) (by simp [pairs4]) fun h _ _ => ?_
  have all := List.all_eq_true.mp h
  obtain ⟨⟨p, hp, c1⟩, ⟨q, hq, c2⟩⟩ := corners (a := a) (b := b) h1 h2 h3 h4
  have ep := fMul_some (Bool.and_eq_true _ _ ▸ all p hp).1
  have fp := (md_floor (by decide) ep.2.1).1 rfl
  have eq := fMul_some (Bool.and_eq_true _ _ ▸ all q hq).2
  have fq := (md_floor (by decide) eq.2.1).2 rfl
  rw [← ep.1] at fp
  rw [← eq.1] at fq
  have op := ep.2.2
  have oq := eq.2.2
  unfold okF at op oq
  generalize p.1 * p.2 = C at *
  generalize q.1 * q.2 = D at *
  have k1 : -1125899906842624 * 16777216 ≤ x * y := by generalize x * y = X at *; omega
  have k2 : x * y ≤ 1125899906842624 * 16777216 := by generalize x * y = X at *; omega
  have t : ∀ m : Int, 0 ≤ m ∧ m ≤ 2 → (fMul x y m).2 = true := fun m hm => fMul_tells hx hy hm k1 k2
  have s1 := fMul_some (t 1 (by decide))
  have g1 := (md_floor (by decide) s1.2.1).1 rfl
  have s2 := fMul_some (t 2 (by decide))
  have g2 := (md_floor (by decide) s2.2.1).2 rfl
  rw [← s1.1] at g1
  rw [← s2.1] at g2
  refine ⟨⟨t 0 (by decide), t 1 (by decide), t 2 (by decide)⟩, ⟨p, hp, ?_⟩, ⟨q, hq, ?_⟩⟩
  · generalize x * y = X at *; omega
  · generalize x * y = X at *; omega

theorem fDiv_neg2 (x y m : Int) : fDiv (-x) (-y) m = fDiv x y m := by
  unfold fDiv
  rw [md_negc]
  unfold td
  have : ((md x 16777216 y m).2 = true ∧ ∀ z ∈ [-x, -y, (md x 16777216 y m).1], okF z) ↔ ((md x 16777216 y m).2 = true ∧ ∀ z ∈ [x, y, (md x 16777216 y m).1], okF z) := by
    simp only [List.mem_cons, List.not_mem_nil, or_false, forall_eq_or_imp, forall_eq]
    have e : ∀ z : Int, okF (-z) ↔ okF z := fun z => by unfold okF; omega
    rw [e, e]
  by_cases h : ((md x 16777216 y m).2 = true ∧ ∀ z ∈ [x, y, (md x 16777216 y m).1], okF z)
  · rw [if_pos h, if_pos (this.mpr h)]
  · rw [if_neg h, if_neg (mt this.mp h)]

theorem div_key {l u lo hi x y : Int} (h0 : 0 < lo) (h1 : lo ≤ y) (h2 : y ≤ hi) (h3 : l ≤ x) (h4 : x ≤ u) (hx : okF x) (hy : okF y)
    (q1 : (fDiv l lo 1).2 = true) (q2 : (fDiv l hi 1).2 = true) (q3 : (fDiv u lo 2).2 = true) (q4 : (fDiv u hi 2).2 = true) :
    (∀ m : Int, 0 ≤ m ∧ m ≤ 2 → (fDiv x y m).2 = true) ∧ ((fDiv l lo 1).1 ≤ (fDiv x y 1).1 ∨ (fDiv l hi 1).1 ≤ (fDiv x y 1).1) ∧ ((fDiv x y 2).1 ≤ (fDiv u lo 2).1 ∨ (fDiv x y 2).1 ≤ (fDiv u hi 2).1) := by
  have e1 := fDiv_some q1
  have e2 := fDiv_some q2
  have e3 := fDiv_some q3
  have e4 := fDiv_some q4
  have f1 := (md_floor h0 e1.2.1).1 rfl
  have f2 := (md_floor (by omega) e2.2.1).1 rfl
  have f3 := (md_floor h0 e3.2.1).2 rfl
  have f4 := (md_floor (by omega) e4.2.1).2 rfl
  rw [← e1.1] at f1
  rw [← e2.1] at f2
  rw [← e3.1] at f3
  rw [← e4.1] at f4
  have o1 := e1.2.2
  have o2 := e2.2.2
  have o3 := e3.2.2
  have o4 := e4.2.2
  have hy0 : 0 < y := by omega
  have lowk : ∀ v : Int, x * 16777216 - y < v * y → (fDiv l lo 1).1 ≤ v ∨ (fDiv l hi 1).1 ≤ v := fun v hv => quo_low h0 h1 h2 h3 hv f1.1 f2
  have highk : ∀ v : Int, v * y < x * 16777216 + y → v ≤ (fDiv u lo 2).1 ∨ v ≤ (fDiv u hi 2).1 := fun v hv => quo_high h0 h1 h2 h4 hv f3.1 f4
  have k1 : -(1125899906842624 * y) ≤ x * 16777216 := by
    have d1 := Int.ediv_mul_le (x * 16777216) (Int.ne_of_gt hy0)
    have d2 := Int.lt_ediv_add_one_mul_self (x * 16777216) hy0
    generalize x * 16777216 / y = v at *
    rw [Int.add_mul, Int.one_mul] at d2
    have hv : -1125899906842624 ≤ v := by
      unfold okF at o1 o2
      rcases lowk v (by omega) with h | h <;> omega
    have := Int.mul_le_mul_of_nonneg_right hv (Int.le_of_lt hy0)
    omega
  have k2 : x * 16777216 ≤ 1125899906842624 * y := by
    have d1 := Int.ediv_mul_le (-(x * 16777216)) (Int.ne_of_gt hy0)
    have d2 := Int.lt_ediv_add_one_mul_self (-(x * 16777216)) hy0
    generalize -(x * 16777216) / y = v at *
    rw [Int.add_mul, Int.one_mul] at d2
    have hv : -v ≤ 1125899906842624 := by
      unfold okF at o3 o4
      rcases highk (-v) (by rw [Int.neg_mul]; omega) with h | h <;> omega
    have := Int.mul_le_mul_of_nonneg_right hv (Int.le_of_lt hy0)
    rw [Int.neg_mul] at this
    omega
  have t : ∀ m : Int, 0 ≤ m ∧ m ≤ 2 → (fDiv x y m).2 = true := fun m hm => by
    have t := md_tells (a := x) (b := 16777216) (c := y) (K := 1125899906842624) (by unfold okF at hx; unfold okW; omega) (by decide) (by unfold okF at hy; unfold okW; omega) (by omega) hm (by decide) (by rw [← Int.natAbs_mul]; omega)
    unfold fDiv td
    rw [if_pos ⟨t.1, fun z hz => by
      simp only [List.mem_cons, List.not_mem_nil, or_false] at hz
      rcases hz with rfl | rfl | rfl
      · exact hx
      · exact hy
      · have := t.2; unfold okF; omega⟩]
  have s1 := fDiv_some (t 1 (by decide))
  have g1 := (md_floor hy0 s1.2.1).1 rfl
  have s2 := fDiv_some (t 2 (by decide))
  have g2 := (md_floor hy0 s2.2.1).2 rfl
  rw [← s1.1] at g1
  rw [← s2.1] at g2
  exact ⟨t, lowk _ (by omega), highk _ (by omega)⟩

theorem within_div (a b : Nm) {x y : Int} (hx : okF x) (hy : okF y) (h1 : a.lo ≤ x) (h2 : x ≤ a.hi) (h3 : b.lo ≤ y) (h4 : y ≤ b.hi) : wi (nDiv (pt x) (pt y)) (nDiv a b) := by
  unfold nDiv
  by_cases hz : b.lo ≤ 0 ∧ 0 ≤ b.hi
  · rw [if_pos hz]; exact .inl rfl
  rw [if_neg hz, if_neg (by show ¬ (y ≤ 0 ∧ 0 ≤ y); omega)]
  refine made_within _ a b x y _ _ hx hy (by simp [pt, pairs4]) (by simp [pairs4]) fun h _ _ => ?_
  have all := List.all_eq_true.mp h
  have get : ∀ p ∈ pairs4 a b, (fDiv p.1 p.2 1).2 = true ∧ (fDiv p.1 p.2 2).2 = true := fun p hp => Bool.and_eq_true _ _ ▸ all p hp
  have m1 : (a.lo, b.lo) ∈ pairs4 a b := by simp [pairs4]
  have m2 : (a.lo, b.hi) ∈ pairs4 a b := by simp [pairs4]
  have m3 : (a.hi, b.lo) ∈ pairs4 a b := by simp [pairs4]
  have m4 : (a.hi, b.hi) ∈ pairs4 a b := by simp [pairs4]
  rcases Int.lt_or_le 0 b.lo with hp | hp
  · obtain ⟨t, hl, hg⟩ := div_key hp h3 h4 h1 h2 hx hy (get _ m1).1 (get _ m2).1 (get _ m3).2 (get _ m4).2
    refine ⟨⟨t 0 (by decide), t 1 (by decide), t 2 (by decide)⟩, ?_, ?_⟩
    · rcases hl with h | h
      · exact ⟨_, m1, h⟩
      · exact ⟨_, m2, h⟩
    · rcases hg with h | h
      · exact ⟨_, m3, h⟩
      · exact ⟨_, m4, h⟩
  · have hn : b.hi < 0 := by omega
    obtain ⟨t, hl, hg⟩ := div_key (l := -a.hi) (u := -a.lo) (lo := -b.hi) (hi := -b.lo) (x := -x) (y := -y) (by omega) (by omega) (by omega) (by omega) (by omega) (by unfold okF at *; omega) (by unfold okF at *; omega)
      (by rw [fDiv_neg2]; exact (get _ m4).1) (by rw [fDiv_neg2]; exact (get _ m3).1) (by rw [fDiv_neg2]; exact (get _ m2).2) (by rw [fDiv_neg2]; exact (get _ m1).2)
    simp only [fDiv_neg2] at t hl hg
    refine ⟨⟨t 0 (by decide), t 1 (by decide), t 2 (by decide)⟩, ?_, ?_⟩
    · rcases hl with h | h
      · exact ⟨_, m4, h⟩
      · exact ⟨_, m3, h⟩
    · rcases hg with h | h
      · exact ⟨_, m2, h⟩
      · exact ⟨_, m1, h⟩

theorem isq_bound {x : Int} (hx : okF x) : isq x ≤ 137438953472 := by
  have h := isq_le x
  apply Nat.le_of_not_lt
  intro hn
  have h2 := Nat.mul_le_mul (show 137438953473 ≤ isq x from hn) (show 137438953473 ≤ isq x from hn)
  generalize isq x * isq x = s at *
  unfold okF at hx
  omega

theorem fRt_tells {x m : Int} (hx : okF x) (h0 : 0 ≤ x) (hm : 0 ≤ m ∧ m ≤ 2) : fRt x m = (((isq x + (rup m (isq x) (x.natAbs * 16777216)).toNat : Nat) : Int), true) := by
  have hb := isq_bound hx
  have ho : okRt x 16777216 m := ⟨⟨by unfold okF at hx; unfold okW; omega, by decide, by omega⟩, hm⟩
  have hr := Bool.toNat_le (rup m (isq x) (x.natAbs * 16777216))
  unfold fRt fRoot rt
  rw [if_pos ho]
  unfold td
  rw [if_pos ⟨rfl, fun z hz => by
    simp only [List.mem_cons, List.not_mem_nil, or_false] at hz
    rcases hz with rfl | rfl
    · exact hx
    · unfold okF
      show -1125899906842624 ≤ ((isq x + (rup m (isq x) (x.natAbs * 16777216)).toNat : Nat) : Int) ∧ ((isq x + (rup m (isq x) (x.natAbs * 16777216)).toNat : Nat) : Int) ≤ 1125899906842624
      omega⟩]
  rfl

theorem rup_mono2 {R P Q : Nat} (h1 : R * R ≤ P) (h : P ≤ Q) : (rup 2 R P).toNat ≤ (rup 2 R Q).toNat := by
  unfold rup
  by_cases hQ : R * R = Q
  · have hP : R * R = P := by omega
    simp [hP]
  · have : (!decide (R * R = Q) && (decide ((2 : Int) = 2) || decide ((2 : Int) = 0) && decide (R * (R + 1) < Q))) = true := by simp [hQ]
    rw [this]
    exact Bool.toNat_le _

theorem within_root (a : Nm) {x : Int} (hx : okF x) (h1 : a.lo ≤ x) (h2 : x ≤ a.hi) : wi (nRoot (pt x)) (nRoot a) := by
  refine made_within (fun x _ m => fRt x m) a a x x _ _ hx hx (by simp [pt]) (by simp) fun h _ _ => ?_
  simp only [isAll, List.all_cons, List.all_nil, Bool.and_eq_true, Bool.and_true] at h
  have e1 := fRt_some h.1.1
  have e2 := fRt_some h.2.2
  have t : ∀ m : Int, 0 ≤ m ∧ m ≤ 2 → fRt x m = _ := fun m hm => fRt_tells hx (by omega) hm
  refine ⟨⟨by rw [t 0 (by decide)], by rw [t 1 (by decide)], by rw [t 2 (by decide)]⟩, ⟨(a.lo, a.lo), by simp, ?_⟩, ⟨(a.hi, a.hi), by simp, ?_⟩⟩
  · show (fRt a.lo 1).1 ≤ (fRt x 1).1
    have hm := isq_mono (x := a.lo) (y := x) (by omega)
    rw [t 1 (by decide), e1.2.2]
    have hu : rup 1 (isq a.lo) (a.lo.natAbs * 16777216) = false := by unfold rup; simp
    rw [hu, Bool.toNat_false]
    omega
  · show (fRt x 2).1 ≤ (fRt a.hi 2).1
    have hm := isq_mono (x := x) (y := a.hi) (by omega)
    rw [t 2 (by decide), e2.2.2]
    rcases Nat.lt_or_ge (isq x) (isq a.hi) with h | h
    · have := Bool.toNat_le (rup 2 (isq x) (x.natAbs * 16777216))
      show ((isq x + (rup 2 (isq x) (x.natAbs * 16777216)).toNat : Nat) : Int) ≤ _
      omega
    · have he : isq x = isq a.hi := by omega
      have hle : x.natAbs * 16777216 ≤ a.hi.natAbs * 16777216 := Nat.mul_le_mul_right _ (by omega)
      have l1 := isq_le x
      show ((isq x + (rup 2 (isq x) (x.natAbs * 16777216)).toNat : Nat) : Int) ≤ _
      rw [he] at l1 ⊢
      exact Int.ofNat_le.mpr (Nat.add_le_add_left (rup_mono2 l1 hle) _)

theorem within_neg (a : Nm) {x : Int} (hx : okF x) (h1 : a.lo ≤ x) (h2 : x ≤ a.hi) : wi (nSub (point 0) (pt x)) (nSub (point 0) a) := by
  have h0 : okF 0 := by decide
  rw [point_pt h0]
  exact within_sub (pt 0) a h0 hx (Int.le_refl _) (Int.le_refl _) h1 h2
end Go.Proofs
