/-
  What is told of enclosed numbers is Fine, or Bad (no walk).
-/
import Derived.Test.YtbfhholefjngpaaWExactlaw
set_option linter.unusedSimpArgs false
set_option linter.unusedVariables false
set_option maxRecDepth 100000
namespace Go.Proofs
open Go Go.Fx Go.Mdlaw Go.Rootlaw Go.Cmplaw

theorem foldl_min_le : ∀ (L : List Int) (x : Int), L.foldl min x ≤ x ∧ ∀ y ∈ L, L.foldl min x ≤ y
  | [], x => ⟨Int.le_refl _, fun y hy => by cases hy⟩
  | z :: L, x => by
    have h := foldl_min_le L (min x z)
    rw [List.foldl_cons]
    refine ⟨by omega, fun y hy => ?_⟩
    rcases List.mem_cons.mp hy with rfl | hy
    · omega
    · exact h.2 y hy
theorem foldl_le_max : ∀ (L : List Int) (x : Int), x ≤ L.foldl max x ∧ ∀ y ∈ L, y ≤ L.foldl max x
  | [], x => ⟨Int.le_refl _, fun y hy => by cases hy⟩
  | z :: L, x => by
    have h := foldl_le_max L (max x z)
    rw [List.foldl_cons]
    refine ⟨by omega, fun y hy => ?_⟩
    rcases List.mem_cons.mp hy with rfl | hy
    · omega
    · exact h.2 y hy
theorem least_le {L : List Int} {y : Int} (h : y ∈ L) : least L ≤ y := by
  cases L with
  | nil => cases h
  | cons x L =>
    show L.foldl min x ≤ y
    rcases List.mem_cons.mp h with rfl | h
    · exact (foldl_min_le L _).1
    · exact (foldl_min_le L _).2 y h
theorem le_greatest {L : List Int} {y : Int} (h : y ∈ L) : y ≤ greatest L := by
  cases L with
  | nil => cases h
  | cons x L =>
    show y ≤ L.foldl max x
    rcases List.mem_cons.mp h with rfl | h
    · exact (foldl_le_max L _).1
    · exact (foldl_le_max L _).2 y h
theorem foldl_min_mem : ∀ (L : List Int) (x : Int), L.foldl min x = x ∨ L.foldl min x ∈ L
  | [], x => .inl rfl
  | z :: L, x => by
    rw [List.foldl_cons]
    rcases foldl_min_mem L (min x z) with h | h
    · rw [h]
      by_cases hz : x ≤ z
      · exact .inl (by omega)
      · exact .inr (by rw [show min x z = z by omega]; exact List.mem_cons_self ..)
    · exact .inr (List.mem_cons_of_mem _ h)
theorem foldl_max_mem : ∀ (L : List Int) (x : Int), L.foldl max x = x ∨ L.foldl max x ∈ L
  | [], x => .inl rfl
  | z :: L, x => by
    rw [List.foldl_cons]
    rcases foldl_max_mem L (max x z) with h | h
    · rw [h]
      by_cases hz : z ≤ x
      · exact .inl (by omega)
      · exact .inr (by rw [show max x z = z by omega]; exact List.mem_cons_self ..)
    · exact .inr (List.mem_cons_of_mem _ h)
theorem least_mem {L : List Int} (h : L ≠ []) : least L ∈ L := by
  cases L with
  | nil => exact absurd rfl h
  | cons x L =>
    show L.foldl min x ∈ x :: L
    rcases foldl_min_mem L x with e | e
    · rw [e]; exact List.mem_cons_self ..
    · exact List.mem_cons_of_mem _ e
theorem greatest_mem {L : List Int} (h : L ≠ []) : greatest L ∈ L := by
  cases L with
  | nil => exact absurd rfl h
  | cons x L =>
    show L.foldl max x ∈ x :: L
    rcases foldl_max_mem L x with e | e
    · rw [e]; exact List.mem_cons_self ..
    · exact List.mem_cons_of_mem _ e

/-- What is told is Bad, or Fine, if each number is told as one that may be, and the value lies between some of both. -/
theorem made_fine (f : Fn) (a b : Nm) (P : List (Int × Int)) (hP : P ≠ []) (hok : ∀ x y m, (f x y m).2 = true → okF (f x y m).1)
    (hin : (f a.v b.v 0).2 = true → isAll f P = true → fine a = true → fine b = true → (∃ p ∈ P, (f p.1 p.2 1).1 ≤ (f a.v b.v 0).1) ∧ (∃ p ∈ P, (f a.v b.v 0).1 ≤ (f p.1 p.2 2).1)) :
    made f a b P = wrong ∨ fine (made f a b P) = true := by
  rcases made_cases f a b P with h | ⟨h1, h2, h3, h4, h⟩
  · exact .inl h
  · right
    rw [h]
    obtain ⟨⟨p, hp, hl⟩, ⟨q, hq, hg⟩⟩ := hin h1 h2 h3 h4
    have l1 := least_le (L := lows f P) (List.mem_map.mpr ⟨p, hp, rfl⟩)
    have g1 := le_greatest (L := highs f P) (List.mem_map.mpr ⟨q, hq, rfl⟩)
    have hne : lows f P ≠ [] := fun e => hP (List.map_eq_nil_iff.mp e)
    have hne2 : highs f P ≠ [] := fun e => hP (List.map_eq_nil_iff.mp e)
    have all : ∀ p ∈ P, (f p.1 p.2 1).2 = true ∧ (f p.1 p.2 2).2 = true := fun p hp => by
      have := List.all_eq_true.mp h2 p hp
      simpa using this
    have ol : okF (least (lows f P)) := by
      obtain ⟨p, hp, e⟩ := List.mem_map.mp (least_mem hne)
      have e' : (f p.1 p.2 1).1 = least (lows f P) := e
      rw [← e']; exact hok _ _ _ (all p hp).1
    have og : okF (greatest (highs f P)) := by
      obtain ⟨p, hp, e⟩ := List.mem_map.mp (greatest_mem hne2)
      have e' : (f p.1 p.2 2).1 = greatest (highs f P) := e
      rw [← e']; exact hok _ _ _ (all p hp).2
    unfold fine
    simp only [Bool.and_eq_true, decide_eq_true_eq, Bool.not_eq_true']
    exact ⟨⟨⟨⟨trivial, ol⟩, og⟩, by omega⟩, by omega⟩

theorem fAdd_some {a b : Int} (h : (fAdd a b).2 = true) : (fAdd a b).1 = a + b ∧ okF (a + b) := by
  unfold fAdd at *
  split at h
  · rename_i hh
    rw [if_pos hh]
    unfold td at *
    split at h
    · rename_i h2; rw [if_pos h2]; exact ⟨rfl, h2.2 _ (by simp)⟩
    · cases h
  · cases h

theorem fine_add (a b : Nm) : nAdd a b = wrong ∨ fine (nAdd a b) = true := by
  refine made_fine _ a b _ (by simp) (fun x y m h => by rw [(fAdd_some h).1]; exact (fAdd_some h).2) fun h1 h2 h3 h4 => ?_
  have fa := fine_okF h3
  have fb := fine_okF h4
  simp only [isAll, List.all_cons, List.all_nil, Bool.and_eq_true, Bool.and_true] at h2
  have e0 := (fAdd_some h1).1
  have e1 := (fAdd_some h2.1.1).1
  have e2 := (fAdd_some h2.2.1).1
  refine ⟨⟨(a.lo, b.lo), by simp, ?_⟩, ⟨(a.hi, b.hi), by simp, ?_⟩⟩
  · show (fAdd a.lo b.lo).1 ≤ (fAdd a.v b.v).1; rw [e0, e1]; omega
  · show (fAdd a.v b.v).1 ≤ (fAdd a.hi b.hi).1; rw [e0, e2]; omega

theorem fine_sub (a b : Nm) : nSub a b = wrong ∨ fine (nSub a b) = true := by
  refine made_fine _ a b _ (by simp) (fun x y m h => by rw [(fSub_some h).1]; exact (fSub_some h).2) fun h1 h2 h3 h4 => ?_
  have fa := fine_okF h3
  have fb := fine_okF h4
  simp only [isAll, List.all_cons, List.all_nil, Bool.and_eq_true, Bool.and_true] at h2
  have e0 := (fSub_some h1).1
  have e1 := (fSub_some h2.1.1).1
  have e2 := (fSub_some h2.2.1).1
  refine ⟨⟨(a.lo, b.hi), by simp, ?_⟩, ⟨(a.hi, b.lo), by simp, ?_⟩⟩
  · show (fSub a.lo b.hi).1 ≤ (fSub a.v b.v).1; rw [e0, e1]; omega
  · show (fSub a.v b.v).1 ≤ (fSub a.hi b.lo).1; rw [e0, e2]; omega

/-- One factor moved to an end of its bounds. -/
theorem mul_end {x l h y : Int} (h1 : l ≤ x) (h2 : x ≤ h) : (l * y ≤ x * y ∨ h * y ≤ x * y) ∧ (x * y ≤ l * y ∨ x * y ≤ h * y) := by
  rcases Int.le_total 0 y with hy | hy
  · exact ⟨.inl (Int.mul_le_mul_of_nonneg_right h1 hy), .inr (Int.mul_le_mul_of_nonneg_right h2 hy)⟩
  · exact ⟨.inr (Int.mul_le_mul_of_nonpos_right h2 hy), .inl (Int.mul_le_mul_of_nonpos_right h1 hy)⟩

/-- A product of numbers between bounds lies between products of bounds. -/
theorem corners {a b : Nm} {x y : Int} (h1 : a.lo ≤ x) (h2 : x ≤ a.hi) (h3 : b.lo ≤ y) (h4 : y ≤ b.hi) : (∃ p ∈ pairs4 a b, p.1 * p.2 ≤ x * y) ∧ (∃ p ∈ pairs4 a b, x * y ≤ p.1 * p.2) := by
  have k1 := mul_end (y := y) h1 h2
  have k2 := mul_end (y := a.lo) h3 h4
  have k3 := mul_end (y := a.hi) h3 h4
  rw [Int.mul_comm b.lo, Int.mul_comm y, Int.mul_comm b.hi] at k2 k3
  constructor
  · rcases k1.1 with h | h
    · rcases k2.1 with g | g
      · exact ⟨(a.lo, b.lo), by simp [pairs4], Int.le_trans g h⟩
      · exact ⟨(a.lo, b.hi), by simp [pairs4], Int.le_trans g h⟩
    · rcases k3.1 with g | g
      · exact ⟨(a.hi, b.lo), by simp [pairs4], Int.le_trans g h⟩
      · exact ⟨(a.hi, b.hi), by simp [pairs4], Int.le_trans g h⟩
  · rcases k1.2 with h | h
    · rcases k2.2 with g | g
      · exact ⟨(a.lo, b.lo), by simp [pairs4], Int.le_trans h g⟩
      · exact ⟨(a.lo, b.hi), by simp [pairs4], Int.le_trans h g⟩
    · rcases k3.2 with g | g
      · exact ⟨(a.hi, b.lo), by simp [pairs4], Int.le_trans h g⟩
      · exact ⟨(a.hi, b.hi), by simp [pairs4], Int.le_trans h g⟩

theorem fMul_some {a b m : Int} (h : (fMul a b m).2 = true) : (fMul a b m).1 = (md a b 16777216 m).1 ∧ (md a b 16777216 m).2 = true ∧ okF (fMul a b m).1 := by
  unfold fMul at *
  have e := td_some h
  have o := td_okF h
  refine ⟨e.1, e.2, ?_⟩
  rw [e.1]
  exact o _ (by simp)

theorem fine_mul (a b : Nm) : nMul a b = wrong ∨ fine (nMul a b) = true := by
  refine made_fine _ a b _ (by simp [pairs4]) (fun x y m h => (fMul_some h).2.2) fun h1 h2 h3 h4 => ?_
  have fa := fine_okF h3
  have fb := fine_okF h4
  have all := List.all_eq_true.mp h2
  obtain ⟨⟨p, hp, c1⟩, ⟨q, hq, c2⟩⟩ := corners (a := a) (b := b) fa.2.2.1 fa.2.2.2.1 fb.2.2.1 fb.2.2.2.1
  have e0 := fMul_some h1
  have n0 := md_near (by decide) e0.2.1
  refine ⟨⟨p, hp, ?_⟩, ⟨q, hq, ?_⟩⟩
  · have ep := fMul_some (Bool.and_eq_true _ _ ▸ all p hp).1
    have fp := (md_floor (by decide) ep.2.1).1 rfl
    rw [e0.1, ep.1]
    generalize a.v * b.v = X at *
    generalize p.1 * p.2 = C at *
    omega
  · have eq := fMul_some (Bool.and_eq_true _ _ ▸ all q hq).2
    have fq := (md_floor (by decide) eq.2.1).2 rfl
    rw [e0.1, eq.1]
    generalize a.v * b.v = X at *
    generalize q.1 * q.2 = C at *
    omega


/-- A quotient is at least one of two quotients of bounds, rounded down. -/
theorem quo_low {x l y lo hi v Fl Fh : Int} (h0 : 0 < lo) (h1 : lo ≤ y) (h2 : y ≤ hi) (hx : l ≤ x) (hv : x * 16777216 - y < v * y) (fl : Fl * lo ≤ l * 16777216) (fh : Fh * hi ≤ l * 16777216 ∧ l * 16777216 < Fh * hi + hi) : Fl ≤ v ∨ Fh ≤ v := by
  have key : ∀ F : Int, F * y ≤ x * 16777216 → F ≤ v := fun F hF => by
    have h3 : (F - 1) * y < v * y := by rw [Int.sub_mul, Int.one_mul]; omega
    have := Int.lt_of_mul_lt_mul_right h3 (by omega)
    omega
  rcases Int.lt_or_le l 0 with hl | hl
  · left
    refine key _ ?_
    have hF : Fl ≤ 0 := by
      apply Int.not_lt.mp; intro h
      have := Int.mul_pos h h0
      omega
    have := Int.mul_le_mul_of_nonpos_left hF h1
    omega
  · right
    refine key _ ?_
    have hF : 0 ≤ Fh := by
      apply Int.not_lt.mp; intro h
      have h4 : (Fh + 1) * hi ≤ 0 := Int.mul_nonpos_of_nonpos_of_nonneg (by omega) (by omega)
      rw [Int.add_mul, Int.one_mul] at h4
      omega
    have := Int.mul_le_mul_of_nonneg_left h2 hF
    omega

/-- A quotient is at most one of two quotients of bounds, rounded up. -/
theorem quo_high {x u y lo hi v Gl Gh : Int} (h0 : 0 < lo) (h1 : lo ≤ y) (h2 : y ≤ hi) (hx : x ≤ u) (hv : v * y < x * 16777216 + y) (gl : u * 16777216 ≤ Gl * lo) (gh : u * 16777216 ≤ Gh * hi ∧ Gh * hi < u * 16777216 + hi) : v ≤ Gl ∨ v ≤ Gh := by
  have key : ∀ F : Int, x * 16777216 ≤ F * y → v ≤ F := fun F hF => by
    have h3 : v * y < (F + 1) * y := by rw [Int.add_mul, Int.one_mul]; omega
    have := Int.lt_of_mul_lt_mul_right h3 (by omega)
    omega
  rcases Int.lt_or_le u 0 with hl | hl
  · right
    refine key _ ?_
    have hF : Gh ≤ 0 := by
      apply Int.not_lt.mp; intro h
      have h4 : 0 ≤ (Gh - 1) * hi := Int.mul_nonneg (by omega) (by omega)
      rw [Int.sub_mul, Int.one_mul] at h4
      omega
    have := Int.mul_le_mul_of_nonpos_left hF h2
    omega
  · left
    refine key _ ?_
    have hF : 0 ≤ Gl := by
      apply Int.not_lt.mp; intro h
      have := Int.mul_neg_of_neg_of_pos h h0
      omega
    have := Int.mul_le_mul_of_nonneg_left h1 hF
    omega

theorem fDiv_some {a b m : Int} (h : (fDiv a b m).2 = true) : (fDiv a b m).1 = (md a 16777216 b m).1 ∧ (md a 16777216 b m).2 = true ∧ okF (fDiv a b m).1 := by
  unfold fDiv at *
  have e := td_some h
  have o := td_okF h
  refine ⟨e.1, e.2, ?_⟩
  rw [e.1]
  exact o _ (by simp)

theorem fine_div (a b : Nm) : nDiv a b = wrong ∨ fine (nDiv a b) = true := by
  unfold nDiv
  by_cases hz : b.lo ≤ 0 ∧ 0 ≤ b.hi
  · rw [if_pos hz]; exact .inl rfl
  rw [if_neg hz]
  refine made_fine _ a b _ (by simp [pairs4]) (fun x y m h => (fDiv_some h).2.2) fun h1 h2 h3 h4 => ?_
  have fa := fine_okF h3
  have fb := fine_okF h4
  have all := List.all_eq_true.mp h2
  have get : ∀ p ∈ pairs4 a b, (fDiv p.1 p.2 1).2 = true ∧ (fDiv p.1 p.2 2).2 = true := fun p hp => Bool.and_eq_true _ _ ▸ all p hp
  have e0 := fDiv_some h1
  have m1 : (a.lo, b.lo) ∈ pairs4 a b := by simp [pairs4]
  have m2 : (a.lo, b.hi) ∈ pairs4 a b := by simp [pairs4]
  have m3 : (a.hi, b.lo) ∈ pairs4 a b := by simp [pairs4]
  have m4 : (a.hi, b.hi) ∈ pairs4 a b := by simp [pairs4]
  rcases Int.lt_or_le 0 b.lo with hp | hp
  · have n0 := md_near (by omega) e0.2.1
    have q1 := fDiv_some (get _ m1).1
    have q2 := fDiv_some (get _ m2).1
    have q3 := fDiv_some (get _ m3).2
    have q4 := fDiv_some (get _ m4).2
    dsimp only at q1 q2 q3 q4
    have f1 := (md_floor hp q1.2.1).1 rfl
    have f2 := (md_floor (by omega) q2.2.1).1 rfl
    have f3 := (md_floor hp q3.2.1).2 rfl
    have f4 := (md_floor (by omega) q4.2.1).2 rfl
    rw [← e0.1] at n0
    rw [← q1.1] at f1
    rw [← q2.1] at f2
    rw [← q3.1] at f3
    rw [← q4.1] at f4
    constructor
    · rcases quo_low hp fb.2.2.1 fb.2.2.2.1 fa.2.2.1 n0.1 f1.1 f2 with h | h
      · exact ⟨_, m1, h⟩
      · exact ⟨_, m2, h⟩
    · rcases quo_high hp fb.2.2.1 fb.2.2.2.1 fa.2.2.2.1 n0.2 f3.1 f4 with h | h
      · exact ⟨_, m3, h⟩
      · exact ⟨_, m4, h⟩
  · have hn : b.hi < 0 := by omega
    have q1 := fDiv_some (get _ m1).2
    have q2 := fDiv_some (get _ m2).2
    have q3 := fDiv_some (get _ m3).1
    have q4 := fDiv_some (get _ m4).1
    dsimp only at q1 q2 q3 q4
    have t0 := e0.2.1
    have t1 := q1.2.1
    have t2 := q2.2.1
    have t3 := q3.2.1
    have t4 := q4.2.1
    rw [← md_negc] at t0 t1 t2 t3 t4
    have n0 := md_near (by omega) t0
    have f1 := (md_floor (by omega) t1).2 rfl
    have f2 := (md_floor (by omega) t2).2 rfl
    have f3 := (md_floor (by omega) t3).1 rfl
    have f4 := (md_floor (by omega) t4).1 rfl
    rw [md_negc, ← e0.1] at n0
    rw [md_negc, ← q1.1] at f1
    rw [md_negc, ← q2.1] at f2
    rw [md_negc, ← q3.1] at f3
    rw [md_negc, ← q4.1] at f4
    constructor
    · rcases quo_low (x := -a.v) (l := -a.hi) (y := -b.v) (lo := -b.hi) (hi := -b.lo) (by omega) (by omega) (by omega) (by omega) n0.1 f4.1 f3 with h | h
      · exact ⟨_, m4, h⟩
      · exact ⟨_, m3, h⟩
    · rcases quo_high (x := -a.v) (u := -a.lo) (y := -b.v) (lo := -b.hi) (hi := -b.lo) (by omega) (by omega) (by omega) (by omega) n0.2 f2.1 f1 with h | h
      · exact ⟨_, m2, h⟩
      · exact ⟨_, m1, h⟩

theorem isq_mono {x y : Int} (h : x.natAbs ≤ y.natAbs) : isq x ≤ isq y := by
  have h1 := isq_le x
  have h2 := isq_lt y
  have h3 := isq_le y
  exact (le_root h3 h2 (isq x)).mp (Nat.le_trans h1 (Nat.mul_le_mul_right _ h))

theorem rup_mono {R P Q : Nat} (h1 : R * R ≤ P) (h : P ≤ Q) : (rup 0 R P).toNat ≤ (rup 2 R Q).toNat := by
  unfold rup
  by_cases hQ : R * R = Q
  · have hP : R * R = P := by omega
    simp [hP]
  · have : (!decide (R * R = Q) && (decide ((2 : Int) = 2) || decide ((2 : Int) = 0) && decide (R * (R + 1) < Q))) = true := by simp [hQ]
    rw [this]
    exact Bool.toNat_le _

theorem fRt_some {a m : Int} (h : (fRt a m).2 = true) : 0 ≤ a ∧ okF (fRt a m).1 ∧ (fRt a m).1 = ((isq a + (rup m (isq a) (a.natAbs * 16777216)).toNat : Nat) : Int) := by
  unfold fRt fRoot at *
  have e := td_some h
  have o := td_okF h
  have ho : okRt a 16777216 m := Decidable.byContradiction fun hn => by unfold rt at e; rw [if_neg hn] at e; cases e.2
  refine ⟨?_, by rw [e.1]; exact o _ (by simp), ?_⟩
  · have := ho.1.2.2; omega
  · rw [e.1]; unfold rt; rw [if_pos ho]; rfl

theorem fine_root (a : Nm) : nRoot a = wrong ∨ fine (nRoot a) = true := by
  refine made_fine _ a a _ (by simp) (fun x y m h => (fRt_some h).2.1) fun h1 h2 h3 _ => ?_
  have fa := fine_okF h3
  simp only [isAll, List.all_cons, List.all_nil, Bool.and_eq_true, Bool.and_true] at h2
  have e0 := fRt_some h1
  have e1 := fRt_some h2.1.1
  have e2 := fRt_some h2.2.2
  refine ⟨⟨(a.lo, a.lo), by simp, ?_⟩, ⟨(a.hi, a.hi), by simp, ?_⟩⟩
  · show (fRt a.lo 1).1 ≤ (fRt a.v 0).1
    have hm := isq_mono (x := a.lo) (y := a.v) (by omega)
    rw [e0.2.2, e1.2.2]
    have hu : rup 1 (isq a.lo) (a.lo.natAbs * 16777216) = false := by unfold rup; simp
    rw [hu, Bool.toNat_false]
    omega
  · show (fRt a.v 0).1 ≤ (fRt a.hi 2).1
    have hm := isq_mono (x := a.v) (y := a.hi) (by omega)
    rw [e0.2.2, e2.2.2]
    rcases Nat.lt_or_ge (isq a.v) (isq a.hi) with h | h
    · have := Bool.toNat_le (rup 0 (isq a.v) (a.v.natAbs * 16777216))
      omega
    · have he : isq a.v = isq a.hi := by omega
      have hle : a.v.natAbs * 16777216 ≤ a.hi.natAbs * 16777216 := Nat.mul_le_mul_right _ (by omega)
      have l1 := isq_le a.v
      rw [he] at l1 ⊢
      exact Int.ofNat_le.mpr (Nat.add_le_add_left (rup_mono l1 hle) _)

end Go.Proofs
