/-
  Layer 14: what the laws answer, by plain reasoning over the functions read off the program.
-/
import Derived.Test.YtjpfdipoijehcaaWGA
import Derived.Test.YtjpfdipoijehcaaWLh
set_option linter.unusedSimpArgs false
set_option linter.unusedVariables false
namespace Go.Proofs
open Go Go.Fx

def manyZ (k n : Int) : Int := if n < 1 then 0 else if n > 4 then 0 else if k = 1 then n + n * n else if k = 2 then 2 * n * n else if k = 3 then n + 2 else 0

theorem four {n : Int} (h1 : ¬ n < 1) (h2 : ¬ n > 4) : n = 1 ∨ n = 2 ∨ n = 3 ∨ n = 4 := by omega

theorem frame_Many (k n : Int) : go_frame_Many k n = some (manyZ k n) := by
  unfold go_frame_Many manyZ
  by_cases h1 : n < 1
  · simp [h1]
  by_cases h2 : n > 4
  · simp [h1, h2]
  simp only [h1, h2, decide_false, cond_false, if_false]
  by_cases k1 : k = 1
  · subst k1; simp; rcases four h1 h2 with rfl | rfl | rfl | rfl <;> rfl
  by_cases k2 : k = 2
  · subst k2; simp; rcases four h1 h2 with rfl | rfl | rfl | rfl <;> rfl
  by_cases k3 : k = 3
  · subst k3; simp; rcases four h1 h2 with rfl | rfl | rfl | rfl <;> rfl
  simp [ibeq, k1, k2, k3]

theorem ref_Many {k n : Int} (hk : -9223372036854775808 ≤ k) (hk' : k ≤ 9223372036854775807) : go_coupletref12_Many k n = some (manyZ k n) := by
  unfold go_coupletref12_Many manyZ
  by_cases h1 : n < 1
  · simp [h1]
  by_cases h2 : n > 4
  · simp [h1, h2]
  by_cases h3 : k < 1
  · have : k ≠ 1 ∧ k ≠ 2 ∧ k ≠ 3 := by omega
    simp [h1, h2, h3, this]
  by_cases h4 : k > 3
  · have : k ≠ 1 ∧ k ≠ 2 ∧ k ≠ 3 := by omega
    simp [h1, h2, h3, h4, this]
  have : k = 1 ∨ k = 2 ∨ k = 3 := by omega
  rcases four h1 h2 with rfl | rfl | rfl | rfl <;> rcases this with rfl | rfl | rfl <;> rfl

def rightZ (n : Int) : Bool := decide (-1125899906842624 ≤ n ∧ n ≤ 1125899906842624)
theorem fx_Right (n : Int) : go_fx_Right n = some (rightZ n) := by
  unfold go_fx_Right rightZ
  by_cases h1 : n ≥ -1125899906842624 <;> by_cases h2 : n ≤ 1125899906842624 <;> simp [h1, h2]
theorem ref_Right1 (n : Int) : go_coupletref02_Right n = some (rightZ n) := by
  unfold go_coupletref02_Right rightZ
  by_cases h1 : n ≥ -1125899906842624 <;> by_cases h2 : n ≤ 1125899906842624 <;> simp [h1, h2]
theorem frame_Right_1 (n : Int) : go_frame_Right_1 n = some (!rightZ n) := by
  simp [go_frame_Right_1, fx_Right]

/-- slices.IndexFunc's round. -/
def idxStep (g : Int → Option Bool) (b3 : Bool) (b4 : Bool) (l5 : List Int) (n6 : Int) (n7 : Int) : Option (((Bool × Bool × List Int × Int × Int)) ⊕ ((Unit) ⊕ (Int))) :=
  bif (decide (n7 < n6)) then
   bif (decide (0 ≤ n7)) then
    bif (decide (n7 < (((List.length l5) : Nat) : Int))) then
     bif (decide ((Int.toNat n7) < (List.length l5))) then
      (g (List.getD l5 (Int.toNat n7) 0)).bind fun r8 =>
      bif r8 then
       some (Sum.inr (Sum.inr n7))
      else
       some (Sum.inl (b3, b4, l5, n6, (IntKind.wrap .i64 (n7 + 1))))
     else none
    else none
   else none
  else
   some (Sum.inr (Sum.inl ()))

theorem idx_run {g : Int → Option Bool} {p : Int → Bool} (hg : ∀ x, g x = some (p x)) (b3 b4 : Bool) {l : List Int} (hl : l.length ≤ maxLen) :
    loopN (X := (Bool × Bool × List Int × Int × Int)) (fun x => idxStep g x.1 x.2.1 x.2.2.1 x.2.2.2.1 x.2.2.2.2) (b3, b4, l, ((l.length : Nat) : Int), 0) =
      some (match (List.range l.length).find? fun k => p (l.getD k 0) with
        | some j => .inr (j : Int)
        | none => .inl ()) := by
  unfold maxLen at hl
  refine loop_scan (fun k => (b3, b4, l, ((l.length : Nat) : Int), (k : Int))) (fun k => p (l.getD k 0)) (fun k => Sum.inr (k : Int)) (Sum.inl ()) l.length (by omega) (fun k hk => ?_) ?_
  · have h1 : (k : Int) < (l.length : Int) := by omega
    have h2 : (0 : Int) ≤ (k : Int) := by omega
    simp only [idxStep, h1, h2, hk, Int.toNat_natCast, decide_true, cond_true, hg, Option.bind_some]
    cases p (l.getD k 0) with
    | true => rfl
    | false =>
      simp only [cond_false]
      rw [w64 (by omega) (by omega)]
      rfl
  · simp [idxStep]

theorem contains_run {p : Int → Bool} {l : List Int} : (match (List.range l.length).find? fun k => p (l.getD k 0) with
        | some j => (Sum.inr (j : Int) : Unit ⊕ Int)
        | none => .inl ()) = (match (List.range l.length).find? fun k => p (l.getD k 0) with
        | some j => (Sum.inr (j : Int) : Unit ⊕ Int)
        | none => .inl ()) := rfl

theorem frame_contains (b3 b4 : Bool) {l : List Int} (hl : l.length ≤ maxLen) : go_slices_ContainsFunc__int_int b3 b4 l = some (l.any fun x => !rightZ x) := by
  have h := idx_run (g := go_frame_Right_1) (p := fun x => !rightZ x) frame_Right_1 b3 b4 hl
  unfold go_slices_ContainsFunc__int_int go_slices_IndexFunc__int_int lp_slices_IndexFunc__int_int_0
  change (Option.bind (Option.bind (loopN (X := (Bool × Bool × List Int × Int × Int)) (fun x => idxStep go_frame_Right_1 x.1 x.2.1 x.2.2.1 x.2.2.2.1 x.2.2.2.2) (b3, b4, l, ((l.length : Nat) : Int), 0)) _) _) = _
  rw [h, ← any_getD (p := fun x => !rightZ x), ← find_isSome]
  cases (List.range l.length).find? fun k => !rightZ (l.getD k 0) <;> simp

/-- Whether a frame may be. -/
def okF (n0 n1 n2 : Int) (l : List Int) : Bool := decide (manyZ n0 n2 > 0 ∧ (l.length : Int) = manyZ n0 n2 ∧ n1 ≥ 0 ∧ n1 ≤ 4294967295) && !(l.any fun x => !rightZ x)

theorem frame_Right (n0 n1 n2 : Int) (b3 b4 : Bool) {l : List Int} (hl : l.length ≤ maxLen) : go_frame_Right n0 n1 n2 b3 b4 l = some (okF n0 n1 n2 l) := by
  unfold go_frame_Right okF
  rw [frame_Many, frame_contains b3 b4 hl, Option.bind_some, Option.bind_some]
  by_cases h1 : manyZ n0 n2 > 0
  · by_cases h2 : (l.length : Int) = manyZ n0 n2
    · by_cases h3 : n1 ≥ 0
      · by_cases h4 : n1 ≤ 4294967295 <;> simp [h1, h2, h3, h4]
      · simp [h1, h2, h3]
    · simp [ibeq, h1, h2]
  · simp [h1]

theorem manyZ_nonneg (k n : Int) : 0 ≤ manyZ k n := by
  unfold manyZ
  by_cases h1 : n < 1
  · simp [h1]
  by_cases h2 : n > 4
  · simp [h2]
  simp only [h1, h2, if_false]
  rcases four h1 h2 with rfl | rfl | rfl | rfl <;> (repeat' split) <;> omega

theorem ref_Right {n0 n1 n2 : Int} (b3 b4 : Bool) {l : List Int} (hk : -9223372036854775808 ≤ n0) (hk' : n0 ≤ 9223372036854775807) (hl : l.length ≤ maxLen) : go_coupletref12_Right n0 n1 n2 b3 b4 l = some (okF n0 n1 n2 l) := by
  have hloop : lp_coupletref12_Right_0 0 n0 n1 n2 b3 b4 l = some (match (List.range l.length).find? fun k => !rightZ (l.getD k 0) with
      | some j => .inr false
      | none => .inl ()) := by
    unfold lp_coupletref12_Right_0
    unfold maxLen at hl
    refine loop_scan (fun k => ((k : Int), n0, n1, n2, b3, b4, l)) (fun k => !rightZ (l.getD k 0)) (fun k => Sum.inr false) (Sum.inl ()) l.length (by omega) (fun k hk => ?_) ?_
    · have h1 : (k : Int) < (l.length : Int) := by omega
      have h2 : (0 : Int) ≤ (k : Int) := by omega
      simp only [st_coupletref12_Right_0, h1, h2, hk, Int.toNat_natCast, decide_true, cond_true, ref_Right1, Option.bind_some]
      cases rightZ (l.getD k 0) with
      | false => rfl
      | true =>
        simp only [Bool.not_true, cond_false]
        rw [w64 (by omega) (by omega)]
        rfl
    · simp [st_coupletref12_Right_0]
  have hnn := manyZ_nonneg n0 n2
  unfold go_coupletref12_Right okF
  rw [ref_Many hk hk', hloop, Option.bind_some, Option.bind_some, Option.bind_some, ← any_getD (p := fun x => !rightZ x), ← find_isSome]
  by_cases h1 : manyZ n0 n2 > 0
  · have h0 : manyZ n0 n2 ≠ 0 := by omega
    by_cases h2 : manyZ n0 n2 = (l.length : Int)
    · by_cases h3 : n1 < 0
      · have : ¬ n1 ≥ 0 := by omega
        simp [h0, h1, h2, h3, this]
      · by_cases h4 : n1 > 4294967295
        · have : ¬ n1 ≤ 4294967295 := by omega
          simp [h0, h1, h2, h3, h4, this]
        · have h5 : n1 ≥ 0 := by omega
          have h6 : n1 ≤ 4294967295 := by omega
          have h7 : (l.length : Int) > 0 := by omega
          have h8 : (l.length : Int) ≠ 0 := by omega
          have hpos : 0 < l.length := by omega
          have hne : l ≠ [] := fun e => by rw [e] at hpos; simp at hpos
          cases hf : (List.range l.length).find? fun k => !rightZ (l.getD k 0) <;> simp [ibeq, ibne, h0, h1, h2, h3, h4, h5, h6, h7, h8, hne, hpos]
    · have h3 : ¬ (l.length : Int) = manyZ n0 n2 := fun e => h2 e.symm
      simp [ibeq, ibne, h0, h1, h2, h3]
  · have h0 : manyZ n0 n2 = 0 := by omega
    simp [h0]

theorem clone_run {l : List Int} (b4 : Bool) (h : l.length ≤ 1000) : go_slices_Clone__int_int false b4 l = some (false, false, l) := by
  have h1 : (0 + l.length) * 8 ≤ 140737488355328 := by omega
  have h2 : 0 + l.length ≤ 4611686018427387904 := by omega
  simp only [go_slices_Clone__int_int, h1, h2, decide_true, cond_true, Bool.false_or, Bool.false_and, List.nil_append]
  rfl

theorem parts_step {a n8 k e n10 n11 n12 : Int} {b14 b16 b17 b19 b20 : Bool} {l ends : List Int} {es : List PV} (h1 : k < n8) (h2 : 0 ≤ k) (h3 : k < (ends.length : Int)) (he : ends.getD k.toNat 0 = e) (h4 : 0 ≤ a) (h5 : a ≤ e) (h6 : e ≤ (l.length : Int))
    (h7 : l.length ≤ 1000) (h8 : es.length ≤ 1000) (h9 : ends.length ≤ 1000) :
    st_check_Parts_0 a n8 k n10 n11 n12 false b14 l b16 b17 es b19 b20 ends = some (Sum.inl (e, n8, k + 1, n10, n11, n12, false, b14, l, false, false, es ++ [.isl false false .i64 ((l.drop a.toNat).take (e - a).toNat)], b19, b20, ends)) := by
  have g1 : k.toNat < ends.length := by omega
  have g2 : (es.length + 1) * 24 ≤ 140737488355328 := by omega
  have g3 : es.length + 1 ≤ 4611686018427387904 := by omega
  have g4 : ((l.drop a.toNat).take (e - a).toNat).length ≤ 1000 := by simp only [List.length_take, List.length_drop]; omega
  simp only [st_check_Parts_0, h1, h2, h3, g1, he, h4, h5, h6, g2, g3, clone_run _ g4, decide_true, cond_true, Option.bind_some, Bool.and_false]
  rw [w64 (by omega) (by omega)]
theorem parts_end {a n8 k n10 n11 n12 : Int} {b13 b14 b16 b17 b19 b20 : Bool} {l ends : List Int} {es : List PV} (h1 : ¬ k < n8) : st_check_Parts_0 a n8 k n10 n11 n12 b13 b14 l b16 b17 es b19 b20 ends = some (Sum.inr (b16, b17, es)) := by
  simp only [st_check_Parts_0, h1, decide_false, cond_false]

def partsL (n0 n2 : Int) (l : List Int) : List PV :=
  if n0 = 3 then [.isl false false .i64 (l.take n2.toNat), .isl false false .i64 ((l.drop n2.toNat).take 1), .isl false false .i64 (l.drop (n2.toNat + 1))]
  else if n0 = 2 then [.isl false false .i64 (l.take (n2 * n2).toNat), .isl false false .i64 (l.drop (n2 * n2).toNat)]
  else [.isl false false .i64 (l.take n2.toNat), .isl false false .i64 (l.drop n2.toNat)]

theorem okF_cases {n0 n1 n2 : Int} {l : List Int} (h : okF n0 n1 n2 l = true) : (n2 = 1 ∨ n2 = 2 ∨ n2 = 3 ∨ n2 = 4) ∧ (n0 = 1 ∧ (l.length : Int) = n2 + n2 * n2 ∨ n0 = 2 ∧ (l.length : Int) = 2 * n2 * n2 ∨ n0 = 3 ∧ (l.length : Int) = n2 + 2) ∧ 0 ≤ n1 ∧ n1 ≤ 4294967295 ∧ (∀ x ∈ l, rightZ x = true) := by
  simp only [okF, Bool.and_eq_true, decide_eq_true_eq, Bool.not_eq_true', List.any_eq_false, Bool.not_eq_true, Bool.not_eq_false', Bool.not_eq_false] at h
  obtain ⟨⟨h1, h2, h3, h4⟩, h5⟩ := h
  unfold manyZ at h1 h2
  by_cases g1 : n2 < 1
  · simp [g1] at h1
  by_cases g2 : n2 > 4
  · simp [g1, g2] at h1
  simp only [g1, g2, if_false] at h1 h2
  refine ⟨four g1 g2, ?_, h3, h4, h5⟩
  by_cases k1 : n0 = 1
  · simp only [k1, if_true] at h2; exact .inl ⟨k1, h2⟩
  by_cases k2 : n0 = 2
  · simp only [k1, k2, if_true, if_false] at h2; exact .inr (.inl ⟨k2, h2⟩)
  by_cases k3 : n0 = 3
  · simp only [k1, k2, k3, if_true, if_false] at h2; exact .inr (.inr ⟨k3, h2⟩)
  simp [k1, k2, k3] at h1

theorem loop_two {a b n10 n11 n12 : Int} {b4 : Bool} {l : List Int} (h1 : 0 ≤ a) (h2 : a ≤ (l.length : Int)) (h7 : l.length ≤ 1000) :
    lp_check_Parts_0 0 ((2 : Nat) : Int) 0 n10 n11 n12 false b4 l true true [] (false && false) false [a, (l.length : Int)] = some (false, false, [.isl false false .i64 (l.take a.toNat), .isl false false .i64 (l.drop a.toNat)]) := by
  unfold lp_check_Parts_0
  refine loopN_of 3 (by decide) ?_
  have e1 : ((l.drop (0 : Int).toNat).take (a - 0).toNat) = l.take a.toNat := by simp
  have e2 : ((l.drop a.toNat).take ((l.length : Int) - a).toNat) = l.drop a.toNat := List.take_of_length_le (by simp only [List.length_drop]; omega)
  rw [iterN, parts_step (e := a) (by dsimp only; omega) (by dsimp only; omega) (by simp) rfl (by dsimp only; omega) (by dsimp only; omega) (by omega) h7 (by simp) (by simp)]
  dsimp only
  rw [iterN, parts_step (e := (l.length : Int)) (by dsimp only; omega) (by dsimp only; omega) (by simp) rfl (by dsimp only; omega) (by dsimp only; omega) (by omega) h7 (by simp) (by simp)]
  dsimp only
  rw [iterN, parts_end (by dsimp only; omega), e1, e2]
  rfl
theorem loop_three {a c n10 n11 n12 : Int} {b4 : Bool} {l : List Int} (h1 : 0 ≤ a) (h2 : a ≤ c) (h3 : c ≤ (l.length : Int)) (h7 : l.length ≤ 1000) :
    lp_check_Parts_0 0 ((3 : Nat) : Int) 0 n10 n11 n12 false b4 l true true [] (false && false) false [a, c, (l.length : Int)] = some (false, false, [.isl false false .i64 (l.take a.toNat), .isl false false .i64 ((l.drop a.toNat).take (c - a).toNat), .isl false false .i64 (l.drop c.toNat)]) := by
  unfold lp_check_Parts_0
  refine loopN_of 4 (by decide) ?_
  have e1 : ((l.drop (0 : Int).toNat).take (a - 0).toNat) = l.take a.toNat := by simp
  have e2 : ((l.drop c.toNat).take ((l.length : Int) - c).toNat) = l.drop c.toNat := List.take_of_length_le (by simp only [List.length_drop]; omega)
  rw [iterN, parts_step (e := a) (by dsimp only; omega) (by dsimp only; omega) (by simp) rfl (by dsimp only; omega) (by dsimp only; omega) (by omega) h7 (by simp) (by simp)]
  dsimp only
  rw [iterN, parts_step (e := c) (by dsimp only; omega) (by dsimp only; omega) (by simp) rfl (by dsimp only; omega) (by dsimp only; omega) (by omega) h7 (by simp) (by simp)]
  dsimp only
  rw [iterN, parts_step (e := (l.length : Int)) (by dsimp only; omega) (by dsimp only; omega) (by simp) rfl (by dsimp only; omega) (by dsimp only; omega) (by omega) h7 (by simp) (by simp)]
  dsimp only
  rw [iterN, parts_end (by dsimp only; omega), e1, e2]
  rfl

theorem parts_run {n0 n1 n2 : Int} {b4 : Bool} {l : List Int} (hl : l.length ≤ maxLen) (h : okF n0 n1 n2 l = true) : go_check_Parts n0 n1 n2 false b4 l = some (false, false, partsL n0 n2 l) := by
  obtain ⟨hn, hk, _, _, _⟩ := okF_cases h
  have hlen : l.length ≤ 1000 := by
    rcases hn with rfl | rfl | rfl | rfl <;> rcases hk with ⟨_, hk⟩ | ⟨_, hk⟩ | ⟨_, hk⟩ <;> omega
  unfold go_check_Parts
  rw [frame_Right _ _ _ _ _ hl, h]
  simp only [Option.bind_some, Bool.not_true, cond_false]
  rcases hk with ⟨rfl, hk⟩ | ⟨rfl, hk⟩ | ⟨rfl, hk⟩
  · have : 0 ≤ n2 ∧ n2 ≤ (l.length : Int) := by rcases hn with rfl | rfl | rfl | rfl <;> omega
    rw [show ((1 : Int) == 1) = true from rfl, cond_true, loop_two this.1 this.2 hlen (b := 0)]
    rfl
  · have : IntKind.wrap .i64 (n2 * n2) = n2 * n2 := by rcases hn with rfl | rfl | rfl | rfl <;> rfl
    have h2 : 0 ≤ n2 * n2 ∧ n2 * n2 ≤ (l.length : Int) := by rcases hn with rfl | rfl | rfl | rfl <;> omega
    rw [show ((2 : Int) == 1) = false from rfl, cond_false, show ((2 : Int) == 2) = true from rfl, cond_true, this, loop_two h2.1 h2.2 hlen (b := 0)]
    rfl
  · have : IntKind.wrap .i64 (n2 + 1) = n2 + 1 := by rcases hn with rfl | rfl | rfl | rfl <;> rfl
    have h2 : 0 ≤ n2 ∧ n2 + 1 ≤ (l.length : Int) := by rcases hn with rfl | rfl | rfl | rfl <;> omega
    rw [show ((3 : Int) == 1) = false from rfl, cond_false, show ((3 : Int) == 2) = false from rfl, cond_false, show ((3 : Int) == 3) = true from rfl, cond_true, this, loop_three h2.1 (by omega) h2.2 hlen]
    have e1 : (n2 + 1 - n2).toNat = 1 := by omega
    have e2 : (n2 + 1).toNat = n2.toNat + 1 := by omega
    simp only [partsL, if_true, e1, e2, Option.bind_some]
theorem parts_bad {n0 n1 n2 : Int} {b3 b4 : Bool} {l : List Int} (hl : l.length ≤ maxLen) (h : okF n0 n1 n2 l = false) : go_check_Parts n0 n1 n2 b3 b4 l = some (true, true, []) := by
  unfold go_check_Parts
  rw [frame_Right _ _ _ _ _ hl, h]
  rfl

def greatZ (n : Int) : Bool := decide (n > 17179869184) || decide (n < -17179869184)
theorem sound_1 (n : Int) : go_check_Sound_1 n = some (greatZ n) := by
  unfold go_check_Sound_1 greatZ
  by_cases h : n > 17179869184 <;> simp [h]
theorem sound_contains (b3 b4 : Bool) {l : List Int} (hl : l.length ≤ maxLen) : go_slices_ContainsFunc__int_int_v1 b3 b4 l = some (l.any greatZ) := by
  have h := idx_run (g := go_check_Sound_1) (p := greatZ) sound_1 b3 b4 hl
  unfold go_slices_ContainsFunc__int_int_v1 go_slices_IndexFunc__int_int_v1 lp_slices_IndexFunc__int_int_v1_0
  change (Option.bind (Option.bind (loopN (X := (Bool × Bool × List Int × Int × Int)) (fun x => idxStep go_check_Sound_1 x.1 x.2.1 x.2.2.1 x.2.2.2.1 x.2.2.2.2) (b3, b4, l, ((l.length : Nat) : Int), 0)) _) _) = _
  rw [h, ← any_getD (p := greatZ), ← find_isSome]
  cases (List.range l.length).find? fun k => greatZ (l.getD k 0) <;> simp

/-- Where the diagonal begins. -/
def fromZ (n0 n2 : Int) : Nat := if n0 = 2 then (n2 * n2).toNat else n2.toNat
def diagZ (n0 n2 : Int) (l : List Int) (k : Nat) : Bool := decide (l.getD (fromZ n0 n2 + k * n2.toNat + k) 0 < 65536)
/-- Whether a frame is one to filter with, and why not. -/
def soundZ (n0 n1 n2 : Int) (l : List Int) : Int :=
  if okF n0 n1 n2 l = false then 1 else if l.any greatZ = true then 3 else if n0 = 3 then (if l.getD n2.toNat 0 < 65536 then 9 else 0)
  else if (List.range n2.toNat).any (diagZ n0 n2 l) = true then 9 else 0

theorem getD_drop {l : List Int} {a i : Nat} : (l.drop a).getD i 0 = l.getD (a + i) 0 := by
  simp only [List.getD_eq_getElem?_getD, List.getElem?_drop]

theorem diag_idx {a n2 : Int} {k : Nat} (hn : n2 = 1 ∨ n2 = 2 ∨ n2 = 3 ∨ n2 = 4) (h0 : 0 ≤ a) (h1 : a ≤ 1000) (hk : k < n2.toNat) :
    IntKind.wrap .i64 (IntKind.wrap .i64 (a + IntKind.wrap .i64 ((k : Int) * n2)) + (k : Int)) = a + ((k * n2.toNat + k : Nat) : Int) := by
  have hb : 0 ≤ (k : Int) * n2 ∧ (k : Int) * n2 ≤ 16 ∧ (k : Int) ≤ 4 ∧ ((k * n2.toNat : Nat) : Int) = (k : Int) * n2 := by
    rcases hn with rfl | rfl | rfl | rfl <;> simp at hk ⊢ <;> omega
  generalize (k : Int) * n2 = p at *
  rw [w64 (a := p) (by omega) (by omega), w64 (a := a + p) (by omega) (by omega), w64 (by omega) (by omega)]
  omega
theorem diag_sq {n2 : Int} {k : Nat} (hn : n2 = 1 ∨ n2 = 2 ∨ n2 = 3 ∨ n2 = 4) (hk : k < n2.toNat) : k * n2.toNat + k < n2.toNat * n2.toNat := by
  rcases hn with rfl | rfl | rfl | rfl <;> simp at hk ⊢ <;> omega

theorem diag_loop {n0 n1 n2 : Int} {b4 : Bool} {l : List Int} {es : List PV} (hn : n2 = 1 ∨ n2 = 2 ∨ n2 = 3 ∨ n2 = 4) (he : es.length = 2) (hp : es.getD 1 .nilSl = .isl false false .i64 (l.drop (fromZ n0 n2))) (hlen : fromZ n0 n2 + n2.toNat * n2.toNat ≤ l.length) (h1000 : l.length ≤ 1000) :
    lp_check_Sound_0 false false es n2 0 n0 n1 n2 false b4 l = some (if (List.range n2.toNat).any (diagZ n0 n2 l) = true then .inr 9 else .inl ()) := by
  unfold lp_check_Sound_0
  have key := loop_scan (step := fun x : (Bool × Bool × List PV × Int × Int × Int × Int × Int × Bool × Bool × List Int) => st_check_Sound_0 x.1 x.2.1 x.2.2.1 x.2.2.2.1 x.2.2.2.2.1 x.2.2.2.2.2.1 x.2.2.2.2.2.2.1 x.2.2.2.2.2.2.2.1 x.2.2.2.2.2.2.2.2.1 x.2.2.2.2.2.2.2.2.2.1 x.2.2.2.2.2.2.2.2.2.2)
    (fun k => (false, false, es, n2, (k : Int), n0, n1, n2, false, b4, l)) (diagZ n0 n2 l) (fun _ => Sum.inr (9 : Int)) (Sum.inl ()) n2.toNat (by omega) (fun k hk => ?_) ?_
  · rw [show ((0 : Int)) = ((0 : Nat) : Int) from rfl, key]
    rw [← find_isSome]
    cases (List.range n2.toNat).find? (diagZ n0 n2 l) <;> simp
  · have h1 : (k : Int) < n2 := by omega
    have hkn := diag_sq hn hk
    have e1 : IntKind.wrap .i64 (IntKind.wrap .i64 ((k : Int) * n2) + (k : Int)) = ((k * n2.toNat + k : Nat) : Int) := by
      have := diag_idx (a := 0) hn (by decide) (by decide) hk
      simp only [Int.zero_add] at this
      have hw : IntKind.wrap .i64 (IntKind.wrap .i64 ((k : Int) * n2)) = IntKind.wrap .i64 ((k : Int) * n2) := by simp only [IntKind.wrap_i64]; generalize (k : Int) * n2 = p; omega
      rw [hw] at this; exact this
    have h2 : (1 : Int) < (es.length : Int) := by omega
    have h3 : 1 < es.length := by omega
    have h4 : (0 : Int) ≤ ((k * n2.toNat + k : Nat) : Int) := by omega
    have h5 : k * n2.toNat + k < (l.drop (fromZ n0 n2)).length := by simp only [List.length_drop]; omega
    have h6 : ((k * n2.toNat + k : Nat) : Int) < (((l.drop (fromZ n0 n2)).length : Nat) : Int) := by omega
    have h7 : IntKind.wrap .i64 ((k : Int) + 1) = ((k + 1 : Nat) : Int) := by rw [w64 (by omega) (by omega)]; rfl
    have q1 : PV.scal (es.getD 1 .nilSl) = true := by rw [hp]; rfl
    have q2 : Shp.ok (.isl .i64) (es.getD 1 .nilSl) = true := by rw [hp]; rfl
    have q3 : PV.ints (es.getD 1 .nilSl) = l.drop (fromZ n0 n2) := by rw [hp]; rfl
    simp only [st_check_Sound_0, h1, h2, h3, q1, q2, q3, e1, h4, h5, h6, h7, Int.toNat_natCast, decide_true, cond_true, getD_drop, Nat.add_assoc]
    simp only [diagZ, Nat.add_assoc]
    exact some_bif _ _ _
  · have : ¬ ((n2.toNat : Int) < n2) := by omega
    simp only [st_check_Sound_0, this, decide_false, cond_false]

theorem check_Sound {n0 n1 n2 : Int} {b3 b4 : Bool} {l : List Int} (hl : l.length ≤ maxLen) (hb : b3 = true → l = []) : go_check_Sound n0 n1 n2 b3 b4 l = some (soundZ n0 n1 n2 l) := by
  unfold go_check_Sound soundZ
  cases h : okF n0 n1 n2 l with
  | false => rw [parts_bad hl h]; rfl
  | true =>
    obtain ⟨hn, hk, _, _, _⟩ := okF_cases h
    have hlen : l.length ≤ 1000 ∧ 1 ≤ l.length := by
      rcases hn with rfl | rfl | rfl | rfl <;> rcases hk with ⟨_, hk⟩ | ⟨_, hk⟩ | ⟨_, hk⟩ <;> omega
    have hb3 : b3 = false := by
      cases b3 with
      | false => rfl
      | true => rw [hb rfl] at hlen; simp at hlen
    subst hb3
    rw [parts_run hl h, sound_contains _ _ hl]
    simp only [Option.bind_some, Bool.false_or, cond_true, show (false == true) = false from rfl, cond_false, Bool.true_eq_false, if_false]
    cases l.any greatZ with
    | true => rfl
    | false =>
      simp only [cond_false, Bool.false_eq_true, if_false]
      rcases hk with ⟨rfl, hk⟩ | ⟨rfl, hk⟩ | ⟨rfl, hk⟩
      · have hd := diag_loop (n0 := 1) (n1 := n1) (b4 := b4) (l := l) (es := partsL 1 n2 l) hn (by simp [partsL]) (by simp [partsL, fromZ]) (by
          simp only [fromZ]
          rcases hn with rfl | rfl | rfl | rfl <;> simp at hk ⊢ <;> omega) hlen.1
        simp only [show ((1 : Int) == 3) = false from rfl, cond_false, hd, Option.bind_some, show ¬ ((1 : Int) = 3) by decide, if_false]
        split <;> rfl
      · have hd := diag_loop (n0 := 2) (n1 := n1) (b4 := b4) (l := l) (es := partsL 2 n2 l) hn (by simp [partsL]) (by simp [partsL, fromZ]) (by
          simp only [fromZ]
          rcases hn with rfl | rfl | rfl | rfl <;> simp at hk ⊢ <;> omega) hlen.1
        simp only [show ((2 : Int) == 3) = false from rfl, cond_false, hd, Option.bind_some, show ¬ ((2 : Int) = 3) by decide, if_false]
        split <;> rfl
      · have e0 : partsL 3 n2 l = [.isl false false .i64 (l.take n2.toNat), .isl false false .i64 ((l.drop n2.toNat).take 1), .isl false false .i64 (l.drop (n2.toNat + 1))] := by simp [partsL]
        have e1 : ((l.drop n2.toNat).take 1).length = 1 := by simp only [List.length_take, List.length_drop]; omega
        have e2 : ((l.drop n2.toNat).take 1).getD 0 0 = l.getD n2.toNat 0 := by
          simp only [List.getD_eq_getElem?_getD]
          rw [List.getElem?_take_of_lt (by decide), List.getElem?_drop, Nat.add_zero]
        have q0 : (partsL 3 n2 l).length = 3 := by rw [e0]; rfl
        have q1 : PV.scal ((partsL 3 n2 l).getD 1 .nilSl) = true := by rw [e0]; rfl
        have q2 : Shp.ok (.isl .i64) ((partsL 3 n2 l).getD 1 .nilSl) = true := by rw [e0]; rfl
        have q3 : PV.ints ((partsL 3 n2 l).getD 1 .nilSl) = (l.drop n2.toNat).take 1 := by rw [e0]; rfl
        simp only [q0, q1, q2, q3, show ((3 : Int) == 3) = true from rfl, cond_true, e1, e2, if_true]
        by_cases hc : l.getD n2.toNat 0 < 65536
        · simp only [hc, decide_true, cond_true, if_true]; rfl
        · simp only [hc, decide_false, cond_false, if_false]; rfl

theorem ref_Sound {n0 n1 n2 : Int} {b3 b4 : Bool} {l : List Int} (hk0 : -9223372036854775808 ≤ n0) (hk1 : n0 ≤ 9223372036854775807) (hl : l.length ≤ maxLen) : go_coupletref14_Sound n0 n1 n2 b3 b4 l = some (soundZ n0 n1 n2 l) := by
  unfold go_coupletref14_Sound soundZ
  rw [ref_Right b3 b4 hk0 hk1 hl]
  cases h : okF n0 n1 n2 l with
  | false => rfl
  | true =>
    obtain ⟨hn, hk, _, _, _⟩ := okF_cases h
    have hlen : l.length ≤ 1000 ∧ 1 ≤ l.length := by
      rcases hn with rfl | rfl | rfl | rfl <;> rcases hk with ⟨_, hk⟩ | ⟨_, hk⟩ | ⟨_, hk⟩ <;> omega
    have hloop : lp_coupletref14_Sound_0 0 n0 n1 n2 b3 b4 l = some (if l.any greatZ = true then .inr 3 else .inl (n0, n1, n2, b3, b4, l)) := by
      unfold lp_coupletref14_Sound_0
      have key := loop_scan (step := fun x : (Int × Int × Int × Int × Bool × Bool × List Int) => st_coupletref14_Sound_0 x.1 x.2.1 x.2.2.1 x.2.2.2.1 x.2.2.2.2.1 x.2.2.2.2.2.1 x.2.2.2.2.2.2)
        (fun k => ((k : Int), n0, n1, n2, b3, b4, l)) (fun k => greatZ (l.getD k 0)) (fun _ => Sum.inr (3 : Int)) (Sum.inl (n0, n1, n2, b3, b4, l)) l.length (by omega) (fun k hk => ?_) ?_
      · rw [show ((0 : Int)) = ((0 : Nat) : Int) from rfl, key, ← any_getD (p := greatZ), ← find_isSome]
        cases (List.range l.length).find? fun k => greatZ (l.getD k 0) <;> simp
      · have h1 : (k : Int) < (l.length : Int) := by omega
        have h2 : (0 : Int) ≤ (k : Int) := by omega
        have h7 : IntKind.wrap .i64 ((k : Int) + 1) = ((k + 1 : Nat) : Int) := by rw [w64 (by omega) (by omega)]; rfl
        simp only [st_coupletref14_Sound_0, h1, h2, hk, h7, Int.toNat_natCast, decide_true, cond_true, greatZ]
        by_cases g1 : l.getD k 0 > 17179869184
        · simp only [g1, decide_true, cond_true, Bool.true_or]
        · by_cases g2 : l.getD k 0 < -17179869184
          · simp only [g1, g2, decide_true, decide_false, cond_true, cond_false, Bool.false_or]
          · simp only [g1, g2, decide_false, cond_false, Bool.false_or]
      · simp [st_coupletref14_Sound_0]
    clear hl hk0 hk1
    have hdiag : ∀ a : Nat, a = fromZ n0 n2 → a + n2.toNat * n2.toNat ≤ l.length → lp_coupletref14_Sound_1 (a : Int) 0 n0 n1 n2 b3 b4 l = some (if (List.range n2.toNat).any (diagZ n0 n2 l) = true then .inr 9 else .inl ()) := by
      intro a ha hle
      unfold lp_coupletref14_Sound_1
      have key := loop_scan (step := fun x : (Int × Int × Int × Int × Int × Bool × Bool × List Int) => st_coupletref14_Sound_1 x.1 x.2.1 x.2.2.1 x.2.2.2.1 x.2.2.2.2.1 x.2.2.2.2.2.1 x.2.2.2.2.2.2.1 x.2.2.2.2.2.2.2)
        (fun k => ((a : Int), (k : Int), n0, n1, n2, b3, b4, l)) (diagZ n0 n2 l) (fun _ => Sum.inr (9 : Int)) (Sum.inl ()) n2.toNat (by omega) (fun k hk => ?_) ?_
      · rw [show ((0 : Int)) = ((0 : Nat) : Int) from rfl, key, ← find_isSome]
        cases (List.range n2.toNat).find? (diagZ n0 n2 l) <;> simp
      · have h1 : (k : Int) < n2 := by omega
        have hkn := diag_sq hn hk
        have e1 : IntKind.wrap .i64 (IntKind.wrap .i64 ((a : Int) + IntKind.wrap .i64 ((k : Int) * n2)) + (k : Int)) = ((a + k * n2.toNat + k : Nat) : Int) := by
          rw [diag_idx hn (by omega) (by omega) hk]; omega
        have h4 : (0 : Int) ≤ ((a + k * n2.toNat + k : Nat) : Int) := by omega
        have h5 : a + k * n2.toNat + k < l.length := by omega
        have h6 : ((a + k * n2.toNat + k : Nat) : Int) < (l.length : Int) := by omega
        have h7 : IntKind.wrap .i64 ((k : Int) + 1) = ((k + 1 : Nat) : Int) := by rw [w64 (by omega) (by omega)]; rfl
        simp only [st_coupletref14_Sound_1, h1, e1, h4, h5, h6, h7, Int.toNat_natCast, decide_true, cond_true]
        simp only [diagZ, ← ha]
        exact some_bif _ _ _
      · have : ¬ ((n2.toNat : Int) < n2) := by omega
        simp only [st_coupletref14_Sound_1, this, decide_false, cond_false]
    rw [hloop]
    simp only [Option.bind_some, Bool.not_true, cond_false, Bool.true_eq_false, if_false]
    cases l.any greatZ with
    | true => rfl
    | false =>
      simp only [Bool.false_eq_true, if_false, Sum.elim_inl]
      rcases hk with ⟨rfl, hk⟩ | ⟨rfl, hk⟩ | ⟨rfl, hk⟩
      · have hd := hdiag n2.toNat (by simp [fromZ]) (by rcases hn with rfl | rfl | rfl | rfl <;> simp at hk ⊢ <;> omega)
        rw [show ((n2.toNat : Nat) : Int) = n2 by omega] at hd
        simp only [show ((1 : Int) == 3) = false from rfl, show ((1 : Int) == 2) = false from rfl, cond_false, hd, Option.bind_some, show ¬ ((1 : Int) = 3) by decide, if_false]
        split <;> rfl
      · have hd := hdiag (n2 * n2).toNat (by simp [fromZ]) (by rcases hn with rfl | rfl | rfl | rfl <;> simp at hk ⊢ <;> omega)
        have e2 : IntKind.wrap .i64 (n2 * n2) = (((n2 * n2).toNat : Nat) : Int) := by rcases hn with rfl | rfl | rfl | rfl <;> rfl
        simp only [show ((2 : Int) == 3) = false from rfl, show ((2 : Int) == 2) = true from rfl, cond_false, cond_true, e2, hd, Option.bind_some, show ¬ ((2 : Int) = 3) by decide, if_false]
        split <;> rfl
      · have h1 : 0 ≤ n2 := by rcases hn with rfl | rfl | rfl | rfl <;> decide
        have h2 : n2 < (l.length : Int) := by omega
        have h3 : n2.toNat < l.length := by omega
        simp only [show ((3 : Int) == 3) = true from rfl, cond_true, h1, h2, h3, decide_true, if_true]
        by_cases hc : l.getD n2.toNat 0 < 65536
        · simp only [hc, decide_true, cond_true, if_true]
        · simp only [hc, decide_false, cond_false, if_false]

end Go.Proofs
