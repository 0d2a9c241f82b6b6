/-
  The document's Number is what the plain function says.
-/
import Derived.Test.YtlfffpkfipdboaaDoorWGFn
import Derived.Test.YtlfffpkfipdboaaDoorWSFs
set_option linter.unusedVariables false
noncomputable section
namespace Go.Proofs
open Go Go.Fx
theorem loop_spec {X Y : Type} {step : X → Option (X ⊕ Y)} (F : X → Y) (I : X → Prop) (μ : X → Nat)
    (h : ∀ x, I x → step x = some (.inr (F x)) ∨ ∃ x', step x = some (.inl x') ∧ I x' ∧ μ x' < μ x ∧ F x' = F x) {x : X} (hx : I x) (hb : μ x < 18446744073709551616) : loopN step x = some (F x) := by
  obtain ⟨y, h1, h2⟩ := loop_rule (step := step) (fun z => I z ∧ F z = F x) μ (fun y => y = F x) (fun z hz => by
    rcases h z hz.1 with h1 | ⟨x', h1, h2, h3, h4⟩
    · exact .inl ⟨_, h1, hz.2⟩
    · exact .inr ⟨x', h1, ⟨h2, h4.trans hz.2⟩, h3⟩) ⟨hx, rfl⟩ hb
  rw [h1, h2]
theorem pow10_le {k : Nat} (h : k ≤ 16) : (10 : Int) ^ k ≤ 10000000000000000 := by
  have h1 : (10 : Nat) ^ k ≤ 10 ^ 16 := Nat.pow_le_pow_right (by decide) h
  have h2 := Int.ofNat_le.2 h1
  rw [Int.natCast_pow, Int.natCast_pow] at h2
  exact h2
theorem digsI_false : ∀ (l : List Int) (n : Int), (digsI n l).2 = false → (digsI n l).1 = 0
  | [], n, h => by cases h
  | c :: r, n, h => by
    rw [digsI] at h ⊢
    cases hc : decide (48 ≤ c ∧ c ≤ 57) with
    | false => rfl
    | true =>
      rw [hc, cond_true] at h
      rw [cond_true]
      exact digsI_false r _ h
theorem digsI_bound : ∀ (l : List Int) (n : Int), 0 ≤ n → 0 ≤ (digsI n l).1 ∧ (digsI n l).1 < (n + 1) * 10 ^ l.length
  | [], n, h => by simp [digsI]; omega
  | c :: r, n, h => by
    rw [digsI]
    have hp : (0 : Int) < 10 ^ (c :: r).length := Int.pow_pos (by decide)
    cases hc : decide (48 ≤ c ∧ c ≤ 57) with
    | false => rw [cond_false]; exact ⟨Int.le_refl _, Int.mul_pos (by omega) hp⟩
    | true =>
      rw [cond_true]
      have hc := of_decide_eq_true hc
      obtain ⟨h1, h2⟩ := digsI_bound r (n * 10 + (c - 48)) (by omega)
      refine ⟨h1, Int.lt_of_lt_of_le h2 ?_⟩
      have hq : (0 : Int) < 10 ^ r.length := Int.pow_pos (by decide)
      rw [List.length_cons, Int.pow_succ, Int.mul_comm (10 ^ r.length) 10, ← Int.mul_assoc]
      exact Int.mul_le_mul_of_nonneg_right (by omega) (Int.le_of_lt hq)
theorem refNum_bound : ∀ l : List Int, -10000000000000000 < (refNum l).1 ∧ (refNum l).1 < 10000000000000000
  | [] => by simp [refNum]
  | c :: r => by
    have ih := refNum_bound r
    rw [refNum]
    cases c == 45 with
    | true => rw [cond_true]; dsimp only; omega
    | false =>
      rw [cond_false]
      cases hc : (decide ((c :: r).length > 16) || (c == 48 && decide ((c :: r).length > 1))) with
      | true => rw [cond_true]; decide
      | false =>
        rw [cond_false]
        rw [Bool.or_eq_false_iff] at hc
        have hl : (c :: r).length ≤ 16 := by have := of_decide_eq_false hc.1; omega
        obtain ⟨h1, h2⟩ := digsI_bound (c :: r) 0 (by decide)
        have := pow10_le hl
        omega
theorem num_loop {l : List Int} (hb : isB l) (hl : l.length ≤ 16) : lp_coupletref20_Number_v1_0 l 0 0 = some (match digsI 0 l with
    | (v, true) => .inl v
    | (_, false) => .inr (0, false)) := by
  unfold lp_coupletref20_Number_v1_0
  have key := loop_spec (step := fun x : List Int × Int × Int => st_coupletref20_Number_v1_0 x.1 x.2.1 x.2.2)
    (fun x => match digsI x.2.1 (x.1.drop x.2.2.toNat) with
      | (v, true) => Sum.inl v
      | (_, false) => Sum.inr (0, false))
    (fun x => x.1 = l ∧ ∃ k : Nat, x.2.2 = k ∧ k ≤ l.length ∧ 0 ≤ x.2.1 ∧ x.2.1 < 10 ^ k) (fun x => l.length - x.2.2.toNat) (fun x ⟨h1, k, h2, h3, h4, h5⟩ => by
      obtain ⟨l', n, k'⟩ := x
      dsimp only at h1 h2 h4 h5 ⊢
      subst h1
      subst h2
      unfold st_coupletref20_Number_v1_0
      rw [Int.toNat_natCast]
      by_cases hk : k < l'.length
      · have hd : l'.drop k = l'.getD k 0 :: l'.drop (k + 1) := by
          rw [List.drop_eq_getElem_cons hk, List.getD_eq_getElem?_getD, List.getElem?_eq_getElem hk]; rfl
        have hc := isB_getD hb k
        have e1 : decide ((k : Int) < ((l'.length : Nat) : Int)) = true := decide_eq_true (by omega)
        have e2 : decide ((0 : Int) ≤ (k : Int)) = true := decide_eq_true (by omega)
        generalize l'.getD k 0 = c at hd hc
        simp only [e1, e2, cond_true]
        rw [hd, digsI]
        by_cases q1 : c < 48
        · left
          rw [decide_eq_true q1, cond_true, decide_eq_false (by omega : ¬ (48 ≤ c ∧ c ≤ 57)), cond_false]
        · rw [decide_eq_false q1, cond_false]
          by_cases q2 : c > 57
          · left
            rw [decide_eq_true q2, cond_true, decide_eq_false (by omega : ¬ (48 ≤ c ∧ c ≤ 57)), cond_false]
          · right
            rw [decide_eq_false q2, cond_false, decide_eq_true (by omega : 48 ≤ c ∧ c ≤ 57), cond_true]
            have h10 := pow10_le (k := k + 1) (by omega)
            have h10' : (10 : Int) ^ (k + 1) = 10 ^ k * 10 := Int.pow_succ ..
            have w1 : IntKind.wrap .u8 (c - 48) = c - 48 := by
              rw [show IntKind.wrap .u8 (c - 48) = (c - 48) % 256 from rfl]; omega
            have w2 : IntKind.wrap .i64 (c - 48) = c - 48 := w64 (by omega) (by omega)
            have w3 : IntKind.wrap .i64 (n * 10) = n * 10 := w64 (by omega) (by omega)
            have w4 : IntKind.wrap .i64 (n * 10 + (c - 48)) = n * 10 + (c - 48) := w64 (by omega) (by omega)
            have w5 : IntKind.wrap .i64 ((k : Int) + 1) = ((k + 1 : Nat) : Int) := by rw [w64 (by omega) (by omega)]; rfl
            rw [w1, w2, w3, w4, w5]
            refine ⟨_, rfl, ⟨rfl, k + 1, rfl, hk, (show 0 ≤ n * 10 + (c - 48) by omega), (show n * 10 + (c - 48) < 10 ^ (k + 1) by omega)⟩, ?_, ?_⟩
            · dsimp only; rw [Int.toNat_natCast]; omega
            · dsimp only; rw [Int.toNat_natCast]
      · left
        have e1 : decide ((k : Int) < ((l'.length : Nat) : Int)) = false := decide_eq_false (by omega)
        rw [e1, cond_false, List.drop_eq_nil_of_le (by omega)]
        rfl) (x := (l, 0, 0)) ⟨rfl, 0, rfl, by omega, (show (0 : Int) ≤ 0 by decide), (show (0 : Int) < 10 ^ 0 by decide)⟩ (by dsimp only; omega)
  exact key
theorem num_law {l : List Int} (hb : isB l) (hlen : l.length ≤ 1099511627776) (hrec : ∀ r, l = 45 :: r → go_rec_Number r = some (refNum r)) : go_coupletref20_Number_v1 l = some (refNum l) := by
  cases l with
  | nil => rfl
  | cons c r =>
    have hbound := refNum_bound r
    unfold go_coupletref20_Number_v1
    rw [refNum]
    have e0 : ((c :: r) == []) = false := rfl
    have e1 : decide (0 < (((c :: r).length : Nat) : Int)) = true := decide_eq_true (by simp only [List.length_cons]; omega)
    rw [e0, cond_false, e1, cond_true]
    rw [show (c :: r).getD 0 0 = c from rfl]
    cases hc : c == 45 with
    | true =>
      have hc : c = 45 := by simpa using hc
      subst hc
      have e2 : decide (1 ≤ (((45 :: r : List Int).length : Nat) : Int)) = true := decide_eq_true (by simp only [List.length_cons]; omega)
      have e3 : decide ((((45 :: r : List Int).length : Nat) : Int) ≤ (((45 :: r : List Int).length : Nat) : Int)) = true := decide_eq_true (Int.le_refl _)
      have e4 : List.take (Int.toNat ((((45 :: r : List Int).length : Nat) : Int) - 1)) (List.drop 1 (45 :: r)) = r := by
        simp only [List.length_cons, List.drop_succ_cons, List.drop_zero]
        rw [show (((r.length + 1 : Nat) : Int) - 1).toNat = r.length by omega, List.take_length]
      rw [cond_true, e2, cond_true, e3, cond_true, e4, hrec r rfl, Option.bind_some, cond_true]
      have w : IntKind.wrap .i64 (0 - (refNum r).1) = 0 - (refNum r).1 := w64 (by omega) (by omega)
      rw [w]
      cases (refNum r).2 <;> rfl
    | false =>
      rw [cond_false, cond_false]
      by_cases q : (c :: r).length > 16
      · rw [decide_eq_true (show (((c :: r).length : Nat) : Int) > 16 by omega), decide_eq_true q]; rfl
      · rw [decide_eq_false (show ¬ (((c :: r).length : Nat) : Int) > 16 by omega), decide_eq_false q, cond_false, Bool.false_or]
        simp only [e1, cond_true]
        have hloop := num_loop (l := c :: r) hb (by omega)
        cases hz : c == 48 with
        | true =>
          rw [cond_true, Bool.true_and]
          by_cases q2 : (c :: r).length > 1
          · rw [decide_eq_true (show (((c :: r).length : Nat) : Int) > 1 by omega), decide_eq_true q2]; rfl
          · rw [decide_eq_false (show ¬ (((c :: r).length : Nat) : Int) > 1 by omega), decide_eq_false q2, cond_false, cond_false, hloop]
            cases hd : digsI 0 (c :: r) with
            | mk v b => cases b with
              | true => rfl
              | false => have := digsI_false _ _ (congrArg Prod.snd hd); rw [hd] at this; cases this; rfl
        | false =>
          rw [cond_false, Bool.false_and, cond_false, hloop]
          cases hd : digsI 0 (c :: r) with
          | mk v b => cases b with
            | true => rfl
            | false => have := digsI_false _ _ (congrArg Prod.snd hd); rw [hd] at this; cases this; rfl
theorem fn_Number : ∀ l : List Int, isB l → l.length ≤ 1099511627776 → FunEq Tryd.prog GG 20 [.str l] (em_rec_Number (refNum l))
  | [], hb, hl => ok_coupletref20_Number_v1 [] _ (num_law hb hl fun r h => by cases h)
  | c :: r, hb, hl => by
    have ih := fn_Number r (fun x hx => hb x (List.mem_cons_of_mem _ hx)) (by simp only [List.length_cons] at hl; omega)
    refine ok_coupletref20_Number_v1 (c :: r) _ (num_law hb hl fun r' h => ?_)
    cases h
    unfold go_rec_Number
    rw [if_pos ih]
def go_coupletref20_Number (l : List Int) : Option (Int × Bool) := bif l.all (fun x => decide (0 ≤ x ∧ x < 256)) && decide (l.length ≤ 1099511627776) then some (refNum l) else none
def em_coupletref20_Number (r : Int × Bool) : PV := em_rec_Number r
def as_coupletref20_Number : List Shp := [.str]
def ga_coupletref20_Number (vs : List PV) : Option (Int × Bool) := go_coupletref20_Number ((tls 0 vs).headD .nilSl).chars
theorem at_coupletref20_Number : FnAt Tryd.prog GG 20 as_coupletref20_Number ga_coupletref20_Number em_coupletref20_Number := fun vs h r hr => by
  have e : Shp.buildL as_coupletref20_Number vs = [.str ((tls 0 vs).headD .nilSl).chars] := by kernel_rfl
  rw [← Shp.buildL_eq _ h, e]
  unfold ga_coupletref20_Number go_coupletref20_Number at hr
  cases hc : (((tls 0 vs).headD PV.nilSl).chars.all fun x => decide (0 ≤ x ∧ x < 256)) && decide (((tls 0 vs).headD PV.nilSl).chars.length ≤ 1099511627776) with
  | true =>
    rw [hc, cond_true] at hr
    rw [Bool.and_eq_true, decide_eq_true_eq, List.all_eq_true] at hc
    cases hr
    exact .inl ⟨by decide, fn_Number _ (fun x hx => of_decide_eq_true (hc.1 x hx)) hc.2⟩
  | false => rw [hc] at hr; cases hr
end Go.Proofs
end
