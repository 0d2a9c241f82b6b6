/-
  Bytes in a text, two signs each.
-/
import Derived.Test.YtlfffpkfipdboaaDoorWLP2
set_option linter.unusedVariables false
set_option linter.unusedSimpArgs false
noncomputable section
namespace Go.Proofs
open Go Go.Fx
theorem text_get {l : List Int} (hb : isB l) {i : Nat} (hi : i < l.length) : ((textOf l).get! i).toNat = (l.getD i 0).toNat := by
  have h := hb (l.getD i 0) (by rw [List.getD_eq_getElem?_getD, List.getElem?_eq_getElem hi]; exact List.getElem_mem hi)
  have e : (textOf l).get! i = byt (l.getD i 0) := by
    show ((strBytes l).toArray)[i]! = _
    have hi' : i < (strBytes l).toArray.size := by simp [strBytes, hi]
    rw [getElem!_pos _ i hi']
    simp [strBytes, byt, List.getD_eq_getElem?_getD, List.getElem?_eq_getElem hi]
  rw [e, byt, UInt8.toNat_ofNat']
  omega
theorem rune_low {l : List Int} (hb : isB l) {i : Nat} (hi : i < l.length) (h : l.getD i 0 < 128) : runeAt l i = l.getD i 0 ∧ runeLen l i = 1 := by
  have hg := text_get hb hi
  have h0 := (isB_getD hb i).1
  unfold runeAt runeLen Utf8.decode
  simp only [Nat.add_zero]
  rw [if_pos (by rw [hg]; omega)]
  exact ⟨by dsimp only; rw [hg]; omega, rfl⟩
theorem valid_le {c : Nat} (h : Utf8.valid (c : Int) = true) : c ≤ 1114111 := by
  unfold Utf8.valid at h
  simp only [Bool.or_eq_true, Bool.and_eq_true, decide_eq_true_eq] at h
  omega
theorem rune_high {l : List Int} (hb : isB l) {i : Nat} (hi : i < l.length) (h : 128 ≤ l.getD i 0) : 128 ≤ runeAt l i ∧ runeAt l i ≤ 1114111 := by
  have hg := text_get hb hi
  unfold runeAt Utf8.decode
  simp only [Nat.add_zero]
  rw [if_neg (by rw [hg]; omega)]
  have key : ∀ p : Nat × Nat, 128 ≤ p.1 → p.1 ≤ 1114111 → 128 ≤ ((p.1 : Nat) : Int) ∧ ((p.1 : Nat) : Int) ≤ 1114111 := fun p h1 h2 => by omega
  refine key _ ?_ ?_
  · split
    · split
      · assumption
      · decide
    · split
      · split
        · rename_i h2
          rw [Bool.and_eq_true, decide_eq_true_eq] at h2
          exact Nat.le_trans (by decide) h2.1
        · decide
      · split
        · split
          · rename_i h2
            rw [Bool.and_eq_true, decide_eq_true_eq] at h2
            exact Nat.le_trans (by decide) h2.1
          · decide
        · decide
  · split
    · split
      · dsimp only; omega
      · decide
    · split
      · split
        · rename_i h2
          rw [Bool.and_eq_true] at h2
          exact valid_le h2.2
        · decide
      · split
        · split
          · rename_i h2
            rw [Bool.and_eq_true] at h2
            exact valid_le h2.2
          · decide
        · decide
def digC (c : Int) : Bool := decide (48 ≤ c ∧ c ≤ 57)
theorem number1_law (r : Int) : go_flight_number_1 r = some (!digC r) := by
  unfold go_flight_number_1 digC
  by_cases h1 : r < 48
  · rw [dt h1, df (show ¬ (48 ≤ r ∧ r ≤ 57) by omega)]; rfl
  · rw [df h1, cond_false]
    by_cases h2 : r > 57
    · rw [dt h2, df (show ¬ (48 ≤ r ∧ r ≤ 57) by omega)]; rfl
    · rw [df h2, dt (show 48 ≤ r ∧ r ≤ 57 by omega)]; rfl
theorem contains_law {l : List Int} (hb : isB l) (hl : l.length ≤ 100000) : go_strings_ContainsFunc l = some (!l.all digC) := by
  have key : ∃ y, lp_strings_indexFunc_0 true l 0 = some y ∧ ((y = .inl () ∧ l.all digC = true) ∨ (∃ i : Nat, y = .inr (i : Int) ∧ l.all digC = false)) := by
    unfold lp_strings_indexFunc_0
    refine loop_rule (step := fun x : Bool × List Int × Nat => st_strings_indexFunc_0 x.1 x.2.1 x.2.2) (fun x => x.1 = true ∧ x.2.1 = l ∧ x.2.2 ≤ l.length ∧ (l.take x.2.2).all digC = true) (fun x => l.length - x.2.2) _ (fun x ⟨h1, h2, h3, h4⟩ => ?_) (x := (true, l, 0)) ⟨rfl, rfl, Nat.zero_le _, rfl⟩ (by dsimp only; omega)
    obtain ⟨b, l', i⟩ := x
    dsimp only at h1 h2 h3 h4 ⊢
    subst h1 h2
    unfold st_strings_indexFunc_0
    by_cases hi : i < l'.length
    · rw [dt hi, cond_true, number1_law, Option.bind_some]
      have hmem : l'.getD i 0 ∈ l' := by rw [List.getD_eq_getElem?_getD, List.getElem?_eq_getElem hi]; exact List.getElem_mem hi
      have bad : digC (l'.getD i 0) = false → l'.all digC = false := fun h => by
        rw [List.all_eq_false]
        exact ⟨_, hmem, by rw [h]; simp⟩
      by_cases hlow : l'.getD i 0 < 128
      · obtain ⟨r1, r2⟩ := rune_low hb hi hlow
        rw [r1, r2]
        cases hd : digC (l'.getD i 0) with
        | true =>
          right
          refine ⟨_, rfl, ⟨rfl, rfl, hi, ?_⟩, ?_⟩
          · dsimp only
            rw [List.take_succ_eq_append_getElem hi, List.all_append, h4]
            have : l'[i] = l'.getD i 0 := by rw [List.getD_eq_getElem?_getD, List.getElem?_eq_getElem hi]; rfl
            rw [this]
            show (true && (digC (l'.getD i 0) && true)) = true
            rw [hd]; rfl
          · dsimp only; omega
        | false => exact .inl ⟨_, rfl, .inr ⟨i, rfl, bad hd⟩⟩
      · obtain ⟨r1, r2⟩ := rune_high hb hi (by omega)
        have : digC (runeAt l' i) = false := df (by omega)
        rw [this]
        exact .inl ⟨_, rfl, .inr ⟨i, rfl, bad (df (by omega))⟩⟩
    · rw [df hi, cond_false]
      refine .inl ⟨_, rfl, .inl ⟨rfl, ?_⟩⟩
      rw [List.take_of_length_le (by omega)] at h4
      exact h4
  obtain ⟨y, h1, h2⟩ := key
  unfold go_strings_ContainsFunc go_strings_IndexFunc go_strings_indexFunc
  rw [h1]
  rcases h2 with ⟨rfl, h2⟩ | ⟨i, rfl, h2⟩
  · rw [h2]; rfl
  · rw [h2]
    simp only [Option.bind_some, Sum.elim_inr]
    rw [dt (show ((i : Nat) : Int) ≥ 0 by omega)]; rfl
theorem prefix_law {l : List Int} : go_strings_TrimPrefix l [45] = some (match l with
    | [] => []
    | c :: r => bif c == 45 then r else c :: r) := by
  have key : go_internal_stringslite_TrimPrefix l [45] = some (match l with
    | [] => []
    | c :: r => bif c == 45 then r else c :: r) := by
    unfold go_internal_stringslite_TrimPrefix go_internal_stringslite_HasPrefix
    cases l with
    | nil => rfl
    | cons c r =>
      simp only [List.length_cons, List.length_nil, Nat.zero_add]
      have c1 : decide ((((r.length + 1 : Nat)) : Int) ≥ ((1 : Nat) : Int)) = true := dt (by omega)
      have c2 : decide (((1 : Nat) : Int) ≤ (((r.length + 1 : Nat)) : Int)) = true := dt (by omega)
      have c3 : decide ((((r.length + 1 : Nat)) : Int) ≤ (((r.length + 1 : Nat)) : Int)) = true := dt (by omega)
      have t1 : List.take (Int.toNat (((1 : Nat) : Int) - 0)) (List.drop 0 (c :: r)) = [c] := rfl
      have t2 : List.take (Int.toNat ((((r.length + 1 : Nat)) : Int) - ((1 : Nat) : Int))) (List.drop (Int.toNat ((1 : Nat) : Int)) (c :: r)) = r := by
        rw [show ((((r.length + 1 : Nat)) : Int) - ((1 : Nat) : Int)).toNat = r.length by omega]
        show List.take r.length r = r
        exact List.take_length
      have e : (([c] : List Int) == [45]) = (c == 45) := by
        show (c == 45 && true) = _
        rw [Bool.and_true]
      simp only [c1, c2, c3, t1, t2, e, Option.bind_some, cond_true]
      cases c == 45 <;> rfl
  unfold go_strings_TrimPrefix
  rw [key]; rfl
theorem digs_all : ∀ (l : List Int) (n : Int), (digsI n l).2 = l.all digC
  | [], n => rfl
  | c :: r, n => by
    rw [digsI, List.all_cons, digC]
    cases decide (48 ≤ c ∧ c ≤ 57) with
    | true => rw [cond_true, digs_all r, Bool.true_and]
    | false => rfl
theorem digs_pos : ∀ (l : List Int) (n : Int), 0 < n → l.all digC = true → 0 < (digsI n l).1
  | [], n, h, _ => h
  | c :: r, n, h, ha => by
    rw [List.all_cons, Bool.and_eq_true, digC] at ha
    rw [digsI, ha.1, cond_true]
    have := of_decide_eq_true ha.1
    exact digs_pos r _ (by omega) ha.2
theorem parse_step {c : Int} {r : List Int} {n : Nat} (hc : 48 ≤ c ∧ c ≤ 57) (hn : n ≤ 1000000000000000) : Lib.parseUint10 n (strBytes (c :: r)) = Lib.parseUint10 (n * 10 + (c.toNat - 48)) (strBytes r) := by
  have hcb : (byt c).toNat = c.toNat := by rw [byt, UInt8.toNat_ofNat']; omega
  rw [strBytes_cons]
  conv => lhs; unfold Lib.parseUint10
  simp only [hcb]
  rw [if_pos (by omega), if_neg (by omega), if_neg (by omega)]
theorem parse_digs (l : List Int) : ∀ n : Nat, isB l → l.all digC = true → ((n : Int) + 1) * 10 ^ l.length ≤ 10000000000000000 → Lib.parseUint10 n (strBytes l) = .ok (digsI n l).1.toNat := by
  induction l with
  | nil => intro n _ _ _; simp [strBytes, Lib.parseUint10, digsI]
  | cons c r ih =>
    intro n hb ha hl
    rw [List.all_cons, Bool.and_eq_true, digC] at ha
    have hc := of_decide_eq_true ha.1
    have hp : (1 : Int) ≤ 10 ^ r.length := Int.pow_pos (by decide)
    rw [List.length_cons, Int.pow_succ, Int.mul_comm (10 ^ r.length) 10, ← Int.mul_assoc] at hl
    have h1 : ((n : Int) + 1) * 10 ≤ 10000000000000000 := Int.le_trans (by
      have := Int.mul_le_mul_of_nonneg_left (c := ((n : Int) + 1) * 10) hp (by omega)
      rw [Int.mul_one] at this; exact this) hl
    rw [parse_step hc (by omega), digsI, ha.1, cond_true]
    have e : ((n * 10 + (c.toNat - 48) : Nat) : Int) = (n : Int) * 10 + (c - 48) := by omega
    rw [ih (n * 10 + (c.toNat - 48)) (isB_cons.1 hb).2 ha.2 (Int.le_trans (Int.mul_le_mul_of_nonneg_right (by omega) (by omega)) hl), e]
theorem atoi_pos {l : List Int} (hb : isB l) (h0 : l ≠ []) (hl : l.length ≤ 16) (ha : l.all digC = true) : atoiV l = some (digsI 0 l).1 := by
  have hp := parse_digs l 0 hb ha (by have := pow10_le hl; omega)
  have hbd := digsI_bound l 0 (by decide)
  have hp10 := pow10_le hl
  unfold atoiV
  cases l with
  | nil => exact absurd rfl h0
  | cons c r =>
    rw [List.all_cons, Bool.and_eq_true, digC] at ha
    have hc := of_decide_eq_true ha.1
    have hcb : (byt c).toNat = c.toNat := by rw [byt, UInt8.toNat_ofNat']; omega
    rw [strBytes_cons] at hp ⊢
    have hm : Lib.parseMag (byt c :: strBytes r) = .ok (digsI 0 (c :: r)).1.toNat := by
      unfold Lib.parseMag
      rw [if_neg (by simp)]
      exact hp
    unfold Lib.atoiAll
    simp only [hcb]
    rw [if_neg (by omega), hm]
    simp only
    rw [if_neg (by omega), if_neg (by omega), if_neg (by omega)]
    simp only [Option.some.injEq]
    omega
theorem atoi_neg {r : List Int} (hb : isB r) (h0 : r ≠ []) (hl : r.length ≤ 16) (ha : r.all digC = true) : atoiV (45 :: r) = some (0 - (digsI 0 r).1) := by
  have hp := parse_digs r 0 hb ha (by have := pow10_le hl; omega)
  have hbd := digsI_bound r 0 (by decide)
  have hp10 := pow10_le hl
  have hm : Lib.parseMag (strBytes r) = .ok (digsI 0 r).1.toNat := by
    unfold Lib.parseMag
    rw [if_neg (by cases r <;> simp [strBytes] at h0 ⊢)]
    exact hp
  unfold atoiV
  rw [strBytes_cons]
  unfold Lib.atoiAll
  have h45 : (byt 45).toNat = 45 := by decide
  simp only [h45]
  rw [if_pos (by decide), hm]
  simp only
  rw [if_neg (by simp), if_neg (by omega), if_pos trivial]
  simp only [Option.some.injEq]
  omega
theorem go_atoi {l : List Int} {v : Int} (h : atoiV l = some v) (hl : l.length ≤ 1000) : go_strconv_Atoi l = some v := by
  unfold go_strconv_Atoi
  rw [if_pos ⟨by rw [h]; rfl, hl⟩, h]; rfl
theorem number_law {l : List Int} (hb : isB l) (hl : l.length ≤ 100000) : ∃ v, go_flight_number l = some (v, (refNum l).2) ∧ ((refNum l).2 = true → v = (refNum l).1) := by
  unfold go_flight_number
  rw [prefix_law, Option.bind_some]
  cases l with
  | nil => exact ⟨0, rfl, fun h => by cases h⟩
  | cons c r =>
    obtain ⟨hc, hr⟩ := isB_cons.1 hb
    dsimp only
    rw [refNum]
    by_cases hc45 : c = 45
    · subst hc45
      have e : ((45 : Int) == 45) = true := rfl
      simp only [e, cond_true]
      cases r with
      | nil => exact ⟨0, rfl, fun h => by cases h⟩
      | cons d q =>
        have e0 : ((d :: q) == []) = false := rfl
        rw [e0, cond_false]
        have hneg : d = 45 → ((refNum (d :: q)).2 && decide ((refNum (d :: q)).1 > 0)) = false := fun h => by
          subst h
          rw [refNum, show ((45 : Int) == 45) = true from rfl, cond_true]
          cases h2 : (refNum q).2 with
          | false => rfl
          | true =>
            by_cases h3 : (refNum q).1 > 0
            · rw [dt h3, df (by dsimp only; omega)]; rfl
            · rw [df h3]; rfl
        by_cases h16 : (d :: q).length > 16
        · rw [dt (show (((d :: q).length : Nat) : Int) > 16 by omega), cond_true]
          refine ⟨0, ?_, fun h => ?_⟩
          · congr 2
            by_cases hd : d = 45
            · rw [hneg hd]
            · have : (d == 45) = false := by simpa using hd
              rw [refNum, this, cond_false, dt h16]; rfl
          · exfalso
            by_cases hd : d = 45
            · rw [hneg hd] at h; cases h
            · have : (d == 45) = false := by simpa using hd
              rw [refNum, this, cond_false, dt h16] at h; cases h
        · rw [df (show ¬ (((d :: q).length : Nat) : Int) > 16 by omega), cond_false, contains_law hr (by simp only [List.length_cons] at hl ⊢; omega), Option.bind_some]
          have e1 : decide (0 < (((d :: q).length : Nat) : Int)) = true := dt (by simp only [List.length_cons]; omega)
          cases ha : (d :: q).all digC with
          | false =>
            rw [Bool.not_false, cond_true]
            have hf : ((refNum (d :: q)).2 && decide ((refNum (d :: q)).1 > 0)) = false := by
              by_cases hd : d = 45
              · exact hneg hd
              · have : (d == 45) = false := by simpa using hd
                rw [refNum, this, cond_false]
                cases (decide ((d :: q).length > 16) || (d == 48 && decide ((d :: q).length > 1))) with
                | true => rfl
                | false => rw [cond_false, digs_all, ha]; rfl
            exact ⟨0, by rw [hf], fun h => by rw [hf] at h; cases h⟩
          | true =>
            rw [Bool.not_true, cond_false, e1, cond_true]
            have hdg := ha
            rw [List.all_cons, Bool.and_eq_true, digC] at hdg
            have hd := of_decide_eq_true hdg.1
            have hd45 : (d == 45) = false := by rw [beq_eq_false_iff_ne]; omega
            rw [show (d :: q).getD 0 0 = d from rfl]
            cases hz : d == 48 with
            | true =>
              have hz0 : d = 48 := by simpa using hz
              have e2 : ((45 :: d :: q : List Int) == [48]) = false := rfl
              rw [cond_true, e2, Bool.not_false, cond_true]
              have hf : ((refNum (d :: q)).2 && decide ((refNum (d :: q)).1 > 0)) = false := by
                rw [refNum, hd45, cond_false, hz]
                by_cases h1 : (d :: q).length > 1
                · rw [dt h1]; rw [Bool.and_true, Bool.or_true, cond_true]; rfl
                · have hq : q = [] := by
                    cases q with
                    | nil => rfl
                    | cons a b => exact absurd (by simp) h1
                  subst hq; subst hz0; rfl
              exact ⟨0, by rw [hf], fun h => by rw [hf] at h; cases h⟩
            | false =>
              have hz0 : d ≠ 48 := by simpa using hz
              have hat := atoi_neg hr (by simp) (by omega) ha
              rw [cond_false, go_atoi hat (by simp only [List.length_cons] at h16 ⊢; omega), Option.bind_some]
              have hpos : 0 < (digsI 0 (d :: q)).1 := by
                rw [digsI, hdg.1, cond_true]
                exact digs_pos q _ (by omega) hdg.2
              have hn : refNum (d :: q) = digsI 0 (d :: q) := by
                rw [refNum, hd45, cond_false, hz, df h16]; rfl
              rw [hn, digs_all, ha, dt hpos]
              exact ⟨_, rfl, fun _ => rfl⟩
    · have e : (c == 45) = false := by simpa using hc45
      simp only [e, cond_false]
      have e0 : ((c :: r) == []) = false := rfl
      rw [e0, cond_false]
      by_cases h16 : (c :: r).length > 16
      · rw [dt (show (((c :: r).length : Nat) : Int) > 16 by omega), cond_true, dt h16, Bool.true_or, cond_true]
        exact ⟨0, rfl, fun h => by cases h⟩
      · rw [df (show ¬ (((c :: r).length : Nat) : Int) > 16 by omega), cond_false, contains_law hb hl, Option.bind_some, df h16, Bool.false_or]
        have e1 : decide (0 < (((c :: r).length : Nat) : Int)) = true := dt (by simp only [List.length_cons]; omega)
        cases ha : (c :: r).all digC with
        | false =>
          rw [Bool.not_false, cond_true]
          have hf : (bif c == 48 && decide ((c :: r).length > 1) then ((0 : Int), false) else digsI 0 (c :: r)).2 = false := by
            cases c == 48 && decide ((c :: r).length > 1) with
            | true => rfl
            | false => rw [cond_false, digs_all, ha]
          exact ⟨0, by rw [hf], fun h => by rw [hf] at h; cases h⟩
        | true =>
          rw [Bool.not_true, cond_false, e1, cond_true, show (c :: r).getD 0 0 = c from rfl]
          have hat := atoi_pos hb (by simp) (by omega) ha
          have hgo := go_atoi hat (by omega)
          cases hz : c == 48 with
          | true =>
            have hz0 : c = 48 := by simpa using hz
            subst hz0
            rw [cond_true, Bool.true_and]
            cases r with
            | nil =>
              have e2 : (!(([48] : List Int) == [48])) = false := rfl
              rw [e2, cond_false, hgo, Option.bind_some]
              exact ⟨_, rfl, fun _ => rfl⟩
            | cons a b =>
              have e2 : ((48 :: a :: b : List Int) == [48]) = false := rfl
              rw [e2, Bool.not_false, cond_true, dt (show (48 :: a :: b : List Int).length > 1 by simp), cond_true]
              exact ⟨0, rfl, fun h => by cases h⟩
          | false =>
            rw [cond_false, Bool.false_and, cond_false, hgo, Option.bind_some, digs_all, ha]
            exact ⟨_, rfl, fun _ => rfl⟩
end Go.Proofs
end
set_option linter.unusedVariables false
set_option linter.unusedSimpArgs false
noncomputable section
namespace Go.Proofs
open Go Go.Fx
def hexL : List Int := [48, 49, 50, 51, 52, 53, 54, 55, 56, 57, 97, 98, 99, 100, 101, 102]
def hexV (c : Int) : Int := bif decide (48 ≤ c ∧ c ≤ 57) then c - 48 else bif decide (97 ≤ c ∧ c ≤ 102) then c - 87 else -1
theorem hexV_le (c : Int) : -1 ≤ hexV c ∧ hexV c ≤ 15 := by
  unfold hexV
  by_cases h1 : 48 ≤ c ∧ c ≤ 57
  · rw [dt h1, cond_true]; omega
  · rw [df h1, cond_false]
    by_cases h2 : 97 ≤ c ∧ c ≤ 102
    · rw [dt h2, cond_true]; omega
    · rw [df h2, cond_false]; omega
set_option maxRecDepth 100000 in
theorem hex_idx : ∀ n : Nat, n < 128 → Lib.indexByte (strBytes hexL) (byt (n : Int)) = hexV (n : Int) := by decide
theorem hexL_isB : isB hexL := by
  intro x hx
  simp only [hexL, List.mem_cons, List.not_mem_nil, or_false] at hx
  omega
theorem hexL_low : ∀ x ∈ hexL, x < 128 := by
  intro x hx
  simp only [hexL, List.mem_cons, List.not_mem_nil, or_false] at hx
  omega
theorem hexL_get {i : Nat} (h : i < 16) : hexL.getD i 0 ∈ hexL := by
  have hi : i < hexL.length := h
  rw [List.getD_eq_getElem?_getD, List.getElem?_eq_getElem hi]
  exact List.getElem_mem hi
theorem noidx {x : Int} (hx : 0 ≤ x ∧ x < 256) : ∀ {l : List Int}, isB l → x ∉ l → Lib.indexByte (strBytes l) (byt x) = -1
  | [], _, _ => rfl
  | y :: r, hb, hn => by
    have ih := noidx hx (isB_cons.1 hb).2 (fun h => hn (List.mem_cons_of_mem _ h))
    have e : (y == x) = false := by rw [beq_eq_false_iff_ne]; intro h; exact hn (by rw [h]; exact List.mem_cons_self ..)
    rw [strBytes_cons, Lib.indexByte, byt_beq (isB_cons.1 hb).1 hx, e, ih]
    rfl
theorem sign_last {r : Int} (h1 : 128 ≤ r) (h2 : r ≤ 1114111) : ∃ pre x, signB r = pre ++ [x] ∧ 128 ≤ x ∧ x < 256 ∧ pre.length ≤ 3 := by
  have key : ∀ c : Nat, ((UInt8.ofNat (128 + c % 64)).toNat : Int) = 128 + (c % 64 : Nat) := fun c => by
    rw [UInt8.toNat_ofNat']; omega
  unfold signB Utf8.encode
  have hc : 128 ≤ (if Utf8.valid r = true then r.toNat else Utf8.runeError) := by
    split
    · omega
    · decide
  generalize (if Utf8.valid r = true then r.toNat else Utf8.runeError) = c at hc
  simp only
  rw [if_neg (by omega)]
  split
  · exact ⟨[_], _, rfl, by show (128 : Int) ≤ ((UInt8.ofNat (128 + c % 64)).toNat : Int); rw [key]; omega, by show ((UInt8.ofNat (128 + c % 64)).toNat : Int) < 256; rw [key]; omega, by simp⟩
  · split
    · exact ⟨[_, _], _, rfl, by show (128 : Int) ≤ ((UInt8.ofNat (128 + c % 64)).toNat : Int); rw [key]; omega, by show ((UInt8.ofNat (128 + c % 64)).toNat : Int) < 256; rw [key]; omega, by simp⟩
    · exact ⟨[_, _, _], _, rfl, by show (128 : Int) ≤ ((UInt8.ofNat (128 + c % 64)).toNat : Int); rw [key]; omega, by show ((UInt8.ofNat (128 + c % 64)).toNat : Int) < 256; rw [key]; omega, by simp⟩
theorem idxrune_high {r : Int} (h1 : 128 ≤ r) (h2 : r ≤ 1114111) : go_strings_IndexRune hexL r = some (-1) := by
  unfold go_strings_IndexRune
  rw [dt (show (0 : Int) ≤ r by omega), cond_true, df (show ¬ r < 128 by omega), cond_false]
  by_cases he : r = 65533
  · have e : (r == 65533) = true := by simpa using he
    rw [e, cond_true]
    have hloop : lp_strings_IndexRune_0 hexL 0 = some (.inl ()) := by
      unfold lp_strings_IndexRune_0
      exact loop_spec (step := fun x : List Int × Nat => st_strings_IndexRune_0 x.1 x.2) (fun _ => Sum.inl ()) (fun x => x.1 = hexL ∧ x.2 ≤ 16) (fun x => 16 - x.2) (fun x ⟨q1, q2⟩ => by
        obtain ⟨l, i⟩ := x
        dsimp only at q1 q2 ⊢
        subst q1
        unfold st_strings_IndexRune_0
        by_cases hi : i < 16
        · right
          have hl := hexL_low _ (hexL_get hi)
          obtain ⟨r1, r2⟩ := rune_low hexL_isB (i := i) hi hl
          have e2 : (hexL.getD i 0 == 65533) = false := by rw [beq_eq_false_iff_ne]; omega
          rw [dt (show i < hexL.length from hi), cond_true, r1, r2, e2, cond_false]
          exact ⟨_, rfl, ⟨rfl, by dsimp only; omega⟩, by dsimp only; omega, rfl⟩
        · left
          rw [df (show ¬ i < hexL.length from hi), cond_false]) (x := (hexL, 0)) ⟨rfl, Nat.zero_le _⟩ (by decide)
    rw [hloop]; rfl
  · have e : (r == 65533) = false := by simpa using he
    rw [e, cond_false]
    have hv : ∃ b, go_unicode_utf8_ValidRune r = some b := by
      unfold go_unicode_utf8_ValidRune
      cases decide (0 ≤ r) <;> cases decide (r < 55296) <;> cases decide (57343 < r) <;> cases decide (r ≤ 1114111) <;> exact ⟨_, rfl⟩
    obtain ⟨b, hb⟩ := hv
    rw [hb, Option.bind_some]
    cases b with
    | false => rfl
    | true =>
      rw [Bool.not_true, cond_false]
      obtain ⟨pre, x, hs, hx1, hx2, hpre⟩ := sign_last h1 h2
      have wl : IntKind.wrap .i64 ((((signB r).length : Nat) : Int) - 1) = (pre.length : Int) := by
        rw [hs, List.length_append, List.length_singleton, w64 (by omega) (by omega)]; omega
      have hget : (signB r).getD pre.length 0 = x := by
        rw [hs, List.getD_eq_getElem?_getD, List.getElem?_append_right (Nat.le_refl _)]; simp
      have hlen : (signB r).length = pre.length + 1 := by rw [hs]; simp
      have hloop : lp_strings_IndexRune_2 hexL (signB r) (pre.length : Int) (pre.length : Int) = some (.inr (-1)) := by
        unfold lp_strings_IndexRune_2
        refine loopN_of 1 (by omega) ?_
        have hne : (hexL.getD pre.length 0 != x) = true := by
          have := hexL_low _ (hexL_get (i := pre.length) (by omega))
          rw [bne_iff_ne]; omega
        have w1 : IntKind.wrap .i64 ((pre.length : Int) + 1) = ((pre.length + 1 : Nat) : Int) := by rw [w64 (by omega) (by omega)]; rfl
        have hni : x ∉ List.take (Int.toNat (((hexL.length : Nat) : Int) - ((pre.length + 1 : Nat) : Int))) (List.drop (pre.length + 1) hexL) := fun h => by
          have := hexL_low x (List.mem_of_mem_drop (List.mem_of_mem_take h))
          omega
        have hib : go_strings_IndexByte (List.take (Int.toNat (((hexL.length : Nat) : Int) - ((pre.length + 1 : Nat) : Int))) (List.drop (pre.length + 1) hexL)) x = some (-1) := by
          unfold go_strings_IndexByte
          have := noidx (x := x) ⟨by omega, hx2⟩ (isB_take (isB_drop hexL_isB (pre.length + 1)) (Int.toNat (((hexL.length : Nat) : Int) - ((pre.length + 1 : Nat) : Int)))) hni
          exact congrArg some this
        have h16 : hexL.length = 16 := rfl
        have c1 : decide ((pre.length : Int) < ((hexL.length : Nat) : Int)) = true := dt (by omega)
        have c2 : decide ((0 : Int) ≤ (pre.length : Int)) = true := dt (by omega)
        have c3 : decide ((pre.length : Int) < (((pre.length + 1 : Nat)) : Int)) = true := dt (by omega)
        have c4 : decide ((0 : Int) ≤ ((pre.length + 1 : Nat) : Int)) = true := dt (by omega)
        have c5 : decide (((pre.length + 1 : Nat) : Int) ≤ ((hexL.length : Nat) : Int)) = true := dt (by omega)
        have c6 : decide (((hexL.length : Nat) : Int) ≤ ((hexL.length : Nat) : Int)) = true := dt (by omega)
        have c7 : decide ((-1 : Int) < 0) = true := rfl
        have hst : st_strings_IndexRune_2 hexL (signB r) (pre.length : Int) (pre.length : Int) = some (.inr (.inr (-1))) := by
          unfold st_strings_IndexRune_2
          simp only [hlen, w1, c1, c2, c3, c4, c5, c6, Int.toNat_natCast, hget, hne, hib, Option.bind_some, c7, cond_true]
        simp only [iterN]
        rw [hst]
      rw [wl, hloop]; rfl
theorem idxrune_low {r : Int} (h1 : 0 ≤ r) (h2 : r < 128) : go_strings_IndexRune hexL r = some (hexV r) := by
  unfold go_strings_IndexRune
  rw [dt h1, cond_true, dt h2, cond_true]
  have w : IntKind.wrap .u8 r = r := by rw [show IntKind.wrap .u8 r = r % 256 from rfl]; omega
  unfold go_strings_IndexByte
  rw [w, Option.bind_some]
  have := hex_idx r.toNat (by omega)
  rw [Int.toNat_of_nonneg h1] at this
  exact congrArg some this
def hexG (h : Int) : List Int → Option (List Int)
  | [] => some []
  | x :: r => bif decide (hexV x < 0) then none else bif decide (h < 0) then hexG (hexV x) r else (hexG (-1) r).map fun q => (h * 16 + hexV x) :: q
theorem nibB (a b : Int) (ha : 0 ≤ a ∧ a < 16) (hb : 0 ≤ b ∧ b < 16) : IntKind.wrap .u8 (IntKind.wrap .i64 (bOr .i64 (IntKind.wrap .i64 (a * 16)) b)) = a * 16 + b := by
  have key : ∀ m n : Fin 16, IntKind.wrap .u8 (IntKind.wrap .i64 (bOr .i64 (IntKind.wrap .i64 (((m.val : Nat) : Int) * 16)) ((n.val : Nat) : Int))) = ((m.val : Nat) : Int) * 16 + ((n.val : Nat) : Int) := by decide
  have := key ⟨a.toNat, by omega⟩ ⟨b.toNat, by omega⟩
  simp only [Int.toNat_of_nonneg ha.1, Int.toNat_of_nonneg hb.1] at this
  exact this
def hexB (l : List Int) : Option (List Int) := bif (l == []) || (Int.tmod (l.length : Int) 2 == 1) || decide (l.length > 1200) then none else hexG (-1) l
theorem hexG_ne {h x : Int} {r : List Int} (hh : 0 ≤ h) : hexG h (x :: r) ≠ some [] := by
  rw [hexG]
  cases decide (hexV x < 0) with
  | true => simp
  | false =>
    rw [cond_false, df (by omega), cond_false]
    cases hexG (-1) r <;> simp
theorem bytes_loop {l : List Int} (hb : isB l) (hl : l.length ≤ 1200) : ∃ y, lp_new_flight_bytes_0 (-1) true true [] l 0 = some y ∧ (match hexG (-1) l with
    | none => y = .inr (true, true, [], false)
    | some bs => ∃ b b', y = .inl (b, b', bs) ∧ (bs ≠ [] → b = false ∧ b' = false)) := by
  unfold lp_new_flight_bytes_0
  refine loop_rule (step := fun x : Int × Bool × Bool × List Int × List Int × Nat => st_new_flight_bytes_0 x.1 x.2.1 x.2.2.1 x.2.2.2.1 x.2.2.2.2.1 x.2.2.2.2.2)
    (fun x => x.2.2.2.2.1 = l ∧ x.2.2.2.2.2 ≤ l.length ∧ (x.1 = -1 ∨ (0 ≤ x.1 ∧ x.1 < 16)) ∧ x.2.2.2.1.length ≤ x.2.2.2.2.2 ∧ (x.2.2.2.1 ≠ [] → x.2.1 = false ∧ x.2.2.1 = false) ∧ hexG (-1) l = (hexG x.1 (l.drop x.2.2.2.2.2)).map (x.2.2.2.1 ++ ·))
    (fun x => l.length - x.2.2.2.2.2) _ (fun x ⟨q1, q2, q3, q4, q5, q6⟩ => ?_) (x := (-1, true, true, [], l, 0)) ⟨rfl, Nat.zero_le _, .inl rfl, Nat.zero_le _, fun h => absurd rfl h, by dsimp only; rw [List.drop_zero]; cases hexG (-1) l <;> rfl⟩ (by dsimp only; omega)
  obtain ⟨h, b2, b3, out, l', i⟩ := x
  dsimp only at q1 q2 q3 q4 q5 q6 ⊢
  subst q1
  unfold st_new_flight_bytes_0
  by_cases hi : i < l'.length
  · rw [dt hi, cond_true]
    rw [drop_get hi, hexG] at q6
    have hx := isB_getD hb i
    have hno : hexV (l'.getD i 0) < 0 → ∀ y, (y : (Bool × Bool × List Int) ⊕ (Bool × Bool × List Int × Bool)) = .inr (true, true, [], false) → (match hexG (-1) l' with
        | none => y = .inr (true, true, [], false)
        | some bs => ∃ b b', y = .inl (b, b', bs) ∧ (bs ≠ [] → b = false ∧ b' = false)) := fun hv y hy => by
      rw [dt hv, cond_true] at q6
      rw [q6]; exact hy
    have hrune : ∃ r, go_strings_IndexRune [48, 49, 50, 51, 52, 53, 54, 55, 56, 57, 97, 98, 99, 100, 101, 102] (runeAt l' i) = some r ∧ ((r < 0 ∧ hexV (l'.getD i 0) < 0) ∨ (0 ≤ r ∧ r = hexV (l'.getD i 0) ∧ runeLen l' i = 1)) := by
      by_cases hlow : l'.getD i 0 < 128
      · obtain ⟨r1, r2⟩ := rune_low hb hi hlow
        refine ⟨_, by rw [r1]; exact idxrune_low hx.1 hlow, ?_⟩
        by_cases hv : hexV (l'.getD i 0) < 0
        · exact .inl ⟨hv, hv⟩
        · exact .inr ⟨by omega, rfl, r2⟩
      · obtain ⟨r1, r2⟩ := rune_high hb hi (by omega)
        refine ⟨_, idxrune_high r1 r2, .inl ⟨by decide, ?_⟩⟩
        unfold hexV
        rw [df (by omega), cond_false, df (by omega), cond_false]; decide
    obtain ⟨r, hr, hcase⟩ := hrune
    rw [hr, Option.bind_some]
    rcases hcase with ⟨hneg, hv⟩ | ⟨hpos, rfl, hrl⟩
    · rw [dt hneg, cond_true]
      exact .inl ⟨_, rfl, hno hv _ rfl⟩
    · rw [df (show ¬ hexV (l'.getD i 0) < 0 by omega), cond_false, hrl]
      rw [df (show ¬ hexV (l'.getD i 0) < 0 by omega), cond_false] at q6
      have hv16 := hexV_le (l'.getD i 0)
      right
      rcases q3 with rfl | ⟨h0, h16⟩
      · rw [dt (by decide : (-1 : Int) < 0), cond_true] at q6 ⊢
        exact ⟨_, rfl, ⟨rfl, hi, .inr ⟨hpos, by dsimp only; omega⟩, by dsimp only; omega, q5, q6⟩, by dsimp only; omega⟩
      · have hn : ¬ h < 0 := by omega
        rw [df hn, cond_false] at q6 ⊢
        rw [dt (show (out.length + 1) * 1 ≤ 140737488355328 by omega), cond_true, dt (show out.length + 1 ≤ 4611686018427387904 by omega), cond_true, nibB h _ ⟨h0, h16⟩ ⟨hpos, by omega⟩]
        refine ⟨_, rfl, ⟨rfl, hi, .inl rfl, by dsimp only; rw [List.length_append, List.length_singleton]; omega, fun _ => ⟨by dsimp only; rw [Bool.and_false], rfl⟩, ?_⟩, by dsimp only; omega⟩
        dsimp only
        rw [q6]
        cases hexG (-1) (l'.drop (i + 1)) <;> simp
  · rw [df hi, cond_false]
    left
    refine ⟨_, rfl, ?_⟩
    rw [List.drop_eq_nil_of_le (by omega), hexG] at q6
    rw [q6]
    simp only [Option.map_some, List.append_nil]
    exact ⟨_, _, rfl, q5⟩
theorem hexG_nil {l : List Int} (h : l ≠ []) (he : Int.tmod (l.length : Int) 2 ≠ 1) : hexG (-1) l ≠ some [] := by
  cases l with
  | nil => exact absurd rfl h
  | cons x r =>
    cases r with
    | nil => exact absurd rfl he
    | cons y q =>
      rw [hexG]
      cases hx : decide (hexV x < 0) with
      | true => simp
      | false =>
        rw [cond_false, dt (by decide), cond_true]
        exact hexG_ne (by have := of_decide_eq_false hx; omega)
theorem bytes_law {l : List Int} (hb : isB l) : go_new_flight_bytes l = some (match hexB l with
    | none => (true, true, [], false)
    | some bs => (false, false, bs, true)) ∧ ∀ bs, hexB l = some bs → bs ≠ [] := by
  unfold go_new_flight_bytes hexB
  cases h1 : l == [] with
  | true => exact ⟨rfl, fun bs h => by cases h⟩
  | false =>
    rw [cond_false, Bool.false_or]
    cases h2 : Int.tmod (l.length : Int) 2 == 1 with
    | true => exact ⟨rfl, fun bs h => by cases h⟩
    | false =>
      rw [cond_false, Bool.false_or]
      by_cases h3 : l.length > 1200
      · rw [dt h3, dt (show ((l.length : Nat) : Int) > 1200 by omega)]
        exact ⟨rfl, fun bs h => by cases h⟩
      · rw [df h3, df (show ¬ ((l.length : Nat) : Int) > 1200 by omega), cond_false, cond_false]
        obtain ⟨y, hy, hm⟩ := bytes_loop hb (by omega)
        have hne := hexG_nil (l := l) (by simpa using h1) (by simpa using h2)
        rw [hy, Option.bind_some]
        cases hg : hexG (-1) l with
        | none =>
          rw [hg] at hm
          rw [hm]
          exact ⟨rfl, fun bs h => by cases h⟩
        | some bs =>
          rw [hg] at hm hne
          obtain ⟨b, b', rfl, hf⟩ := hm
          have hbs : bs ≠ [] := fun e => hne (by rw [e])
          obtain ⟨rfl, rfl⟩ := hf hbs
          exact ⟨rfl, fun bs' h => by cases h; exact hbs⟩
end Go.Proofs
end
