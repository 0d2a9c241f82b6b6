/-
  Signs of a text; numbers in a text.
-/
import Derived.Test.YtlfffpkfipdboaaDoorWSFs
import Derived.Test.YtlfffpkfipdboaaDoorWGF2
set_option linter.unusedVariables false
set_option linter.unusedSimpArgs false
noncomputable section
namespace Go.Proofs
open Go Go.Fx
theorem dt {p : Prop} [Decidable p] (h : p) : decide p = true := decide_eq_true h
theorem df {p : Prop} [Decidable p] (h : ¬ p) : decide p = false := decide_eq_false h
theorem addW_new : ∀ {ws vs : List (List Int)}, ws ≠ [] → vs ≠ [] → addW (ws ++ [[]]) vs = addW ws ([] :: vs)
  | [], _, h, _ => absurd rfl h
  | [w], v :: vs, _, _ => by simp [addW]
  | [w], [], _, h => absurd rfl h
  | w :: w' :: r, vs, _, hv => by
    have ih := addW_new (ws := w' :: r) (vs := vs) (by simp) hv
    rw [addW, ← ih]
    rfl
theorem drop_get {l : List Int} {k : Nat} (hk : k < l.length) : l.drop k = l.getD k 0 :: l.drop (k + 1) := by
  rw [List.drop_eq_getElem_cons hk, List.getD_eq_getElem?_getD, List.getElem?_eq_getElem hk]; rfl
theorem take1 {l : List Int} {k : Nat} (hk : k < l.length) : List.take (Int.toNat (((k + 1 : Nat) : Int) - (k : Int))) (List.drop k l) = [l.getD k 0] := by
  rw [show (((k + 1 : Nat) : Int) - (k : Int)).toNat = 1 by omega, drop_get hk]
  rfl
theorem set_ne {ws : List (List Int)} {i : Nat} {v : List Int} (h : ws ≠ []) : ws.set i v ≠ [] := fun e => h (by
  have := congrArg List.length e
  simp at this
  exact this)
theorem words_law {l : List Int} (hl : l.length ≤ 100000) : ∃ ex, go_coupletref20_Words l = some (false, ex, strs (cutC 32 l)) := by
  obtain ⟨y, h1, h2⟩ := loop_rule (step := fun x : List Int × Int × Bool × Bool × List PV => st_coupletref20_Words_0 x.1 x.2.1 x.2.2.1 x.2.2.2.1 x.2.2.2.2)
    (fun x => ∃ (k : Nat) (ws : List (List Int)), x.1 = l ∧ x.2.1 = k ∧ x.2.2.1 = false ∧ x.2.2.2.2 = strs ws ∧ k ≤ l.length ∧ ws ≠ [] ∧ addW ws (cutC 32 (l.drop k)) = cutC 32 l ∧ ws.length ≤ k + 1 ∧ ∀ w ∈ ws, w.length ≤ k)
    (fun x => l.length - x.2.1.toNat) (fun y => y.1 = false ∧ y.2.2 = strs (cutC 32 l)) (fun x ⟨k, ws, q1, q2, q3, q4, q5, q6, q7, q8, q9⟩ => by
      obtain ⟨l', n, b3, b4, es⟩ := x
      dsimp only at q1 q2 q3 q4 ⊢
      subst q1 q2 q3 q4
      have hpos : 0 < ws.length := List.length_pos_iff.2 q6
      unfold st_coupletref20_Words_0
      rw [strs_len, Int.toNat_natCast]
      have wk : IntKind.wrap .i64 ((k : Int) + 1) = ((k + 1 : Nat) : Int) := by rw [w64 (by omega) (by omega)]; rfl
      have wl : IntKind.wrap .i64 (((ws.length : Nat) : Int) - 1) = ((ws.length - 1 : Nat) : Int) := by rw [w64 (by omega) (by omega)]; omega
      rw [wk, wl, Int.toNat_natCast]
      by_cases hk : k < l'.length
      · right
        have hd := drop_get hk
        have c1 : decide ((k : Int) < ((l'.length : Nat) : Int)) = true := dt (by omega)
        have c2 : decide ((0 : Int) ≤ (k : Int)) = true := dt (by omega)
        rw [hd, cutC] at q7
        cases hx : l'.getD k 0 == 32 with
        | true =>
          rw [hx, cond_true] at q7
          have c3 : decide ((ws.length + 1) * 16 ≤ 140737488355328) = true := dt (by omega)
          have c4 : decide (ws.length + 1 ≤ 4611686018427387904) = true := dt (by omega)
          simp only [c1, c2, c3, c4, cond_true]
          refine ⟨_, rfl, ⟨k + 1, ws ++ [[]], rfl, rfl, rfl, by rw [strs_append]; rfl, hk, by simp, ?_, by simp; omega, fun w hw => ?_⟩, ?_⟩
          · rw [addW_new q6 (cutC_ne _ _)]; exact q7
          · rcases List.mem_append.1 hw with hw | hw
            · have := q9 w hw; omega
            · simp at hw; subst hw; simp
          · dsimp only; omega
        | false =>
          rw [hx, cond_false] at q7
          have hi : ws.length - 1 < ws.length := by omega
          have hw9 : (ws.getD (ws.length - 1) []).length ≤ k := by
            rw [List.getD_eq_getElem?_getD, List.getElem?_eq_getElem hi]
            exact q9 _ (List.getElem_mem hi)
          have c3 : decide ((0 : Int) ≤ ((ws.length - 1 : Nat) : Int)) = true := dt (by omega)
          have c4 : decide (((ws.length - 1 : Nat) : Int) < ((ws.length : Nat) : Int)) = true := dt (by omega)
          have c5 : decide (ws.length - 1 < ws.length) = true := dt hi
          have c6 : decide ((k : Int) ≤ ((k + 1 : Nat) : Int)) = true := dt (by omega)
          have c7 : decide (((k + 1 : Nat) : Int) ≤ ((l'.length : Nat) : Int)) = true := dt (by omega)
          have c8 : decide ((ws.getD (ws.length - 1) []).length + ([l'.getD k 0] : List Int).length ≤ 4611686018427387904) = true := dt (by simp only [List.length_cons, List.length_nil]; omega)
          simp only [c1, c2, c3, c4, c5, c6, c7, strs_get hi, scal_str, ok_str, chars_str, take1 hk, c8, cond_true, cond_false, strs_set]
          refine ⟨_, rfl, ⟨k + 1, _, rfl, rfl, rfl, rfl, hk, set_ne q6, ?_, by rw [List.length_set]; omega, fun w hw => ?_⟩, ?_⟩
          · rw [← addW_cons q6 (cutC_ne _ _)]; exact q7
          · rcases List.mem_or_eq_of_mem_set hw with hw | rfl
            · have := q9 w hw; omega
            · simp only [List.length_append, List.length_cons, List.length_nil]; omega
          · dsimp only; omega
      · left
        have c1 : decide ((k : Int) < ((l'.length : Nat) : Int)) = false := df (by omega)
        rw [c1, cond_false]
        refine ⟨_, rfl, rfl, ?_⟩
        rw [List.drop_eq_nil_of_le (by omega), cutC, addW_nil q6] at q7
        dsimp only
        rw [q7]) (x := (l, 0, false, true, [.str []])) ⟨0, [[]], rfl, rfl, rfl, rfl, by omega, by simp, by rw [List.drop_zero, addW_start _ (cutC_ne _ _)], by simp, by simp⟩ (by dsimp only; omega)
  refine ⟨y.2.1, ?_⟩
  unfold go_coupletref20_Words lp_coupletref20_Words_0
  rw [h1, Option.bind_some, h2.1, h2.2]
theorem trimNL_cons {x : Int} {r : List Int} (h : x ≠ 10 ∨ r ≠ []) : trimNL (x :: r) = x :: trimNL r := by
  cases r with
  | nil =>
    have hx : x ≠ 10 := h.resolve_right (fun h => h rfl)
    have : (x == 10) = false := by simpa using hx
    simp [trimNL, this]
  | cons y r => rfl
theorem lines_law {l : List Int} (hl : l.length ≤ 100000) : ∃ ex, go_coupletref20_Lines l = some (false, ex, strs (cutC 10 (trimNL l))) := by
  obtain ⟨y, h1, h2⟩ := loop_rule (step := fun x : List Int × Int × Bool × Bool × List PV => st_coupletref20_Lines_0 x.1 x.2.1 x.2.2.1 x.2.2.2.1 x.2.2.2.2)
    (fun x => ∃ (k : Nat) (ws : List (List Int)), x.1 = l ∧ x.2.1 = k ∧ x.2.2.1 = false ∧ x.2.2.2.2 = strs ws ∧ k ≤ l.length ∧ ws ≠ [] ∧ addW ws (cutC 10 (trimNL (l.drop k))) = cutC 10 (trimNL l) ∧ ws.length ≤ k + 1 ∧ ∀ w ∈ ws, w.length ≤ k)
    (fun x => l.length - x.2.1.toNat) (fun y => y.1 = false ∧ y.2.2 = strs (cutC 10 (trimNL l))) (fun x ⟨k, ws, q1, q2, q3, q4, q5, q6, q7, q8, q9⟩ => by
      obtain ⟨l', n, b3, b4, es⟩ := x
      dsimp only at q1 q2 q3 q4 ⊢
      subst q1 q2 q3 q4
      have hpos : 0 < ws.length := List.length_pos_iff.2 q6
      unfold st_coupletref20_Lines_0
      rw [strs_len, Int.toNat_natCast]
      have wk : IntKind.wrap .i64 ((k : Int) + 1) = ((k + 1 : Nat) : Int) := by rw [w64 (by omega) (by omega)]; rfl
      have wl : IntKind.wrap .i64 (((ws.length : Nat) : Int) - 1) = ((ws.length - 1 : Nat) : Int) := by rw [w64 (by omega) (by omega)]; omega
      rw [wk, wl, Int.toNat_natCast]
      by_cases hk : k < l'.length
      · right
        have hd := drop_get hk
        have c1 : decide ((k : Int) < ((l'.length : Nat) : Int)) = true := dt (by omega)
        have c2 : decide ((0 : Int) ≤ (k : Int)) = true := dt (by omega)
        rw [hd] at q7
        cases hx : l'.getD k 0 != 10 with
        | false =>
          have hx0 : l'.getD k 0 = 10 := by simpa using hx
          by_cases hk2 : k + 1 < l'.length
          · rw [trimNL_cons (.inr (by intro e; have := congrArg List.length e; simp at this; omega)), cutC, hx0, show ((10 : Int) == 10) = true from rfl, cond_true] at q7
            have c0 : decide (((k + 1 : Nat) : Int) < ((l'.length : Nat) : Int)) = true := dt (by omega)
            have c3 : decide ((ws.length + 1) * 16 ≤ 140737488355328) = true := dt (by omega)
            have c4 : decide (ws.length + 1 ≤ 4611686018427387904) = true := dt (by omega)
            simp only [c0, c1, c2, c3, c4, cond_true, cond_false]
            refine ⟨_, rfl, ⟨k + 1, ws ++ [[]], rfl, rfl, rfl, by rw [strs_append]; rfl, hk, by simp, ?_, by simp; omega, fun w hw => ?_⟩, ?_⟩
            · rw [addW_new q6 (cutC_ne _ _)]; exact q7
            · rcases List.mem_append.1 hw with hw | hw
              · have := q9 w hw; omega
              · simp at hw; subst hw; simp
            · dsimp only; omega
          · have c0 : decide (((k + 1 : Nat) : Int) < ((l'.length : Nat) : Int)) = false := df (by omega)
            have hnil : l'.drop (k + 1) = [] := List.drop_eq_nil_of_le (by omega)
            rw [hnil, hx0] at q7
            simp only [c0, c1, c2, cond_true, cond_false]
            refine ⟨_, rfl, ⟨k + 1, ws, rfl, rfl, rfl, rfl, hk, q6, ?_, by omega, fun w hw => by have := q9 w hw; omega⟩, ?_⟩
            · rw [hnil]; exact q7
            · dsimp only; omega
        | true =>
          have hx0 : l'.getD k 0 ≠ 10 := by simpa using hx
          have hxb : (l'.getD k 0 == 10) = false := by simpa using hx0
          rw [trimNL_cons (.inl hx0), cutC, hxb, cond_false] at q7
          have hi : ws.length - 1 < ws.length := by omega
          have hw9 : (ws.getD (ws.length - 1) []).length ≤ k := by
            rw [List.getD_eq_getElem?_getD, List.getElem?_eq_getElem hi]
            exact q9 _ (List.getElem_mem hi)
          have c3 : decide ((0 : Int) ≤ ((ws.length - 1 : Nat) : Int)) = true := dt (by omega)
          have c4 : decide (((ws.length - 1 : Nat) : Int) < ((ws.length : Nat) : Int)) = true := dt (by omega)
          have c5 : decide (ws.length - 1 < ws.length) = true := dt hi
          have c6 : decide ((k : Int) ≤ ((k + 1 : Nat) : Int)) = true := dt (by omega)
          have c7 : decide (((k + 1 : Nat) : Int) ≤ ((l'.length : Nat) : Int)) = true := dt (by omega)
          have c8 : decide ((ws.getD (ws.length - 1) []).length + ([l'.getD k 0] : List Int).length ≤ 4611686018427387904) = true := dt (by simp only [List.length_cons, List.length_nil]; omega)
          simp only [c1, c2, c3, c4, c5, c6, c7, strs_get hi, scal_str, ok_str, chars_str, take1 hk, c8, cond_true, cond_false, strs_set]
          refine ⟨_, rfl, ⟨k + 1, _, rfl, rfl, rfl, rfl, hk, set_ne q6, ?_, by rw [List.length_set]; omega, fun w hw => ?_⟩, ?_⟩
          · rw [← addW_cons q6 (cutC_ne _ _)]; exact q7
          · rcases List.mem_or_eq_of_mem_set hw with hw | rfl
            · have := q9 w hw; omega
            · simp only [List.length_append, List.length_cons, List.length_nil]; omega
          · dsimp only; omega
      · left
        have c1 : decide ((k : Int) < ((l'.length : Nat) : Int)) = false := df (by omega)
        rw [c1, cond_false]
        refine ⟨_, rfl, rfl, ?_⟩
        rw [List.drop_eq_nil_of_le (by omega), trimNL, cutC, addW_nil q6] at q7
        dsimp only
        rw [q7]) (x := (l, 0, false, true, [.str []])) ⟨0, [[]], rfl, rfl, rfl, rfl, by omega, by simp, by rw [List.drop_zero, addW_start _ (cutC_ne _ _)], by simp, by simp⟩ (by dsimp only; omega)
  refine ⟨y.2.1, ?_⟩
  unfold go_coupletref20_Lines lp_coupletref20_Lines_0
  rw [h1, Option.bind_some, h2.1, h2.2]
end Go.Proofs
end
set_option linter.unusedVariables false
set_option linter.unusedSimpArgs false
noncomputable section
namespace Go.Proofs
open Go Go.Fx
def byt (c : Int) : UInt8 := UInt8.ofNat c.toNat
theorem byt_beq {x c : Int} (hx : 0 ≤ x ∧ x < 256) (hc : 0 ≤ c ∧ c < 256) : (byt x == byt c) = (x == c) := by
  by_cases h : x = c
  · subst h; simp
  · have h1 : (x == c) = false := by simpa using h
    rw [h1]
    rw [beq_eq_false_iff_ne]
    intro e
    have := congrArg UInt8.toNat e
    simp only [byt, UInt8.toNat_ofNat'] at this
    omega
theorem strBytes_cons (x : Int) (r : List Int) : strBytes (x :: r) = byt x :: strBytes r := rfl
theorem headD_one (c : Int) : (strBytes [c]).headD 0 = byt c := rfl
theorem idx_cases {c : Int} (hc : 0 ≤ c ∧ c < 256) : ∀ l : List Int, isB l → (Lib.indexByte (strBytes l) (byt c) = -1 ∧ cutC c l = [l] ∧ Lib.countByte (strBytes l) (byt c) = 0) ∨
    ∃ m : Nat, Lib.indexByte (strBytes l) (byt c) = m ∧ m < l.length ∧ cutC c l = l.take m :: cutC c (l.drop (m + 1)) ∧ Lib.countByte (strBytes l) (byt c) = Lib.countByte (strBytes (l.drop (m + 1))) (byt c) + 1
  | [], _ => .inl ⟨rfl, rfl, rfl⟩
  | x :: r, h => by
    obtain ⟨hx, hr⟩ := isB_cons.1 h
    have hb := byt_beq hx hc
    rw [strBytes_cons, Lib.indexByte, hb, cutC, Lib.countByte, List.count_cons, hb]
    cases e : x == c with
    | true =>
      right
      exact ⟨0, rfl, by simp, by rw [cond_true]; rfl, rfl⟩
    | false =>
      rw [cond_false]
      rcases idx_cases hc r hr with ⟨h1, h2, h3⟩ | ⟨m, h1, h2, h3, h4⟩
      · left
        rw [h1, h2]
        exact ⟨rfl, rfl, by simpa [Lib.countByte] using h3⟩
      · right
        refine ⟨m + 1, ?_, by simp only [List.length_cons]; omega, ?_, ?_⟩
        · rw [h1]
          have : ((m : Int) == -1) = false := by rw [beq_eq_false_iff_ne]; omega
          simp only [this, Bool.false_eq_true, if_false]
          rfl
        · rw [h3]; rfl
        · simpa [Lib.countByte] using h4
theorem strs_replicate (n : Nat) : List.replicate (α := PV) n (.str []) = strs (List.replicate n []) := by simp [strs]
theorem split_law {c : Int} (hc : 0 ≤ c ∧ c < 256) {l : List Int} (hb : isB l) (hl : l.length ≤ 100000) : ∃ ex, go_strings_Split l [c] = some (false, ex, strs (cutC c l)) := by
  obtain ⟨N, hN⟩ : ∃ N, Lib.countByte (strBytes l) (byt c) = N := ⟨_, rfl⟩
  have hNl : N ≤ l.length := by
    rw [← hN, Lib.countByte]
    refine Nat.le_trans List.count_le_length ?_
    simp [strBytes]
  obtain ⟨y, h1, h2⟩ := loop_rule (step := fun x : List Int × List Int × Int × Int × Int × Bool × Bool × List PV => st_strings_genSplit_0 x.1 x.2.1 x.2.2.1 x.2.2.2.1 x.2.2.2.2.1 x.2.2.2.2.2.1 x.2.2.2.2.2.2.1 x.2.2.2.2.2.2.2)
    (fun x => ∃ (i : Nat) (ws : List (List Int)), x.2.1 = [c] ∧ x.2.2.1 = 0 ∧ x.2.2.2.1 = (N : Int) ∧ x.2.2.2.2.1 = (i : Int) ∧ x.2.2.2.2.2.1 = false ∧ x.2.2.2.2.2.2.2 = strs ws ∧ ws.length = N + 1 ∧ i ≤ N ∧ isB x.1 ∧ x.1.length ≤ l.length ∧ Lib.countByte (strBytes x.1) (byt c) = N - i ∧ ws.take i ++ cutC c x.1 = cutC c l)
    (fun x => N - x.2.2.2.2.1.toNat) (fun y => ∃ ws, y.2.1 = (N : Int) ∧ y.2.2.1 = false ∧ y.2.2.2.2 = strs ws ∧ ws.length = N + 1 ∧ ws.take N ++ [y.1] = cutC c l) (fun x ⟨i, ws, q1, q2, q3, q4, q5, q6, q7, q8, q9, q10, q11, q12⟩ => by
      obtain ⟨rest, sp, n8, n9, n10, b11, b12, es⟩ := x
      dsimp only at q1 q2 q3 q4 q5 q6 q9 q10 q11 q12 ⊢
      subst q1 q2 q3 q4 q5 q6
      unfold st_strings_genSplit_0
      have hidx : go_strings_Index rest [c] = some (Lib.indexByte (strBytes rest) (byt c)) := by
        unfold go_strings_Index
        rw [if_pos (show ([c] : List Int).length = 1 from rfl), headD_one]
      rw [strs_len, hidx, Int.toNat_natCast]
      by_cases hi : i < N
      · right
        rcases idx_cases hc rest q9 with ⟨g1, g2, g3⟩ | ⟨m, g1, g2, g3, g4⟩
        · rw [g3] at q11; omega
        · have e1 : IntKind.wrap .i64 ((m : Int) + 0) = (m : Int) := by rw [Int.add_zero, w64 (by omega) (by omega)]
          have e2 : IntKind.wrap .i64 ((m : Int) + (([c] : List Int).length : Int)) = ((m + 1 : Nat) : Int) := by rw [List.length_singleton, w64 (by omega) (by omega)]; rfl
          have e3 : IntKind.wrap .i64 ((i : Int) + 1) = ((i + 1 : Nat) : Int) := by rw [w64 (by omega) (by omega)]; rfl
          have c1 : decide ((i : Int) < (N : Int)) = true := dt (by omega)
          have c2 : decide ((m : Int) < 0) = false := df (by omega)
          have c3 : decide ((0 : Int) ≤ (m : Int)) = true := dt (by omega)
          have c4 : decide ((m : Int) ≤ ((rest.length : Nat) : Int)) = true := dt (by omega)
          have c5 : decide ((0 : Int) ≤ (i : Int)) = true := dt (by omega)
          have c6 : decide ((i : Int) < ((ws.length : Nat) : Int)) = true := dt (by omega)
          have c7 : decide (i < ws.length) = true := dt (by omega)
          have c8 : decide ((0 : Int) ≤ ((m + 1 : Nat) : Int)) = true := dt (by omega)
          have c9 : decide (((m + 1 : Nat) : Int) ≤ ((rest.length : Nat) : Int)) = true := dt (by omega)
          have c10 : decide (((rest.length : Nat) : Int) ≤ ((rest.length : Nat) : Int)) = true := dt (by omega)
          have t1 : List.take (Int.toNat (((rest.length : Nat) : Int) - ((m + 1 : Nat) : Int))) (List.drop (m + 1) rest) = rest.drop (m + 1) := by
            rw [List.take_of_length_le]; rw [List.length_drop]; omega
          have t2 : List.take (Int.toNat ((m : Int) - 0)) (List.drop 0 rest) = rest.take m := by rw [Int.sub_zero, Int.toNat_natCast, List.drop_zero]
          simp only [g1, e1, e2, e3, Option.bind_some, c1, c2, c3, c4, c5, c6, c7, c8, c9, c10, Int.toNat_natCast, t1, t2, strs_set, cond_true, cond_false]
          refine ⟨_, rfl, ⟨i + 1, _, rfl, rfl, rfl, rfl, rfl, rfl, by rw [List.length_set]; exact q7, hi, isB_drop q9 _, by dsimp only; rw [List.length_drop]; omega, ?_, ?_⟩, ?_⟩
          · dsimp only; omega
          · dsimp only
            rw [← q12, g3, List.take_succ_eq_append_getElem (by rw [List.length_set]; omega), List.getElem_set_self, List.take_set_of_le (Nat.le_refl _), List.append_assoc]
            rfl
          · dsimp only; omega
      · left
        have hiN : i = N := by omega
        subst hiN
        have c1 : decide ((i : Int) < (i : Int)) = false := df (by omega)
        rw [c1, cond_false]
        refine ⟨_, rfl, ws, rfl, rfl, rfl, q7, ?_⟩
        rw [Nat.sub_self] at q11
        rcases idx_cases hc rest q9 with ⟨g1, g2, g3⟩ | ⟨m, g1, g2, g3, g4⟩
        · rw [g2] at q12; exact q12
        · omega) (x := (l, [c], 0, (N : Int), 0, false, true, strs (List.replicate (N + 1) []))) ⟨0, _, rfl, rfl, rfl, rfl, rfl, rfl, by simp, Nat.zero_le _, hb, Nat.le_refl _, hN, by simp⟩ (by dsimp only; omega)
  obtain ⟨ws, y1, y2, y3, y4, y5⟩ := h2
  obtain ⟨rest, i', b11, b12, es'⟩ := y
  dsimp only at y1 y2 y3 y5
  subst y1 y2 y3
  refine ⟨false, ?_⟩
  have hcnt : go_strings_Count l [c] = some (N : Int) := by
    unfold go_strings_Count
    rw [if_pos (show ([c] : List Int).length = 1 from rfl), headD_one, hN]
  have e1 : min (IntKind.wrap .i64 ((N : Int) + 1)) (IntKind.wrap .i64 (((l.length : Nat) : Int) + 1)) = ((N + 1 : Nat) : Int) := by
    rw [w64 (by omega) (by omega), w64 (by omega) (by omega)]; omega
  have e2 : IntKind.wrap .i64 (((N + 1 : Nat) : Int) - 1) = (N : Int) := by rw [w64 (by omega) (by omega)]; omega
  have e3 : IntKind.wrap .i64 ((N : Int) + 1) = ((N + 1 : Nat) : Int) := by rw [w64 (by omega) (by omega)]; rfl
  have c0 : ((-1 : Int) == 0) = false := rfl
  have c00 : (([c] : List Int) == []) = false := rfl
  have c1 : decide ((-1 : Int) < 0) = true := rfl
  have c2 : decide ((0 : Int) ≤ ((N + 1 : Nat) : Int)) = true := dt (by omega)
  have c3 : decide ((N + 1) * 16 ≤ 140737488355328) = true := dt (by omega)
  have c4 : decide (N + 1 ≤ 4611686018427387904) = true := dt (by omega)
  have c5 : decide ((0 : Int) ≤ (N : Int)) = true := dt (by omega)
  have c6 : decide ((N : Int) < ((ws.length : Nat) : Int)) = true := dt (by omega)
  have c7 : decide (N < ws.length) = true := dt (by omega)
  have c8 : decide (((N + 1 : Nat) : Int) ≤ ((ws.length : Nat) : Int)) = true := dt (by omega)
  have t1 : List.take (Int.toNat (((N + 1 : Nat) : Int) - 0)) (List.drop 0 (strs (ws.set N rest))) = strs (cutC c l) := by
    rw [Int.sub_zero, Int.toNat_natCast, List.drop_zero, ← y5, strs, ← List.map_take, List.take_succ_eq_append_getElem (by rw [List.length_set]; omega), List.getElem_set_self, List.take_set_of_le (Nat.le_refl _)]
    rfl
  unfold go_strings_Split go_strings_genSplit lp_strings_genSplit_0
  simp only [c0, c00, c1, c2, c3, c4, hcnt, Option.bind_some, e1, e2, Int.toNat_natCast, strs_replicate, cond_true, cond_false]
  rw [h1]
  simp only [Option.bind_some, strs_len, strs_set, List.length_set, c5, c6, c7, e3, c2, c8, Int.toNat_natCast, t1, cond_true, cond_false]
theorem suffix_law {l : List Int} (hl : l.length ≤ 100000) : go_strings_TrimSuffix l [10] = some (trimNL l) := by
  have key : ∀ l : List Int, l.length ≤ 100000 → go_internal_stringslite_TrimSuffix l [10] = some (trimNL l) := fun l hl => by
    unfold go_internal_stringslite_TrimSuffix go_internal_stringslite_HasSuffix
    by_cases h0 : l = []
    · subst h0; rfl
    · obtain ⟨r, x, rfl⟩ : ∃ r x, l = r ++ [x] := ⟨l.dropLast, l.getLast h0, (List.dropLast_concat_getLast h0).symm⟩
      have htrim : ∀ r : List Int, trimNL (r ++ [x]) = bif x == 10 then r else r ++ [x] := by
        intro r
        induction r with
        | nil => rfl
        | cons y r ih =>
          rw [List.cons_append, trimNL_cons (.inr (by simp)), ih]
          cases x == 10 <;> rfl
      simp only [List.length_append, List.length_singleton] at hl ⊢
      have e1 : IntKind.wrap .i64 ((((r.length + 1 : Nat)) : Int) - ((1 : Nat) : Int)) = (r.length : Int) := by rw [w64 (by omega) (by omega)]; omega
      have c1 : decide ((((r.length + 1 : Nat)) : Int) ≥ ((1 : Nat) : Int)) = true := dt (by omega)
      have c2 : decide ((0 : Int) ≤ (r.length : Int)) = true := dt (by omega)
      have c3 : decide ((r.length : Int) ≤ (((r.length + 1 : Nat)) : Int)) = true := dt (by omega)
      have c4 : decide ((((r.length + 1 : Nat)) : Int) ≤ (((r.length + 1 : Nat)) : Int)) = true := dt (by omega)
      have t1 : List.take (Int.toNat ((((r.length + 1 : Nat)) : Int) - (r.length : Int))) (List.drop r.length (r ++ [x])) = [x] := by
        rw [List.drop_left, show ((((r.length + 1 : Nat)) : Int) - (r.length : Int)).toNat = 1 by omega]; rfl
      have t2 : List.take (Int.toNat ((r.length : Int) - 0)) (List.drop 0 (r ++ [x])) = r := by
        rw [Int.sub_zero, Int.toNat_natCast, List.drop_zero, List.take_left]
      simp only [e1, c1, c2, c3, c4, Int.toNat_natCast, t1, t2, Option.bind_some, cond_true]
      rw [htrim]
      have : (([x] : List Int) == [10]) = (x == 10) := by
        show (x == 10 && true) = _
        rw [Bool.and_true]
      rw [this]
      cases x == 10 <;> rfl
  unfold go_strings_TrimSuffix
  rw [key l hl]; rfl
theorem trimNL_isB : ∀ {l : List Int}, isB l → isB (trimNL l)
  | [], h => isB_nil
  | [x], h => by
    rw [trimNL]
    cases x == 10 <;> first | exact isB_nil | exact h
  | x :: y :: r, h => isB_cons.2 ⟨(isB_cons.1 h).1, trimNL_isB (isB_cons.1 h).2⟩
theorem trimNL_len : ∀ l : List Int, (trimNL l).length ≤ l.length
  | [] => by simp [trimNL]
  | [x] => by rw [trimNL]; cases x == 10 <;> simp
  | x :: y :: r => by have := trimNL_len (y :: r); simp only [trimNL, List.length_cons] at this ⊢; omega
theorem flines_law {l : List Int} (hb : isB l) (hl : l.length ≤ 100000) : ∃ ex, go_flight_lines l = some (false, ex, strs (cutC 10 (trimNL l))) := by
  obtain ⟨ex, h⟩ := split_law (c := 10) (by decide) (trimNL_isB hb) (by have := trimNL_len l; omega)
  refine ⟨ex, ?_⟩
  unfold go_flight_lines
  rw [suffix_law hl, Option.bind_some, h]
  rfl
end Go.Proofs
end
set_option linter.unusedVariables false
set_option linter.unusedSimpArgs false
noncomputable section
namespace Go.Proofs
open Go Go.Fx
theorem text_get {l : List Int} (hb : isB l) {i : Nat} (hi : i < l.length) : ((textOf l).get! i).toNat = (l.getD i 0).toNat := by
  have h := hb (l.getD i 0) (by rw [List.getD_eq_getElem?_getD, List.getElem?_eq_getElem hi]; exact List.getElem_mem hi)
  have e : (textOf l).get! i = byt (l.getD i 0) := by
    show ((strBytes l).toArray)[i]! = _
    have hi' : i < (strBytes l).toArray.size := by simp [strBytes, hi]
    rw [getElem!_pos _ i hi']
    simp [strBytes, byt, List.getD_eq_getElem?_getD, List.getElem?_eq_getElem hi]
  rw [e, byt, UInt8.toNat_ofNat']
  omega
theorem rune_low {l : List Int} (hb : isB l) {i : Nat} (hi : i < l.length) (h : l.getD i 0 < 128) : runeAt l i = l.getD i 0 ∧ runeLen l i = 1 := by
  have hg := text_get hb hi
  have h0 := (isB_getD hb i).1
  unfold runeAt runeLen Utf8.decode
  simp only [Nat.add_zero]
  rw [if_pos (by rw [hg]; omega)]
  exact ⟨by dsimp only; rw [hg]; omega, rfl⟩
theorem valid_le {c : Nat} (h : Utf8.valid (c : Int) = true) : c ≤ 1114111 := by
  unfold Utf8.valid at h
  simp only [Bool.or_eq_true, Bool.and_eq_true, decide_eq_true_eq] at h
  omega
theorem rune_high {l : List Int} (hb : isB l) {i : Nat} (hi : i < l.length) (h : 128 ≤ l.getD i 0) : 128 ≤ runeAt l i ∧ runeAt l i ≤ 1114111 := by
  have hg := text_get hb hi
  unfold runeAt Utf8.decode
  simp only [Nat.add_zero]
  rw [if_neg (by rw [hg]; omega)]
  have key : ∀ p : Nat × Nat, 128 ≤ p.1 → p.1 ≤ 1114111 → 128 ≤ ((p.1 : Nat) : Int) ∧ ((p.1 : Nat) : Int) ≤ 1114111 := fun p h1 h2 => by omega
  refine key _ ?_ ?_
  · split
    · split
      · assumption
      · decide
    · split
      · split
        · rename_i h2
          rw [Bool.and_eq_true, decide_eq_true_eq] at h2
          exact Nat.le_trans (by decide) h2.1
        · decide
      · split
        · split
          · rename_i h2
            rw [Bool.and_eq_true, decide_eq_true_eq] at h2
            exact Nat.le_trans (by decide) h2.1
          · decide
        · decide
  · split
    · split
      · dsimp only; omega
      · decide
    · split
      · split
        · rename_i h2
          rw [Bool.and_eq_true] at h2
          exact valid_le h2.2
        · decide
      · split
        · split
          · rename_i h2
            rw [Bool.and_eq_true] at h2
            exact valid_le h2.2
          · decide
        · decide
def digC (c : Int) : Bool := decide (48 ≤ c ∧ c ≤ 57)
theorem number1_law (r : Int) : go_flight_number_1 r = some (!digC r) := by
  unfold go_flight_number_1 digC
  by_cases h1 : r < 48
  · rw [dt h1, df (show ¬ (48 ≤ r ∧ r ≤ 57) by omega)]; rfl
  · rw [df h1, cond_false]
    by_cases h2 : r > 57
    · rw [dt h2, df (show ¬ (48 ≤ r ∧ r ≤ 57) by omega)]; rfl
    · rw [df h2, dt (show 48 ≤ r ∧ r ≤ 57 by omega)]; rfl
theorem contains_law {l : List Int} (hb : isB l) (hl : l.length ≤ 100000) : go_strings_ContainsFunc l = some (!l.all digC) := by
  have key : ∃ y, lp_strings_indexFunc_0 true l 0 = some y ∧ ((y = .inl () ∧ l.all digC = true) ∨ (∃ i : Nat, y = .inr (i : Int) ∧ l.all digC = false)) := by
    unfold lp_strings_indexFunc_0
    refine loop_rule (step := fun x : Bool × List Int × Nat => st_strings_indexFunc_0 x.1 x.2.1 x.2.2) (fun x => x.1 = true ∧ x.2.1 = l ∧ x.2.2 ≤ l.length ∧ (l.take x.2.2).all digC = true) (fun x => l.length - x.2.2) _ (fun x ⟨h1, h2, h3, h4⟩ => ?_) (x := (true, l, 0)) ⟨rfl, rfl, Nat.zero_le _, rfl⟩ (by dsimp only; omega)
    obtain ⟨b, l', i⟩ := x
    dsimp only at h1 h2 h3 h4 ⊢
    subst h1 h2
    unfold st_strings_indexFunc_0
    by_cases hi : i < l'.length
    · rw [dt hi, cond_true, number1_law, Option.bind_some]
      have hmem : l'.getD i 0 ∈ l' := by rw [List.getD_eq_getElem?_getD, List.getElem?_eq_getElem hi]; exact List.getElem_mem hi
      have bad : digC (l'.getD i 0) = false → l'.all digC = false := fun h => by
        rw [List.all_eq_false]
        exact ⟨_, hmem, by rw [h]; simp⟩
      by_cases hlow : l'.getD i 0 < 128
      · obtain ⟨r1, r2⟩ := rune_low hb hi hlow
        rw [r1, r2]
        cases hd : digC (l'.getD i 0) with
        | true =>
          right
          refine ⟨_, rfl, ⟨rfl, rfl, hi, ?_⟩, ?_⟩
          · dsimp only
            rw [List.take_succ_eq_append_getElem hi, List.all_append, h4]
            have : l'[i] = l'.getD i 0 := by rw [List.getD_eq_getElem?_getD, List.getElem?_eq_getElem hi]; rfl
            rw [this]
            show (true && (digC (l'.getD i 0) && true)) = true
            rw [hd]; rfl
          · dsimp only; omega
        | false => exact .inl ⟨_, rfl, .inr ⟨i, rfl, bad hd⟩⟩
      · obtain ⟨r1, r2⟩ := rune_high hb hi (by omega)
        have : digC (runeAt l' i) = false := df (by omega)
        rw [this]
        exact .inl ⟨_, rfl, .inr ⟨i, rfl, bad (df (by omega))⟩⟩
    · rw [df hi, cond_false]
      refine .inl ⟨_, rfl, .inl ⟨rfl, ?_⟩⟩
      rw [List.take_of_length_le (by omega)] at h4
      exact h4
  obtain ⟨y, h1, h2⟩ := key
  unfold go_strings_ContainsFunc go_strings_IndexFunc go_strings_indexFunc
  rw [h1]
  rcases h2 with ⟨rfl, h2⟩ | ⟨i, rfl, h2⟩
  · rw [h2]; rfl
  · rw [h2]
    simp only [Option.bind_some, Sum.elim_inr]
    rw [dt (show ((i : Nat) : Int) ≥ 0 by omega)]; rfl
theorem prefix_law {l : List Int} : go_strings_TrimPrefix l [45] = some (match l with
    | [] => []
    | c :: r => bif c == 45 then r else c :: r) := by
  have key : go_internal_stringslite_TrimPrefix l [45] = some (match l with
    | [] => []
    | c :: r => bif c == 45 then r else c :: r) := by
    unfold go_internal_stringslite_TrimPrefix go_internal_stringslite_HasPrefix
    cases l with
    | nil => rfl
    | cons c r =>
      simp only [List.length_cons, List.length_nil, Nat.zero_add]
      have c1 : decide ((((r.length + 1 : Nat)) : Int) ≥ ((1 : Nat) : Int)) = true := dt (by omega)
      have c2 : decide (((1 : Nat) : Int) ≤ (((r.length + 1 : Nat)) : Int)) = true := dt (by omega)
      have c3 : decide ((((r.length + 1 : Nat)) : Int) ≤ (((r.length + 1 : Nat)) : Int)) = true := dt (by omega)
      have t1 : List.take (Int.toNat (((1 : Nat) : Int) - 0)) (List.drop 0 (c :: r)) = [c] := rfl
      have t2 : List.take (Int.toNat ((((r.length + 1 : Nat)) : Int) - ((1 : Nat) : Int))) (List.drop (Int.toNat ((1 : Nat) : Int)) (c :: r)) = r := by
        rw [show ((((r.length + 1 : Nat)) : Int) - ((1 : Nat) : Int)).toNat = r.length by omega]
        show List.take r.length r = r
        exact List.take_length
      have e : (([c] : List Int) == [45]) = (c == 45) := by
        show (c == 45 && true) = _
        rw [Bool.and_true]
      simp only [c1, c2, c3, t1, t2, e, Option.bind_some, cond_true]
      cases c == 45 <;> rfl
  unfold go_strings_TrimPrefix
  rw [key]; rfl
theorem digs_all : ∀ (l : List Int) (n : Int), (digsI n l).2 = l.all digC
  | [], n => rfl
  | c :: r, n => by
    rw [digsI, List.all_cons, digC]
    cases decide (48 ≤ c ∧ c ≤ 57) with
    | true => rw [cond_true, digs_all r, Bool.true_and]
    | false => rfl
theorem digs_pos : ∀ (l : List Int) (n : Int), 0 < n → l.all digC = true → 0 < (digsI n l).1
  | [], n, h, _ => h
  | c :: r, n, h, ha => by
    rw [List.all_cons, Bool.and_eq_true, digC] at ha
    rw [digsI, ha.1, cond_true]
    have := of_decide_eq_true ha.1
    exact digs_pos r _ (by omega) ha.2
theorem parse_step {c : Int} {r : List Int} {n : Nat} (hc : 48 ≤ c ∧ c ≤ 57) (hn : n ≤ 1000000000000000) : Lib.parseUint10 n (strBytes (c :: r)) = Lib.parseUint10 (n * 10 + (c.toNat - 48)) (strBytes r) := by
  have hcb : (byt c).toNat = c.toNat := by rw [byt, UInt8.toNat_ofNat']; omega
  rw [strBytes_cons]
  conv => lhs; unfold Lib.parseUint10
  simp only [hcb]
  rw [if_pos (by omega), if_neg (by omega), if_neg (by omega)]
theorem parse_digs (l : List Int) : ∀ n : Nat, isB l → l.all digC = true → ((n : Int) + 1) * 10 ^ l.length ≤ 10000000000000000 → Lib.parseUint10 n (strBytes l) = .ok (digsI n l).1.toNat := by
  induction l with
  | nil => intro n _ _ _; simp [strBytes, Lib.parseUint10, digsI]
  | cons c r ih =>
    intro n hb ha hl
    rw [List.all_cons, Bool.and_eq_true, digC] at ha
    have hc := of_decide_eq_true ha.1
    have hp : (1 : Int) ≤ 10 ^ r.length := Int.pow_pos (by decide)
    rw [List.length_cons, Int.pow_succ, Int.mul_comm (10 ^ r.length) 10, ← Int.mul_assoc] at hl
    have h1 : ((n : Int) + 1) * 10 ≤ 10000000000000000 := Int.le_trans (by
      have := Int.mul_le_mul_of_nonneg_left (c := ((n : Int) + 1) * 10) hp (by omega)
      rw [Int.mul_one] at this; exact this) hl
    rw [parse_step hc (by omega), digsI, ha.1, cond_true]
    have e : ((n * 10 + (c.toNat - 48) : Nat) : Int) = (n : Int) * 10 + (c - 48) := by omega
    rw [ih (n * 10 + (c.toNat - 48)) (isB_cons.1 hb).2 ha.2 (Int.le_trans (Int.mul_le_mul_of_nonneg_right (by omega) (by omega)) hl), e]
theorem atoi_pos {l : List Int} (hb : isB l) (h0 : l ≠ []) (hl : l.length ≤ 16) (ha : l.all digC = true) : atoiV l = some (digsI 0 l).1 := by
  have hp := parse_digs l 0 hb ha (by have := pow10_le hl; omega)
  have hbd := digsI_bound l 0 (by decide)
  have hp10 := pow10_le hl
  unfold atoiV
  cases l with
  | nil => exact absurd rfl h0
  | cons c r =>
    rw [List.all_cons, Bool.and_eq_true, digC] at ha
    have hc := of_decide_eq_true ha.1
    have hcb : (byt c).toNat = c.toNat := by rw [byt, UInt8.toNat_ofNat']; omega
    rw [strBytes_cons] at hp ⊢
    have hm : Lib.parseMag (byt c :: strBytes r) = .ok (digsI 0 (c :: r)).1.toNat := by
      unfold Lib.parseMag
      rw [if_neg (by simp)]
      exact hp
    unfold Lib.atoiAll
    simp only [hcb]
    rw [if_neg (by omega), hm]
    simp only
    rw [if_neg (by omega), if_neg (by omega), if_neg (by omega)]
    simp only [Option.some.injEq]
    omega
theorem atoi_neg {r : List Int} (hb : isB r) (h0 : r ≠ []) (hl : r.length ≤ 16) (ha : r.all digC = true) : atoiV (45 :: r) = some (0 - (digsI 0 r).1) := by
  have hp := parse_digs r 0 hb ha (by have := pow10_le hl; omega)
  have hbd := digsI_bound r 0 (by decide)
  have hp10 := pow10_le hl
  have hm : Lib.parseMag (strBytes r) = .ok (digsI 0 r).1.toNat := by
    unfold Lib.parseMag
    rw [if_neg (by cases r <;> simp [strBytes] at h0 ⊢)]
    exact hp
  unfold atoiV
  rw [strBytes_cons]
  unfold Lib.atoiAll
  have h45 : (byt 45).toNat = 45 := by decide
  simp only [h45]
  rw [if_pos (by decide), hm]
  simp only
  rw [if_neg (by simp), if_neg (by omega), if_pos trivial]
  simp only [Option.some.injEq]
  omega
theorem go_atoi {l : List Int} {v : Int} (h : atoiV l = some v) (hl : l.length ≤ 1000) : go_strconv_Atoi l = some v := by
  unfold go_strconv_Atoi
  rw [if_pos ⟨by rw [h]; rfl, hl⟩, h]; rfl
theorem number_law {l : List Int} (hb : isB l) (hl : l.length ≤ 100000) : ∃ v, go_flight_number l = some (v, (refNum l).2) ∧ ((refNum l).2 = true → v = (refNum l).1) := by
  unfold go_flight_number
  rw [prefix_law, Option.bind_some]
  cases l with
  | nil => exact ⟨0, rfl, fun h => by cases h⟩
  | cons c r =>
    obtain ⟨hc, hr⟩ := isB_cons.1 hb
    dsimp only
    rw [refNum]
    by_cases hc45 : c = 45
    · subst hc45
      have e : ((45 : Int) == 45) = true := rfl
      simp only [e, cond_true]
      cases r with
      | nil => exact ⟨0, rfl, fun h => by cases h⟩
      | cons d q =>
        have e0 : ((d :: q) == []) = false := rfl
        rw [e0, cond_false]
        have hneg : d = 45 → ((refNum (d :: q)).2 && decide ((refNum (d :: q)).1 > 0)) = false := fun h => by
          subst h
          rw [refNum, show ((45 : Int) == 45) = true from rfl, cond_true]
          cases h2 : (refNum q).2 with
          | false => rfl
          | true =>
            by_cases h3 : (refNum q).1 > 0
            · rw [dt h3, df (by dsimp only; omega)]; rfl
            · rw [df h3]; rfl
        by_cases h16 : (d :: q).length > 16
        · rw [dt (show (((d :: q).length : Nat) : Int) > 16 by omega), cond_true]
          refine ⟨0, ?_, fun h => ?_⟩
          · congr 2
            by_cases hd : d = 45
            · rw [hneg hd]
            · have : (d == 45) = false := by simpa using hd
              rw [refNum, this, cond_false, dt h16]; rfl
          · exfalso
            by_cases hd : d = 45
            · rw [hneg hd] at h; cases h
            · have : (d == 45) = false := by simpa using hd
              rw [refNum, this, cond_false, dt h16] at h; cases h
        · rw [df (show ¬ (((d :: q).length : Nat) : Int) > 16 by omega), cond_false, contains_law hr (by simp only [List.length_cons] at hl ⊢; omega), Option.bind_some]
          have e1 : decide (0 < (((d :: q).length : Nat) : Int)) = true := dt (by simp only [List.length_cons]; omega)
          cases ha : (d :: q).all digC with
          | false =>
            rw [Bool.not_false, cond_true]
            have hf : ((refNum (d :: q)).2 && decide ((refNum (d :: q)).1 > 0)) = false := by
              by_cases hd : d = 45
              · exact hneg hd
              · have : (d == 45) = false := by simpa using hd
                rw [refNum, this, cond_false]
                cases (decide ((d :: q).length > 16) || (d == 48 && decide ((d :: q).length > 1))) with
                | true => rfl
                | false => rw [cond_false, digs_all, ha]; rfl
            exact ⟨0, by rw [hf], fun h => by rw [hf] at h; cases h⟩
          | true =>
            rw [Bool.not_true, cond_false, e1, cond_true]
            have hdg := ha
            rw [List.all_cons, Bool.and_eq_true, digC] at hdg
            have hd := of_decide_eq_true hdg.1
            have hd45 : (d == 45) = false := by rw [beq_eq_false_iff_ne]; omega
            rw [show (d :: q).getD 0 0 = d from rfl]
            cases hz : d == 48 with
            | true =>
              have hz0 : d = 48 := by simpa using hz
              have e2 : ((45 :: d :: q : List Int) == [48]) = false := rfl
              rw [cond_true, e2, Bool.not_false, cond_true]
              have hf : ((refNum (d :: q)).2 && decide ((refNum (d :: q)).1 > 0)) = false := by
                rw [refNum, hd45, cond_false, hz]
                by_cases h1 : (d :: q).length > 1
                · rw [dt h1]; rw [Bool.and_true, Bool.or_true, cond_true]; rfl
                · have hq : q = [] := by
                    cases q with
                    | nil => rfl
                    | cons a b => exact absurd (by simp) h1
                  subst hq; subst hz0; rfl
              exact ⟨0, by rw [hf], fun h => by rw [hf] at h; cases h⟩
            | false =>
              have hz0 : d ≠ 48 := by simpa using hz
              have hat := atoi_neg hr (by simp) (by omega) ha
              rw [cond_false, go_atoi hat (by simp only [List.length_cons] at h16 ⊢; omega), Option.bind_some]
              have hpos : 0 < (digsI 0 (d :: q)).1 := by
                rw [digsI, hdg.1, cond_true]
                exact digs_pos q _ (by omega) hdg.2
              have hn : refNum (d :: q) = digsI 0 (d :: q) := by
                rw [refNum, hd45, cond_false, hz, df h16]; rfl
              rw [hn, digs_all, ha, dt hpos]
              exact ⟨_, rfl, fun _ => rfl⟩
    · have e : (c == 45) = false := by simpa using hc45
      simp only [e, cond_false]
      have e0 : ((c :: r) == []) = false := rfl
      rw [e0, cond_false]
      by_cases h16 : (c :: r).length > 16
      · rw [dt (show (((c :: r).length : Nat) : Int) > 16 by omega), cond_true, dt h16, Bool.true_or, cond_true]
        exact ⟨0, rfl, fun h => by cases h⟩
      · rw [df (show ¬ (((c :: r).length : Nat) : Int) > 16 by omega), cond_false, contains_law hb hl, Option.bind_some, df h16, Bool.false_or]
        have e1 : decide (0 < (((c :: r).length : Nat) : Int)) = true := dt (by simp only [List.length_cons]; omega)
        cases ha : (c :: r).all digC with
        | false =>
          rw [Bool.not_false, cond_true]
          have hf : (bif c == 48 && decide ((c :: r).length > 1) then ((0 : Int), false) else digsI 0 (c :: r)).2 = false := by
            cases c == 48 && decide ((c :: r).length > 1) with
            | true => rfl
            | false => rw [cond_false, digs_all, ha]
          exact ⟨0, by rw [hf], fun h => by rw [hf] at h; cases h⟩
        | true =>
          rw [Bool.not_true, cond_false, e1, cond_true, show (c :: r).getD 0 0 = c from rfl]
          have hat := atoi_pos hb (by simp) (by omega) ha
          have hgo := go_atoi hat (by omega)
          cases hz : c == 48 with
          | true =>
            have hz0 : c = 48 := by simpa using hz
            subst hz0
            rw [cond_true, Bool.true_and]
            cases r with
            | nil =>
              have e2 : (!(([48] : List Int) == [48])) = false := rfl
              rw [e2, cond_false, hgo, Option.bind_some]
              exact ⟨_, rfl, fun _ => rfl⟩
            | cons a b =>
              have e2 : ((48 :: a :: b : List Int) == [48]) = false := rfl
              rw [e2, Bool.not_false, cond_true, dt (show (48 :: a :: b : List Int).length > 1 by simp), cond_true]
              exact ⟨0, rfl, fun h => by cases h⟩
          | false =>
            rw [cond_false, Bool.false_and, cond_false, hgo, Option.bind_some, digs_all, ha]
            exact ⟨_, rfl, fun _ => rfl⟩
end Go.Proofs
end
