/-
  The laws VecSplits, VecRules, VecPairs (plain).
-/
import Derived.Test.YtbfhholefjngpaaWLV1
set_option linter.unusedSimpArgs false
set_option linter.unusedVariables false
set_option maxRecDepth 100000
namespace Go.Proofs
open Go Go.Fx

theorem same3 (a b : Int) (h : a = b) : ((a == b) && (((1 : Int) == 1) && ((false == false) && true))) = true := by subst h; simp
theorem fewP.sm {l : List Int} (h : fewP l) : ∀ x ∈ l, sm x := fun x hx => sm_of (M := 1000) (by decide) (h.2 x hx)
theorem win_take {M : Nat} {l : List Int} (h : within M l) (n : Nat) : within M (l.take n) := fun x hx => h x (List.mem_of_mem_take hx)
theorem win_drop {M : Nat} {l : List Int} (h : within M l) (n : Nat) : within M (l.drop n) := fun x hx => h x (List.mem_of_mem_drop hx)
theorem win_nil {M : Nat} : within M [] := fun x hx => by cases hx
theorem law_VecSplits {b0 b1 : Bool} {l2 : List Int} {n3 : Int} (w0 : l2.length ≤ maxLen) (c0 : ∀ x ∈ l2, (Lit.int .i64 x).wf = true) (g0 : b0 = true → l2 = []) (w1 : (Lit.int .i64 n3).wf = true) : go_coupletlaw05_VecSplits b0 b1 l2 n3 = some true := by
  obtain ⟨r, hr, hf⟩ := few_at b0 b1 l2
  unfold go_coupletlaw05_VecSplits
  rw [hr, Option.bind_some, awake05]
  cases r
  · rfl
  have hf := hf rfl
  obtain ⟨h20, hw⟩ := hf
  rw [Bool.not_true, cond_false]
  by_cases s1 : n3 < 0
  · rw [decide_eq_true s1]; rfl
  by_cases s2 : n3 > ((l2.length : Nat) : Int)
  · rw [decide_eq_false s1, decide_eq_true s2]; rfl
  obtain ⟨n, rfl⟩ : ∃ n : Nat, n3 = (n : Int) := ⟨n3.toNat, by omega⟩
  obtain ⟨u, v, e1⟩ := whole_at b0 b1 (l := l2) (fewP.sm ⟨h20, hw⟩) (by omega)
  have ht : ((l2.map WP).drop 0).take (((n : Int) - 0).toNat) = (l2.take n).map WP := by rw [List.drop_zero, show ((n : Int) - 0).toNat = n by omega, List.map_take]
  have hd : ((l2.map WP).drop n).take ((((l2.length : Nat) : Int) - (n : Int)).toNat) = (l2.drop n).map WP := by rw [List.take_of_length_le (by rw [List.length_drop, List.length_map]; omega), List.map_drop]
  have st := tot_le (win_take hw n)
  have sd := tot_le (win_drop hw n)
  have lt : 1000 * (l2.take n).length ≤ 20000 := by rw [List.length_take]; omega
  have ld : 1000 * (l2.drop n).length ≤ 20000 := by rw [List.length_drop]; omega
  have hsum := tot_append (l2.take n) (l2.drop n)
  rw [List.take_append_drop] at hsum
  rw [decide_eq_false s1, decide_eq_false s2, cond_false, cond_false, e1, Option.bind_some]
  dsimp only
  rw [List.length_map, bne_self_eq_false, cond_false, sum_at u v 1000 hw (by omega) (by omega), Option.bind_some, ht, sum_at u false 1000 (win_take hw n) (by omega) (by rw [List.length_take]; omega), Option.bind_some, Int.toNat_natCast, hd, sum_at u v 1000 (win_drop hw n) (by omega) (by rw [List.length_drop]; omega), Option.bind_some]
  dsimp only
  rw [add1 (a := tot (l2.take n)) (b := tot (l2.drop n)) ⟨by omega, by omega⟩ ⟨by omega, by omega⟩ ⟨by omega, by omega⟩, Option.bind_some]
  dsimp only
  have hz0 : go_vec_Sum_frac_Frac true true [] = some (0, 1, false) := sum_at true true 1000 (A := []) win_nil (by decide) (by decide)
  have hd0 : go_vec_Dot_frac_Frac u v (l2.map WP) true true [] = some (dotL l2 [], 1, false) := dot_at u v true true hw (B := []) (N := 1) win_nil (by decide) (by decide) (by omega) (by decide) (by omega)
  rw [same3 _ _ hsum, hz0, Option.bind_some, new1 ⟨by decide, by decide⟩, Option.bind_some, hd0,
    decide_eq_true (show (0 : Int) ≤ (n : Int) by omega), decide_eq_true (show (n : Int) ≤ ((l2.length : Nat) : Int) by omega), decide_eq_true (Int.le_refl ((l2.length : Nat) : Int))]
  have hz : dotL l2 [] = 0 := by unfold dotL mulL; rw [List.zip_nil_right]; rfl
  rw [hz]
  rfl

/-! ### rules -/
theorem dot_comm : ∀ (A B : List Int), dotL A B = dotL B A
  | [], B => by unfold dotL mulL; rw [List.zip_nil_left, List.zip_nil_right]
  | a :: A, [] => rfl
  | a :: A, b :: B => by
    have ih := dot_comm A B
    unfold dotL mulL at ih ⊢
    simp only [List.zip_cons_cons, List.map_cons, tot]
    rw [ih, Int.mul_comm]
theorem dot_add : ∀ (A B C : List Int), A.length = B.length → dotL (addL A B) C = dotL A C + dotL B C
  | [], [], C, _ => rfl
  | a :: A, b :: B, [], _ => rfl
  | a :: A, b :: B, c :: C, h => by
    have ih := dot_add A B C (by simpa using h)
    unfold dotL mulL addL at ih ⊢
    simp only [List.zip_cons_cons, List.map_cons, tot]
    rw [ih, Int.add_mul]; omega
theorem dot_sub : ∀ (A B C : List Int), A.length = B.length → dotL (subL A B) C = dotL A C - dotL B C
  | [], [], C, _ => rfl
  | a :: A, b :: B, [], _ => rfl
  | a :: A, b :: B, c :: C, h => by
    have ih := dot_sub A B C (by simpa using h)
    unfold dotL mulL subL at ih ⊢
    simp only [List.zip_cons_cons, List.map_cons, tot]
    rw [ih, Int.sub_mul]; omega
theorem dot_scl (n : Int) : ∀ (A B : List Int), dotL (sclL A n) B = dotL A B * n
  | [], B => by unfold dotL mulL sclL; rw [List.map_nil, List.zip_nil_left]; simp [tot]
  | a :: A, [] => by unfold dotL mulL; rw [List.zip_nil_right, List.zip_nil_right]; simp [tot]
  | a :: A, b :: B => by
    have ih := dot_scl n A B
    unfold dotL mulL sclL at ih ⊢
    simp only [List.zip_cons_cons, List.map_cons, tot]
    rw [ih, Int.add_mul]
    congr 1
    rw [Int.mul_assoc, Int.mul_comm n b, Int.mul_assoc]
theorem dot_le {M N K : Nat} {A B : List Int} (hA : within M A) (hB : within N B) (hK : M * N * A.length ≤ K) : -(K : Int) ≤ dotL A B ∧ dotL A B ≤ (K : Int) := by
  have h := tot_le (win_mul hA hB)
  have hl : (mulL A B).length ≤ A.length := by unfold mulL; rw [len_zip]; exact Nat.min_le_left _ _
  have h2 : M * N * (mulL A B).length ≤ M * N * A.length := Nat.mul_le_mul_left _ hl
  unfold dotL
  omega
theorem law_VecRules {b0 b1 : Bool} {l2 : List Int} {b3 b4 : Bool} {l5 : List Int} {b6 b7 : Bool} {l8 : List Int} {n9 : Int} (w0 : l2.length ≤ maxLen) (c0 : ∀ x ∈ l2, (Lit.int .i64 x).wf = true) (g0 : b0 = true → l2 = []) (w1 : l5.length ≤ maxLen) (c1 : ∀ x ∈ l5, (Lit.int .i64 x).wf = true) (g1 : b3 = true → l5 = [])
    (w2 : l8.length ≤ maxLen) (c2 : ∀ x ∈ l8, (Lit.int .i64 x).wf = true) (g2 : b6 = true → l8 = []) (w3 : (Lit.int .i64 n9).wf = true) : go_coupletlaw05_VecRules b0 b1 l2 b3 b4 l5 b6 b7 l8 n9 = some true := by
  obtain ⟨r1, hr1, hf1⟩ := few_at b0 b1 l2
  obtain ⟨r2, hr2, hf2⟩ := few_at b3 b4 l5
  obtain ⟨r3, hr3, hf3⟩ := few_at b6 b7 l8
  unfold go_coupletlaw05_VecRules
  rw [hr1, Option.bind_some, awake05]
  cases r1
  · rfl
  rw [Bool.not_true, cond_false, hr2, Option.bind_some]
  cases r2
  · rfl
  rw [Bool.not_true, cond_false, hr3, Option.bind_some]
  cases r3
  · rfl
  rw [Bool.not_true, cond_false]
  by_cases s1 : n9 < -10
  · rw [decide_eq_true s1]; rfl
  by_cases s2 : n9 > 10
  · rw [decide_eq_false s1, decide_eq_true s2]; rfl
  rw [decide_eq_false s1, decide_eq_false s2, cond_false, cond_false, ibne, ibne]
  by_cases s3 : ((l2.length : Nat) : Int) = ((l5.length : Nat) : Int)
  case neg => rw [decide_eq_false s3]; rfl
  by_cases s4 : ((l2.length : Nat) : Int) = ((l8.length : Nat) : Int)
  case neg => rw [decide_eq_true s3, decide_eq_false s4]; rfl
  rw [decide_eq_true s3, decide_eq_true s4]
  simp only [Bool.not_true, cond_false]
  obtain ⟨k1, hA⟩ := hf1 rfl
  obtain ⟨k2, hB⟩ := hf2 rfl
  obtain ⟨k3, hC⟩ := hf3 rfl
  have hn : -((10 : Nat) : Int) ≤ n9 ∧ n9 ≤ ((10 : Nat) : Int) := ⟨by omega, by omega⟩
  obtain ⟨u1, v1, e1⟩ := whole_at b0 b1 (l := l2) (fewP.sm ⟨k1, hA⟩) (by omega)
  obtain ⟨u2, v2, e2⟩ := whole_at b3 b4 (l := l5) (fewP.sm ⟨k2, hB⟩) (by omega)
  obtain ⟨u3, v3, e3⟩ := whole_at b6 b7 (l := l8) (fewP.sm ⟨k3, hC⟩) (by omega)
  obtain ⟨u4, v4, e4⟩ := add_at u1 v1 u2 v2 hA hB (by decide) (by omega)
  obtain ⟨u5, v5, e5⟩ := sub_at u1 v1 u2 v2 hA hB (by decide) (by omega)
  obtain ⟨u6, v6, e6⟩ := scale_at u1 v1 hA hn (by decide) (by decide) (by decide) (by omega)
  have la : (addL l2 l5).length ≤ 20 := by unfold addL; rw [len_zip]; omega
  have ls : (subL l2 l5).length ≤ 20 := by unfold subL; rw [len_zip]; omega
  have lc : (sclL l2 n9).length ≤ 20 := by unfold sclL; rw [List.length_map]; omega
  have d1 := dot_at u1 v1 u2 v2 hA hB (by decide) (by decide) (by omega) (by decide) (by omega)
  have d2 := dot_at u2 v2 u1 v1 hB hA (by decide) (by decide) (by omega) (by decide) (by omega)
  have d3 := dot_at u1 v1 u3 v3 hA hC (by decide) (by decide) (by omega) (by decide) (by omega)
  have d4 := dot_at u2 v2 u3 v3 hB hC (by decide) (by decide) (by omega) (by decide) (by omega)
  have d5 := dot_at u4 v4 u3 v3 (win_add hA hB) hC (by decide) (by decide) (by omega) (by decide) (by omega)
  have d6 := dot_at u5 v5 u3 v3 (win_sub hA hB) hC (by decide) (by decide) (by omega) (by decide) (by omega)
  have d7 := dot_at u6 v6 u2 v2 (win_scl hA hn) hB (by decide) (by decide) (by omega) (by decide) (by omega)
  have bAB := dot_le (K := 20000000) hA hB (by omega)
  have bAC := dot_le (K := 20000000) hA hC (by omega)
  have bBC := dot_le (K := 20000000) hB hC (by omega)
  have bABn := mul_b (M := 20000000) (N := 10) (a := dotL l2 l5) (b := n9) bAB hn
  rw [e1, Option.bind_some, e2, Option.bind_some, e3, Option.bind_some, new1 ⟨by omega, by omega⟩, Option.bind_some]
  dsimp only
  rw [d1, Option.bind_some, d2, Option.bind_some]
  dsimp only
  rw [same3 _ _ (dot_comm l2 l5), cond_true, e4, Option.bind_some]
  dsimp only
  rw [d5, Option.bind_some, d3, Option.bind_some, d4, Option.bind_some]
  dsimp only
  rw [add1 (a := dotL l2 l8) (b := dotL l5 l8) ⟨by omega, by omega⟩ ⟨by omega, by omega⟩ ⟨by omega, by omega⟩, Option.bind_some]
  dsimp only
  rw [same3 _ _ (dot_add l2 l5 l8 (by omega)), cond_true, e5, Option.bind_some]
  dsimp only
  rw [d6, Option.bind_some]
  dsimp only
  rw [Option.bind_some, Option.bind_some, sub1 (a := dotL l2 l8) (b := dotL l5 l8) ⟨by omega, by omega⟩ ⟨by omega, by omega⟩ ⟨by omega, by omega⟩, Option.bind_some]
  dsimp only
  rw [same3 _ _ (dot_sub l2 l5 l8 (by omega)), cond_true, e6, Option.bind_some]
  dsimp only
  rw [d7, Option.bind_some]
  dsimp only
  rw [Option.bind_some]
  dsimp only
  rw [mul1 (a := dotL l2 l5) (b := n9) ⟨by omega, by omega⟩ ⟨by omega, by omega⟩ ⟨by omega, by omega⟩, Option.bind_some]
  dsimp only
  rw [same3 _ _ (dot_scl n9 l2 l5)]
  rfl

/-! ### pairs -/
theorem pairs_fold (b10 b11 : Bool) (l12 : List Int) (b13 b14 : Bool) (l15 : List Int) (b16 b17 : Bool) (A : List Int) (b19 b20 : Bool) (B : List Int) (s : Nat) (hs : s ≤ 255) (b23 : Bool) (hA : A.length ≤ 1000) : ∀ (d j : Nat), j + d = (A.zip B).length → j ≤ s →
    foldS (X := (Bool × Bool × List Int × Bool × Bool × List Int × Bool × Bool × List Int × Bool × Bool × List Int × Int × Bool × Int)) (Y := (Bool) ⊕ ((Bool × Bool × List Int × Bool × Bool × List Int × Int × Bool × Int))) (fun x i => st_coupletlaw05_VecPairs_0 x.1 x.2.1 x.2.2.1 x.2.2.2.1 x.2.2.2.2.1 x.2.2.2.2.2.1 x.2.2.2.2.2.2.1 x.2.2.2.2.2.2.2.1 x.2.2.2.2.2.2.2.2.1 x.2.2.2.2.2.2.2.2.2.1 x.2.2.2.2.2.2.2.2.2.2.1 x.2.2.2.2.2.2.2.2.2.2.2.1 x.2.2.2.2.2.2.2.2.2.2.2.2.1 x.2.2.2.2.2.2.2.2.2.2.2.2.2.1 x.2.2.2.2.2.2.2.2.2.2.2.2.2.2 i) ((A.zip B).drop j) (b10, b11, l12, b13, b14, l15, b16, b17, A, b19, b20, B, (s : Int), b23, (j : Int)) =
      some (if s < (A.zip B).length then .inr (.inr (b16, b17, A, b19, b20, B, (s : Int), b23, ((s + 1 : Nat) : Int))) else .inl (b10, b11, l12, b13, b14, l15, b16, b17, A, b19, b20, B, (s : Int), b23, ((A.zip B).length : Int)))
  | 0, j, hj, hjs => by
    obtain rfl : j = (A.zip B).length := by omega
    rw [List.drop_length, foldS, if_neg (by omega)]
  | d + 1, j, hj, hjs => by
    have hlt : j < (A.zip B).length := by omega
    have hl := List.length_zip (l₁ := A) (l₂ := B)
    have h1 : j < A.length := by omega
    have h2 : j < B.length := by omega
    have e : st_coupletlaw05_VecPairs_0 b10 b11 l12 b13 b14 l15 b16 b17 A b19 b20 B (s : Int) b23 (j : Int) (A.zip B)[j] = if j = s then some (.inr (.inr (b16, b17, A, b19, b20, B, (s : Int), b23, ((j + 1 : Nat) : Int)))) else some (.inl (b10, b11, l12, b13, b14, l15, b16, b17, A, b19, b20, B, (s : Int), b23, ((j + 1 : Nat) : Int))) := by
      unfold st_coupletlaw05_VecPairs_0
      rw [Int.toNat_natCast, getD_at h1, getD_at h2, List.getElem_zip, inc64 (by omega), w64 (a := (s : Int)) (by omega) (by omega), decide_eq_false (show ¬ (j : Int) ≥ min ((A.length : Nat) : Int) ((B.length : Nat) : Int) by omega), decide_eq_true (show (0 : Int) ≤ (j : Int) by omega), decide_eq_true (show (j : Int) < ((A.length : Nat) : Int) by omega), decide_eq_true h1, decide_eq_true (show (j : Int) < ((B.length : Nat) : Int) by omega), decide_eq_true h2]
      simp only [bne_self_eq_false]
      by_cases h : j = s
      · rw [if_pos h, decide_eq_true (show ((j + 1 : Nat) : Int) > (s : Int) by omega)]; rfl
      · rw [if_neg h, decide_eq_false (show ¬ ((j + 1 : Nat) : Int) > (s : Int) by omega)]; rfl
    rw [List.drop_eq_getElem_cons hlt, foldS]
    dsimp only
    rw [e]
    by_cases h : j = s
    · subst h
      rw [if_pos rfl, if_pos hlt]
    · rw [if_neg h]
      dsimp only
      exact pairs_fold b10 b11 l12 b13 b14 l15 b16 b17 A b19 b20 B s hs b23 hA d (j + 1) (by omega) (by omega)
theorem law_VecPairs {b0 b1 : Bool} {l2 : List Int} {b3 b4 : Bool} {l5 : List Int} {n6 : Int} (w0 : l2.length ≤ maxLen) (c0 : ∀ x ∈ l2, (Lit.int .i64 x).wf = true) (g0 : b0 = true → l2 = []) (w1 : l5.length ≤ maxLen) (c1 : ∀ x ∈ l5, (Lit.int .i64 x).wf = true) (g1 : b3 = true → l5 = [])
    (w2 : (Lit.int .u8 n6).wf = true) : go_coupletlaw05_VecPairs b0 b1 l2 b3 b4 l5 n6 = some true := by
  unfold go_coupletlaw05_VecPairs
  rw [awake05]
  by_cases s1 : ((l2.length : Nat) : Int) > 200
  · rw [decide_eq_true s1]; rfl
  by_cases s2 : ((l5.length : Nat) : Int) > 200
  · rw [decide_eq_false s1, decide_eq_true s2]; rfl
  have h3 := wf_u8 w2
  obtain ⟨s, rfl⟩ : ∃ s : Nat, n6 = (s : Int) := ⟨n6.toNat, by omega⟩
  have hS := pairs_fold b0 b1 l2 b3 b4 l5 b0 b1 l2 b3 b4 l5 s (by omega) false (by omega) (l2.zip l5).length 0 (by omega) (Nat.zero_le _)
  rw [List.drop_zero] at hS
  have hl := List.length_zip (l₁ := l2) (l₂ := l5)
  rw [decide_eq_false s1, decide_eq_false s2, cond_false, cond_false]
  unfold go_vec_Pairs_int lp_coupletlaw05_VecPairs_0 it_coupletlaw05_VecPairs_0 it_pairsI
  rw [Option.bind_some]
  dsimp only
  rw [decide_eq_true (show l2.length ≤ 1000000000 by omega), cond_true, Option.bind_some]
  have hS : foldS (X := (Bool × Bool × List Int × Bool × Bool × List Int × Bool × Bool × List Int × Bool × Bool × List Int × Int × Bool × Int)) (Y := (Bool) ⊕ ((Bool × Bool × List Int × Bool × Bool × List Int × Int × Bool × Int))) (fun x i => st_coupletlaw05_VecPairs_0 x.1 x.2.1 x.2.2.1 x.2.2.2.1 x.2.2.2.2.1 x.2.2.2.2.2.1 x.2.2.2.2.2.2.1 x.2.2.2.2.2.2.2.1 x.2.2.2.2.2.2.2.2.1 x.2.2.2.2.2.2.2.2.2.1 x.2.2.2.2.2.2.2.2.2.2.1 x.2.2.2.2.2.2.2.2.2.2.2.1 x.2.2.2.2.2.2.2.2.2.2.2.2.1 x.2.2.2.2.2.2.2.2.2.2.2.2.2.1 x.2.2.2.2.2.2.2.2.2.2.2.2.2.2 i) (l2.zip l5) (b0, b1, l2, b3, b4, l5, b0, b1, l2, b3, b4, l5, (s : Int), false, 0) = _ := hS
  rw [hS, Option.bind_some]
  by_cases h : s < (l2.zip l5).length
  · rw [if_pos h]
    simp only [Sum.elim_inr]
    rw [w64 (a := (s : Int)) (by omega) (by omega), w64 (by omega) (by omega), ibeq, decide_eq_true (by omega)]
    rfl
  · rw [if_neg h]
    simp only [Sum.elim_inl]
    rw [w64 (a := (s : Int)) (by omega) (by omega), w64 (by omega) (by omega), ibeq, decide_eq_true (by omega)]
    rfl
end Go.Proofs
