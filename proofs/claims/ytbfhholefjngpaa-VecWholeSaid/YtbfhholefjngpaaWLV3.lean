/-
  The law VecWhole (plain).
-/
import Derived.Test.YtbfhholefjngpaaWLV2
set_option linter.unusedSimpArgs false
set_option linter.unusedVariables false
set_option maxRecDepth 100000
namespace Go.Proofs
open Go Go.Fx

theorem rdot_loop (b6 b7 b9 b10 : Bool) (A B : List Int) (hA : within 1000 A) (hB : within 1000 B) (hn : A.length ≤ 20) : ∀ (d j : Nat) (s : Int), j + d = min A.length B.length → -((1000000 * j : Nat) : Int) ≤ s → s ≤ ((1000000 * j : Nat) : Int) →
    iterN (fun x => st_coupletref05_Dot_0 x.1 x.2.1 x.2.2.1 x.2.2.2.1 x.2.2.2.2.1 x.2.2.2.2.2.1 x.2.2.2.2.2.2.1 x.2.2.2.2.2.2.2) (d + 1) (b6, b7, A, b9, b10, B, s, (j : Int)) = some (s + dotL (A.drop j) (B.drop j))
  | 0, j, s, hj, h1, h2 => by
    have e : st_coupletref05_Dot_0 b6 b7 A b9 b10 B s (j : Int) = some (.inr s) := by
      unfold st_coupletref05_Dot_0
      by_cases h : j < A.length
      · rw [decide_eq_true (show (j : Int) < ((A.length : Nat) : Int) by omega), decide_eq_false (show ¬ (j : Int) < ((B.length : Nat) : Int) by omega)]; rfl
      · rw [decide_eq_false (show ¬ (j : Int) < ((A.length : Nat) : Int) by omega)]; rfl
    have hz : dotL (A.drop j) (B.drop j) = 0 := by
      unfold dotL mulL
      by_cases h : j < A.length
      · have h0 : B.drop j = [] := List.drop_eq_nil_of_le (by omega)
        rw [h0, List.zip_nil_right]; rfl
      · have h0 : A.drop j = [] := List.drop_eq_nil_of_le (by omega)
        rw [h0, List.zip_nil_left]; rfl
    rw [iterN]; simp only [e]; rw [hz, Int.add_zero]
  | d + 1, j, s, hj, h1, h2 => by
    have hl1 : j < A.length := by omega
    have hl2 : j < B.length := by omega
    have hm := mul_b (hA _ (List.getElem_mem hl1)) (hB _ (List.getElem_mem hl2))
    have e : st_coupletref05_Dot_0 b6 b7 A b9 b10 B s (j : Int) = some (.inl (b6, b7, A, b9, b10, B, s + A[j] * B[j], ((j + 1 : Nat) : Int))) := by
      unfold st_coupletref05_Dot_0
      rw [Int.toNat_natCast, getD_at hl1, getD_at hl2, w64 (a := A[j] * B[j]) (by omega) (by omega), w64 (a := s + A[j] * B[j]) (by omega) (by omega), inc64 (by omega), decide_eq_true (show (j : Int) < ((A.length : Nat) : Int) by omega), decide_eq_true (show (j : Int) < ((B.length : Nat) : Int) by omega), decide_eq_true (show (0 : Int) ≤ (j : Int) by omega), decide_eq_true hl1, decide_eq_true hl2]
      rfl
    rw [iterN]
    simp only [e]
    rw [rdot_loop b6 b7 b9 b10 A B hA hB hn d (j + 1) (s + A[j] * B[j]) (by omega) (by omega) (by omega)]
    have : dotL (A.drop j) (B.drop j) = A[j] * B[j] + dotL (A.drop (j + 1)) (B.drop (j + 1)) := by
      unfold dotL mulL
      rw [List.drop_eq_getElem_cons hl1, List.drop_eq_getElem_cons hl2]
      rfl
    rw [this]
    congr 1
    omega
theorem rdot_at (b0 b1 b3 b4 : Bool) {A B : List Int} (hA : within 1000 A) (hB : within 1000 B) (hn : A.length ≤ 20) : go_coupletref05_Dot b0 b1 A b3 b4 B = some (dotL A B) := by
  have h := rdot_loop b0 b1 b3 b4 A B hA hB hn (min A.length B.length) 0 0 (by omega) (by omega) (by omega)
  rw [List.drop_zero, List.drop_zero, Int.zero_add] at h
  unfold go_coupletref05_Dot lp_coupletref05_Dot_0
  have h : iterN (fun x => st_coupletref05_Dot_0 x.1 x.2.1 x.2.2.1 x.2.2.2.1 x.2.2.2.2.1 x.2.2.2.2.2.1 x.2.2.2.2.2.2.1 x.2.2.2.2.2.2.2) (min A.length B.length + 1) (b0, b1, A, b3, b4, B, 0, 0) = some (dotL A B) := h
  rw [loopN_of (min A.length B.length + 1) (by omega) h, Option.bind_some]
theorem nsame3 (a : Int) : (!((a == a) && (((1 : Int) == 1) && ((false == false) && true)))) = false := by simp
theorem vw_loop (b22 b23 b25 b26 b29 b30 b33 b34 b36 b37 b39 b40 : Bool) (A B : List Int) (n : Int) (hA : within 1000 A) (hB : within 1000 B) (h1 : A.length ≤ 20) (hn : -((1000 : Nat) : Int) ≤ n ∧ n ≤ ((1000 : Nat) : Int)) : ∀ (d j : Nat) (s : Int), j + d = A.length → -((1000 * j : Nat) : Int) ≤ s → s ≤ ((1000 * j : Nat) : Int) →
    iterN (fun x => st_coupletlaw05_VecWhole_0 x.1 x.2.1 x.2.2.1 x.2.2.2.1 x.2.2.2.2.1 x.2.2.2.2.2.1 x.2.2.2.2.2.2.1 x.2.2.2.2.2.2.2.1 x.2.2.2.2.2.2.2.2.1 x.2.2.2.2.2.2.2.2.2.1 x.2.2.2.2.2.2.2.2.2.2.1 x.2.2.2.2.2.2.2.2.2.2.2.1 x.2.2.2.2.2.2.2.2.2.2.2.2.1 x.2.2.2.2.2.2.2.2.2.2.2.2.2.1 x.2.2.2.2.2.2.2.2.2.2.2.2.2.2.1 x.2.2.2.2.2.2.2.2.2.2.2.2.2.2.2.1 x.2.2.2.2.2.2.2.2.2.2.2.2.2.2.2.2.1 x.2.2.2.2.2.2.2.2.2.2.2.2.2.2.2.2.2.1 x.2.2.2.2.2.2.2.2.2.2.2.2.2.2.2.2.2.2.1 x.2.2.2.2.2.2.2.2.2.2.2.2.2.2.2.2.2.2.2.1 x.2.2.2.2.2.2.2.2.2.2.2.2.2.2.2.2.2.2.2.2.1 x.2.2.2.2.2.2.2.2.2.2.2.2.2.2.2.2.2.2.2.2.2.1 x.2.2.2.2.2.2.2.2.2.2.2.2.2.2.2.2.2.2.2.2.2.2) (d + 1)
      (b22, b23, A, b25, b26, B, n, b29, b30, A.map WP, min (A.length : Int) (B.length : Int), b33, b34, (addL A B).map WP, b36, b37, (subL A B).map WP, b39, b40, (sclL A n).map WP, s, (A.length : Int), (j : Int)) = some (.inl (b29, b30, A.map WP, s + tot (A.drop j)))
  | 0, j, s, hj, g1, g2 => by
    obtain rfl : j = A.length := by omega
    have e : st_coupletlaw05_VecWhole_0 b22 b23 A b25 b26 B n b29 b30 (A.map WP) (min (A.length : Int) (B.length : Int)) b33 b34 ((addL A B).map WP) b36 b37 ((subL A B).map WP) b39 b40 ((sclL A n).map WP) s (A.length : Int) (A.length : Int) = some (.inr (.inl (b29, b30, A.map WP, s))) := by
      unfold st_coupletlaw05_VecWhole_0
      rw [decide_eq_false (Int.lt_irrefl _)]
      rfl
    rw [iterN]; simp only [e]
    rw [List.drop_length, tot, Int.add_zero]
  | d + 1, j, s, hj, g1, g2 => by
    have hlt : j < A.length := by omega
    have hx := hA _ (List.getElem_mem hlt)
    have hm := mul_b hx hn
    have hla : (addL A B).length = min A.length B.length := len_zip _ _ _
    have hls : (subL A B).length = min A.length B.length := len_zip _ _ _
    have hlc : (sclL A n).length = A.length := List.length_map ..
    have hc : (sclL A n)[j]'(by omega) = A[j] * n := by unfold sclL; rw [List.getElem_map]
    have e : st_coupletlaw05_VecWhole_0 b22 b23 A b25 b26 B n b29 b30 (A.map WP) (min (A.length : Int) (B.length : Int)) b33 b34 ((addL A B).map WP) b36 b37 ((subL A B).map WP) b39 b40 ((sclL A n).map WP) s (A.length : Int) (j : Int) =
        some (.inl (b22, b23, A, b25, b26, B, n, b29, b30, A.map WP, min (A.length : Int) (B.length : Int), b33, b34, (addL A B).map WP, b36, b37, (subL A B).map WP, b39, b40, (sclL A n).map WP, s + A[j], (A.length : Int), ((j + 1 : Nat) : Int))) := by
      unfold st_coupletlaw05_VecWhole_0
      rw [Int.toNat_natCast, getD_at hlt, getD_WP hlt, getD_WP (A := sclL A n) (by omega), hc, List.length_map, List.length_map, List.length_map, List.length_map, hla, hls, hlc, w64 (a := A[j] * n) (by omega) (by omega), w64 (a := s + A[j]) (by omega) (by omega), inc64 (by omega)]
      simp only [wl, wo, q1, q2, q3]
      rw [new1 (n := A[j]) ⟨by omega, by omega⟩, Option.bind_some, new1 (n := A[j] * n) ⟨by omega, by omega⟩, Option.bind_some]
      dsimp only
      rw [nsame3, nsame3, decide_eq_true (show (j : Int) < ((A.length : Nat) : Int) by omega), decide_eq_true (show (0 : Int) ≤ (j : Int) by omega), decide_eq_true hlt, decide_eq_false (show ¬ A[j] < -1000 by omega), decide_eq_false (show ¬ A[j] > 1000 by omega)]
      simp only [cond_true, cond_false]
      by_cases h : j < B.length
      · have hy := hB _ (List.getElem_mem h)
        have ea : (addL A B)[j]'(by omega) = A[j] + B[j] := by unfold addL; rw [List.getElem_map, List.getElem_zip]
        have es : (subL A B)[j]'(by omega) = A[j] - B[j] := by unfold subL; rw [List.getElem_map, List.getElem_zip]
        rw [getD_at h, getD_WP (A := addL A B) (by omega), getD_WP (A := subL A B) (by omega), ea, es, w64 (a := A[j] + B[j]) (by omega) (by omega), w64 (a := A[j] - B[j]) (by omega) (by omega)]
        simp only [wl, wo, q1, q2, q3]
        rw [new1 (n := A[j] + B[j]) ⟨by omega, by omega⟩, Option.bind_some, new1 (n := A[j] - B[j]) ⟨by omega, by omega⟩, Option.bind_some]
        dsimp only
        rw [nsame3, nsame3, decide_eq_true (show (j : Int) < min ((A.length : Nat) : Int) ((B.length : Nat) : Int) by omega), decide_eq_true (show (j : Int) < ((min A.length B.length : Nat) : Int) by omega), decide_eq_true (show j < min A.length B.length by omega), decide_eq_true (show (j : Int) < ((B.length : Nat) : Int) by omega), decide_eq_true h]
        rfl
      · rw [decide_eq_false (show ¬ (j : Int) < min ((A.length : Nat) : Int) ((B.length : Nat) : Int) by omega)]
        rfl
    rw [iterN]
    simp only [e]
    rw [vw_loop b22 b23 b25 b26 b29 b30 b33 b34 b36 b37 b39 b40 A B n hA hB h1 hn d (j + 1) (s + A[j]) (by omega) (by omega) (by omega), List.drop_eq_getElem_cons hlt, tot, Int.add_assoc]
theorem law_VecWhole {b0 b1 : Bool} {l2 : List Int} {b3 b4 : Bool} {l5 : List Int} {n6 : Int} (w0 : l2.length ≤ maxLen) (c0 : ∀ x ∈ l2, (Lit.int .i64 x).wf = true) (g0 : b0 = true → l2 = []) (w1 : l5.length ≤ maxLen) (c1 : ∀ x ∈ l5, (Lit.int .i64 x).wf = true) (g1 : b3 = true → l5 = [])
    (w2 : (Lit.int .i64 n6).wf = true) : go_coupletlaw05_VecWhole b0 b1 l2 b3 b4 l5 n6 = some true := by
  obtain ⟨r1, hr1, hf1⟩ := few_at b0 b1 l2
  obtain ⟨r2, hr2, hf2⟩ := few_at b3 b4 l5
  unfold go_coupletlaw05_VecWhole
  rw [hr1, Option.bind_some, awake05]
  cases r1
  · rfl
  rw [Bool.not_true, cond_false, hr2, Option.bind_some]
  cases r2
  · rfl
  rw [Bool.not_true, cond_false]
  by_cases s1 : n6 < -1000
  · rw [decide_eq_true s1]; rfl
  by_cases s2 : n6 > 1000
  · rw [decide_eq_false s1, decide_eq_true s2]; rfl
  rw [decide_eq_false s1, decide_eq_false s2, cond_false, cond_false]
  obtain ⟨k1, hA⟩ := hf1 rfl
  obtain ⟨k2, hB⟩ := hf2 rfl
  have hn : -((1000 : Nat) : Int) ≤ n6 ∧ n6 ≤ ((1000 : Nat) : Int) := ⟨by omega, by omega⟩
  obtain ⟨u1, v1, e1⟩ := whole_at b0 b1 (l := l2) (fewP.sm ⟨k1, hA⟩) (by omega)
  obtain ⟨u2, v2, e2⟩ := whole_at b3 b4 (l := l5) (fewP.sm ⟨k2, hB⟩) (by omega)
  obtain ⟨u4, v4, e4⟩ := add_at u1 v1 u2 v2 hA hB (by decide) (by omega)
  obtain ⟨u5, v5, e5⟩ := sub_at u1 v1 u2 v2 hA hB (by decide) (by omega)
  obtain ⟨u6, v6, e6⟩ := scale_at u1 v1 hA hn (by decide) (by decide) (by decide) (by omega)
  have d1 := dot_at u1 v1 u2 v2 hA hB (by decide) (by decide) (by omega) (by decide) (by omega)
  have bAB := dot_le (K := 20000000) hA hB (by omega)
  have ht := tot_le hA
  have hl := vw_loop b0 b1 b3 b4 u1 v1 u4 v4 u5 v5 u6 v6 l2 l5 n6 hA hB k1 hn l2.length 0 0 (by omega) (by omega) (by omega)
  rw [List.drop_zero, Int.zero_add] at hl
  have hl : iterN (fun x => st_coupletlaw05_VecWhole_0 x.1 x.2.1 x.2.2.1 x.2.2.2.1 x.2.2.2.2.1 x.2.2.2.2.2.1 x.2.2.2.2.2.2.1 x.2.2.2.2.2.2.2.1 x.2.2.2.2.2.2.2.2.1 x.2.2.2.2.2.2.2.2.2.1 x.2.2.2.2.2.2.2.2.2.2.1 x.2.2.2.2.2.2.2.2.2.2.2.1 x.2.2.2.2.2.2.2.2.2.2.2.2.1 x.2.2.2.2.2.2.2.2.2.2.2.2.2.1 x.2.2.2.2.2.2.2.2.2.2.2.2.2.2.1 x.2.2.2.2.2.2.2.2.2.2.2.2.2.2.2.1 x.2.2.2.2.2.2.2.2.2.2.2.2.2.2.2.2.1 x.2.2.2.2.2.2.2.2.2.2.2.2.2.2.2.2.2.1 x.2.2.2.2.2.2.2.2.2.2.2.2.2.2.2.2.2.2.1 x.2.2.2.2.2.2.2.2.2.2.2.2.2.2.2.2.2.2.2.1 x.2.2.2.2.2.2.2.2.2.2.2.2.2.2.2.2.2.2.2.2.1 x.2.2.2.2.2.2.2.2.2.2.2.2.2.2.2.2.2.2.2.2.2.1 x.2.2.2.2.2.2.2.2.2.2.2.2.2.2.2.2.2.2.2.2.2.2) (l2.length + 1)
      (b0, b1, l2, b3, b4, l5, n6, u1, v1, l2.map WP, min (l2.length : Int) (l5.length : Int), u4, v4, (addL l2 l5).map WP, u5, v5, (subL l2 l5).map WP, u6, v6, (sclL l2 n6).map WP, 0, (l2.length : Int), 0) = some (.inl (u1, v1, l2.map WP, tot l2)) := hl
  rw [e1, Option.bind_some, e2, Option.bind_some]
  dsimp only
  rw [e4, Option.bind_some, e5, Option.bind_some, new1 ⟨by omega, by omega⟩, Option.bind_some]
  dsimp only
  rw [e6, Option.bind_some, d1, Option.bind_some, rdot_at b0 b1 b3 b4 hA hB k1, Option.bind_some, new1 (n := dotL l2 l5) ⟨by omega, by omega⟩, Option.bind_some]
  dsimp only
  have hla : (addL l2 l5).length = min l2.length l5.length := len_zip _ _ _
  have hls : (subL l2 l5).length = min l2.length l5.length := len_zip _ _ _
  have hlc : (sclL l2 n6).length = l2.length := List.length_map ..
  have hmin : min ((l2.length : Nat) : Int) ((l5.length : Nat) : Int) = ((min l2.length l5.length : Nat) : Int) := by omega
  rw [nsame3, cond_false, List.length_map, List.length_map, List.length_map, List.length_map, hla, hls, hlc]
  unfold lp_coupletlaw05_VecWhole_0
  rw [loopN_of (l2.length + 1) (by omega) hl, Option.bind_some, hmin]
  simp only [bne_self_eq_false, cond_false, Sum.elim_inl]
  rw [sum_at u1 v1 1000 hA (by omega) (by omega), Option.bind_some, new1 (n := tot l2) ⟨by omega, by omega⟩, Option.bind_some]
  dsimp only
  rw [same3 _ _ rfl]
  rfl
end Go.Proofs
