/-
  Layer 3: what the document's functions answer (ref one, ref Do).
-/
import Derived.Test.YtbfhholefjngpaaFxRow
import Derived.Test.YtbfhholefjngpaaWGV1
import Derived.Test.YtbfhholefjngpaaFxRun
import Derived.Laws.Bits64
import Derived.Test.YtbfhholefjngpaaWBitrow
import Derived.Test.YtbfhholefjngpaaWC5
import Derived.Test.YtbfhholefjngpaaWGE2
set_option linter.unusedSimpArgs false
set_option linter.unusedVariables false
namespace Go.Proofs
open Go Go.Fx
theorem iterN_mono {X Y : Type} {step : X → Option (X ⊕ Y)} : ∀ {n : Nat} {x : X} {y : Y}, iterN step n x = some y → ∀ m, n ≤ m → iterN step m x = some y
  | 0, x, y, h, m, _ => by cases h
  | n + 1, x, y, h, m, hm => by
    obtain ⟨m, rfl⟩ : ∃ k, m = k + 1 := ⟨m - 1, by omega⟩
    simp only [iterN] at h ⊢
    split at h
    · cases h
    · exact iterN_mono h m (by omega)
    · exact h
theorem loopN_of {X Y : Type} {step : X → Option (X ⊕ Y)} {x : X} {y : Y} (n : Nat) (hn : n ≤ 18446744073709551616) (h : iterN step n x = some y) : loopN step x = some y := iterN_mono h _ hn
theorem iterN_fold {X Y : Type} {step : X → Option (X ⊕ Y)} {state : Nat → X} {f : Y} {n : Nat} (h1 : ∀ k, k < n → step (state k) = some (.inl (state (k + 1)))) (h2 : step (state n) = some (.inr f)) : ∀ (d k : Nat), k + d = n → iterN step (d + 1) (state k) = some f
  | 0, k, hk => by
    obtain rfl : k = n := by omega
    simp only [iterN, h2]
  | d + 1, k, hk => by
    rw [iterN, h1 k (by omega)]
    exact iterN_fold h1 h2 d (k + 1) (by omega)
theorem loop_fold {X Y : Type} {step : X → Option (X ⊕ Y)} (state : Nat → X) (f : Y) (n : Nat) (hn : n < 18446744073709551616) (h1 : ∀ k, k < n → step (state k) = some (.inl (state (k + 1)))) (h2 : step (state n) = some (.inr f)) : loopN step (state 0) = some f :=
  loopN_of (n + 1) (by omega) (iterN_fold h1 h2 n 0 (by omega))
theorem w64 {a : Int} (h1 : -9223372036854775808 ≤ a) (h2 : a ≤ 9223372036854775807) : IntKind.wrap .i64 a = a := by
  rw [IntKind.wrap_i64]; omega
theorem ibeq (a b : Int) : (a == b) = decide (a = b) := rfl
end Go.Proofs
set_option linter.unusedSimpArgs false
set_option linter.unusedVariables false
set_option maxRecDepth 100000
namespace Go.Proofs
open Go Go.Fx
def sm (n : Int) : Prop := -1073741824 ≤ n ∧ n ≤ 1073741824
theorem common1 {n : Int} (h : -4611686018427387904 ≤ n ∧ n ≤ 4611686018427387904) : go_frac_common n 1 = some 1 := by
  unfold go_frac_common lp_frac_common_0
  have e : iterN (fun x : Int × Int => st_frac_common_0 x.1 x.2) 2 (max n (IntKind.wrap .i64 (0 - n)), max 1 (IntKind.wrap .i64 (0 - 1))) = some 1 := by
    have e1 : st_frac_common_0 (max n (IntKind.wrap .i64 (0 - n))) (max 1 (IntKind.wrap .i64 (0 - 1))) = some (.inl (1, 0)) := by
      rw [show max 1 (IntKind.wrap .i64 (0 - 1)) = 1 from rfl]
      unfold st_frac_common_0
      rw [Int.tmod_one]
      rfl
    rw [iterN]
    simp only [e1]
    rfl
  rw [loopN_of 2 (by decide) e, Option.bind_some]
theorem new1 {n : Int} (h : sm n) : go_frac_New n 1 = some (n, 1, false) := by
  obtain ⟨h1, h2⟩ := h
  unfold go_frac_New
  rw [common1 ⟨by omega, by omega⟩, Option.bind_some, Int.tdiv_one, w64 (a := n) (by omega) (by omega), decide_eq_false (show ¬ n > 1152921504606846976 by omega), decide_eq_false (show ¬ n < -1152921504606846976 by omega), decide_eq_false (show ¬ n > 1073741824 by omega), decide_eq_false (show ¬ n < -1073741824 by omega)]
  rfl
theorem of1 {n : Int} (h : sm n) (a b : Int) (c : Bool) : go_frac_Frac_Of a b c n = some (n, 1, false) := by
  unfold go_frac_Frac_Of
  rw [new1 h]; rfl
theorem fine1 {n : Int} (h : sm n) : go_frac_Frac_Fine n 1 false = some true := by
  unfold go_frac_Frac_Fine
  rw [new1 h, decide_eq_true (show n ≤ 1073741824 from h.2), decide_eq_true (show n ≥ -1073741824 from h.1), Option.bind_some]
  simp
theorem mul1 {a b : Int} (ha : sm a) (hb : sm b) (hc : sm (a * b)) : go_frac_Frac_Mul a 1 false b 1 false = some (a * b, 1, false) := by
  have hc' := hc
  unfold sm at hc'
  unfold go_frac_Frac_Mul go_frac_of go_frac_Frac_Mul_1
  rw [fine1 ha, fine1 hb, w64 (a := a * b) (by omega) (by omega), show IntKind.wrap .i64 (1 * 1) = 1 from rfl]
  simp only [Option.bind_some, Bool.not_true, cond_false]
  rw [new1 hc]; rfl
theorem add1 {a b : Int} (ha : sm a) (hb : sm b) (hc : sm (a + b)) : go_frac_Frac_Add a 1 false b 1 false = some (a + b, 1, false) := by
  have hc' := hc
  have ha' := ha
  have hb' := hb
  unfold sm at hc' ha' hb'
  unfold go_frac_Frac_Add
  rw [fine1 ha, fine1 hb, Int.mul_one, Int.mul_one, Int.mul_one, w64 (a := a) (by omega) (by omega), w64 (a := b) (by omega) (by omega), w64 (a := a + b) (by omega) (by omega), show IntKind.wrap .i64 1 = 1 from rfl, common1 ⟨by omega, by omega⟩]
  simp only [Option.bind_some, Bool.not_true, cond_false]
  rw [Int.tdiv_one, w64 (a := a + b) (by omega) (by omega), show IntKind.wrap .i64 (Int.tdiv 1 1) = 1 from rfl, new1 hc]
  rfl
theorem inc64 {k : Nat} (h : k < 9223372036854775807) : IntKind.wrap .i64 ((k : Int) + 1) = ((k + 1 : Nat) : Int) := by
  rw [w64 (by omega) (by omega)]; rfl
theorem getD_at {l : List Int} {k : Nat} (h : k < l.length) : l.getD k 0 = l[k] := by
  rw [List.getD_eq_getElem?_getD, List.getElem?_eq_getElem h]; rfl
def WP (n : Int) : PV := .agg [.int .i64 n, .int .i64 1, .bool false]
theorem getD_WP {A : List Int} {i : Nat} (h : i < A.length) : (A.map WP).getD i .nilSl = WP A[i] := by
  rw [List.getD_eq_getElem?_getD, List.getElem?_map, List.getElem?_eq_getElem h]; rfl
theorem wl (n : Int) : decide (List.length (PV.cells (WP n)) = 3) = true := rfl
theorem wo (n : Int) : Shp.ok (.agg [(.int .i64), (.int .i64), .bool]) (.agg (PV.cells (WP n))) = true := rfl
theorem q1 (n : Int) : PV.num (List.headD (PV.subs (.agg (PV.cells (WP n)))) .nilSl) = n := rfl
theorem q2 (n : Int) : PV.num (List.headD (List.tail (PV.subs (.agg (PV.cells (WP n))))) .nilSl) = 1 := rfl
theorem q3 (n : Int) : PV.tru (List.headD (List.tail (List.tail (PV.subs (.agg (PV.cells (WP n)))))) .nilSl) = false := rfl
theorem whole_loop (b3 b4 : Bool) (l : List Int) (hl : ∀ x ∈ l, sm x) (hn : l.length ≤ 1000) : ∀ (d j : Nat) (u v : Bool) (acc : List PV), j + d = l.length → acc.length + d ≤ 2000 → ∃ u' v',
    iterN (fun x => st_vec_Whole_frac_Frac_0 x.1 x.2.1 x.2.2.1 x.2.2.2.1 x.2.2.2.2.1 x.2.2.2.2.2.1 x.2.2.2.2.2.2.1 x.2.2.2.2.2.2.2.1 x.2.2.2.2.2.2.2.2.1 x.2.2.2.2.2.2.2.2.2.1 x.2.2.2.2.2.2.2.2.2.2) (d + 1) (b3, b4, l, (l.length : Int), (j : Int), u, v, acc, 0, 0, false) = some (u', v', acc ++ (l.drop j).map WP)
  | 0, j, u, v, acc, hj, hb => by
    obtain rfl : j = l.length := by omega
    have e : st_vec_Whole_frac_Frac_0 b3 b4 l (l.length : Int) (l.length : Int) u v acc 0 0 false = some (.inr (u, v, acc)) := by
      unfold st_vec_Whole_frac_Frac_0
      rw [decide_eq_false (Int.lt_irrefl _)]
      rfl
    exact ⟨u, v, by rw [iterN]; simp only [e]; rw [List.drop_length, List.map_nil, List.append_nil]⟩
  | d + 1, j, u, v, acc, hj, hb => by
    have hlt : j < l.length := by omega
    have e : st_vec_Whole_frac_Frac_0 b3 b4 l (l.length : Int) (j : Int) u v acc 0 0 false = some (.inl (b3, b4, l, (l.length : Int), ((j + 1 : Nat) : Int), (u && false), false, acc ++ [WP l[j]], 0, 0, false)) := by
      unfold st_vec_Whole_frac_Frac_0
      rw [Int.toNat_natCast, getD_at hlt, of1 (hl _ (List.getElem_mem hlt)), Option.bind_some, inc64 (by omega), decide_eq_true (show (j : Int) < ((l.length : Nat) : Int) by omega), decide_eq_true (show (0 : Int) ≤ (j : Int) by omega), decide_eq_true hlt, decide_eq_true (show (acc.length + 1) * 24 ≤ 140737488355328 by omega), decide_eq_true (show acc.length + 1 ≤ 4611686018427387904 by omega)]
      rfl
    rw [iterN]
    simp only [e]
    obtain ⟨u', v', ih⟩ := whole_loop b3 b4 l hl hn d (j + 1) (u && false) false (acc ++ [WP l[j]]) (by omega) (by rw [List.length_append]; simp; omega)
    exact ⟨u', v', by rw [ih, List.drop_eq_getElem_cons hlt, List.map_cons, List.append_assoc]; rfl⟩
theorem whole_at (b0 b1 : Bool) {l : List Int} (hl : ∀ x ∈ l, sm x) (hn : l.length ≤ 1000) : ∃ u v, go_vec_Whole_frac_Frac b0 b1 l = some (u, v, l.map WP) := by
  obtain ⟨u, v, h⟩ := whole_loop b0 b1 l hl hn l.length 0 true true [] (by omega) (by simp; omega)
  rw [List.drop_zero, List.nil_append] at h
  refine ⟨u, v, ?_⟩
  unfold go_vec_Whole_frac_Frac lp_vec_Whole_frac_Frac_0
  have h : iterN (fun x => st_vec_Whole_frac_Frac_0 x.1 x.2.1 x.2.2.1 x.2.2.2.1 x.2.2.2.2.1 x.2.2.2.2.2.1 x.2.2.2.2.2.2.1 x.2.2.2.2.2.2.2.1 x.2.2.2.2.2.2.2.2.1 x.2.2.2.2.2.2.2.2.2.1 x.2.2.2.2.2.2.2.2.2.2) (l.length + 1) (b0, b1, l, (l.length : Int), 0, true, true, [], 0, 0, false) = some (u, v, l.map WP) := h
  rw [loopN_of (l.length + 1) (by omega) h, Option.bind_some]
def tot : List Int → Int
  | [] => 0
  | x :: l => x + tot l
def within (M : Nat) (A : List Int) : Prop := ∀ x ∈ A, -(M : Int) ≤ x ∧ x ≤ (M : Int)
theorem sum_loop (b4 b5 : Bool) (n9 n10 : Int) (b11 : Bool) (M : Nat) (A : List Int) (hA : within M A) (hM : M * A.length ≤ 1073741824) (hn : A.length ≤ 1000) : ∀ (d j : Nat) (s : Int), j + d = A.length → -((M * j : Nat) : Int) ≤ s → s ≤ ((M * j : Nat) : Int) →
    iterN (fun x => st_vec_Sum_frac_Frac_0 x.1 x.2.1 x.2.2.1 x.2.2.2.1 x.2.2.2.2.1 x.2.2.2.2.2.1 x.2.2.2.2.2.2.1 x.2.2.2.2.2.2.2.1 x.2.2.2.2.2.2.2.2.1 x.2.2.2.2.2.2.2.2.2.1 x.2.2.2.2.2.2.2.2.2.2) (d + 1) (b4, b5, A.map WP, (A.length : Int), (j : Int), n9, n10, b11, s, 1, false) = some (n9, n10, b11, s + tot (A.drop j), 1, false)
  | 0, j, s, hj, h1, h2 => by
    obtain rfl : j = A.length := by omega
    have e : st_vec_Sum_frac_Frac_0 b4 b5 (A.map WP) (A.length : Int) (A.length : Int) n9 n10 b11 s 1 false = some (.inr (n9, n10, b11, s, 1, false)) := by
      unfold st_vec_Sum_frac_Frac_0
      rw [decide_eq_false (Int.lt_irrefl _)]
      rfl
    rw [iterN]; simp only [e]
    rw [List.drop_length, tot, Int.add_zero]
  | d + 1, j, s, hj, h1, h2 => by
    have hlt : j < A.length := by omega
    have hx := hA _ (List.getElem_mem hlt)
    have m1 : M * (j + 1) = M * j + M := Nat.mul_succ M j
    have m2 : M * (j + 1) ≤ M * A.length := Nat.mul_le_mul_left M (by omega)
    have e : st_vec_Sum_frac_Frac_0 b4 b5 (A.map WP) (A.length : Int) (j : Int) n9 n10 b11 s 1 false = some (.inl (b4, b5, A.map WP, (A.length : Int), ((j + 1 : Nat) : Int), n9, n10, b11, s + A[j], 1, false)) := by
      unfold st_vec_Sum_frac_Frac_0
      rw [Int.toNat_natCast, getD_WP hlt, List.length_map]
      simp only [wl, wo, q1, q2, q3]
      rw [add1 (a := s) (b := A[j]) ⟨by omega, by omega⟩ ⟨by omega, by omega⟩ ⟨by omega, by omega⟩, Option.bind_some, inc64 (by omega), decide_eq_true (show (j : Int) < ((A.length : Nat) : Int) by omega), decide_eq_true (show (0 : Int) ≤ (j : Int) by omega), decide_eq_true hlt]
      rfl
    rw [iterN]
    simp only [e]
    rw [sum_loop b4 b5 n9 n10 b11 M A hA hM hn d (j + 1) (s + A[j]) (by omega) (by omega) (by omega), List.drop_eq_getElem_cons hlt, tot, Int.add_assoc]
theorem sum_at (b0 b1 : Bool) (M : Nat) {A : List Int} (hA : within M A) (hM : M * A.length ≤ 1073741824) (hn : A.length ≤ 1000) : go_vec_Sum_frac_Frac b0 b1 (A.map WP) = some (tot A, 1, false) := by
  have h := sum_loop b0 b1 0 0 false M A hA hM hn A.length 0 0 (by omega) (by omega) (by omega)
  rw [List.drop_zero, Int.zero_add] at h
  unfold go_vec_Sum_frac_Frac lp_vec_Sum_frac_Frac_0
  have h : iterN (fun x => st_vec_Sum_frac_Frac_0 x.1 x.2.1 x.2.2.1 x.2.2.2.1 x.2.2.2.2.1 x.2.2.2.2.2.1 x.2.2.2.2.2.2.1 x.2.2.2.2.2.2.2.1 x.2.2.2.2.2.2.2.2.1 x.2.2.2.2.2.2.2.2.2.1 x.2.2.2.2.2.2.2.2.2.2) (A.length + 1) (b0, b1, A.map WP, (A.length : Int), 0, 0, 0, false, 0, 1, false) = some (0, 0, false, tot A, 1, false) := h
  rw [of1 ⟨by decide, by decide⟩, Option.bind_some, List.length_map]
  dsimp only
  rw [loopN_of (A.length + 1) (by omega) h, Option.bind_some]
theorem ok_WP (A : List Int) : (A.map WP).all pFok = true := by
  rw [List.all_eq_true]
  intro x hx
  obtain ⟨n, _, rfl⟩ := List.mem_map.1 hx
  rfl
theorem it_at (n1 x1 : Bool) (A : List Int) (n2 x2 : Bool) (B : List Int) (hn : A.length ≤ 1000) : it_pairspF n1 x1 (A.map WP) n2 x2 (B.map WP) = some ((A.zip B).map fun q => (q.1, 1, false, q.2, 1, false)) := by
  unfold it_pairspF
  rw [ok_WP, ok_WP, List.length_map, decide_eq_true (show A.length ≤ 1000000000 by omega), List.map_map, List.map_map]
  simp only [Bool.true_and, cond_true]
  congr 1
  rw [show (pFof ∘ WP) = fun n => (n, 1, false) from rfl]
  induction A generalizing B with
  | nil => rfl
  | cons a A ih =>
    cases B with
    | nil => rfl
    | cons b B =>
      simp only [List.map_cons, List.zip_cons_cons]
      rw [ih _ (by simp at hn; omega)]
theorem ofDot_fold (b7 b8 : Bool) (es9 : List PV) (b10 b11 : Bool) (es12 : List PV) : ∀ (L : List (Int × Int)) (u v : Bool) (acc : List PV), (∀ q ∈ L, sm q.1 ∧ sm q.2 ∧ sm (q.1 * q.2)) → acc.length + L.length ≤ 2000 → ∃ u' v',
    foldS (X := (Bool × Bool × List PV × Bool × Bool × List PV × Bool × Bool × List PV)) (Y := Unit) (fun x i => st_vec_of_frac_Frac_0 x.1 x.2.1 x.2.2.1 x.2.2.2.1 x.2.2.2.2.1 x.2.2.2.2.2.1 x.2.2.2.2.2.2.1 x.2.2.2.2.2.2.2.1 x.2.2.2.2.2.2.2.2 i) (L.map fun q => (q.1, 1, false, q.2, 1, false)) (b7, b8, es9, b10, b11, es12, u, v, acc) =
      some (.inl (b7, b8, es9, b10, b11, es12, u', v', acc ++ L.map fun q => WP (q.1 * q.2)))
  | [], u, v, acc, _, _ => ⟨u, v, by rw [List.map_nil, List.map_nil, foldS, List.append_nil]⟩
  | q :: L, u, v, acc, hq, hb => by
    obtain ⟨h1, h2, h3⟩ := hq q (List.mem_cons_self ..)
    have e : st_vec_of_frac_Frac_0 b7 b8 es9 b10 b11 es12 u v acc (q.1, 1, false, q.2, 1, false) = some (.inl (b7, b8, es9, b10, b11, es12, (u && false), false, acc ++ [WP (q.1 * q.2)])) := by
      unfold st_vec_of_frac_Frac_0 go_vec_Dot_frac_Frac_1
      dsimp only
      rw [mul1 h1 h2 h3, Option.bind_some, Option.bind_some, decide_eq_true (show (acc.length + 1) * 24 ≤ 140737488355328 by simp at hb; omega), decide_eq_true (show acc.length + 1 ≤ 4611686018427387904 by simp at hb; omega)]
      rfl
    obtain ⟨u', v', ih⟩ := ofDot_fold b7 b8 es9 b10 b11 es12 L (u && false) false (acc ++ [WP (q.1 * q.2)]) (fun q hq' => hq q (List.mem_cons_of_mem _ hq')) (by rw [List.length_append]; simp at hb ⊢; omega)
    refine ⟨u', v', ?_⟩
    rw [List.map_cons, foldS]
    dsimp only
    rw [e]
    dsimp only
    rw [ih, List.append_assoc]
    rfl
theorem ofDot_at (n1 x1 : Bool) (A : List Int) (n2 x2 : Bool) (B : List Int) (hn : A.length ≤ 1000) (hq : ∀ q ∈ A.zip B, sm q.1 ∧ sm q.2 ∧ sm (q.1 * q.2)) : ∃ u v, go_vec_of_frac_Frac n1 x1 (A.map WP) n2 x2 (B.map WP) = some (u, v, ((A.zip B).map fun q => q.1 * q.2).map WP) := by
  obtain ⟨u, v, h⟩ := ofDot_fold n1 x1 (A.map WP) n2 x2 (B.map WP) (A.zip B) true true [] hq (by simp only [List.length_nil, List.length_zip]; omega)
  refine ⟨u, v, ?_⟩
  unfold go_vec_of_frac_Frac go_vec_Pairs_frac_Frac lp_vec_of_frac_Frac_0 it_vec_of_frac_Frac_0
  rw [Option.bind_some]
  dsimp only
  rw [it_at n1 x1 A n2 x2 B hn, Option.bind_some, h, Option.bind_some, List.map_map]
  rfl
theorem ofAdd_fold (b7 b8 : Bool) (es9 : List PV) (b10 b11 : Bool) (es12 : List PV) : ∀ (L : List (Int × Int)) (u v : Bool) (acc : List PV), (∀ q ∈ L, sm q.1 ∧ sm q.2 ∧ sm (q.1 + q.2)) → acc.length + L.length ≤ 2000 → ∃ u' v',
    foldS (X := (Bool × Bool × List PV × Bool × Bool × List PV × Bool × Bool × List PV)) (Y := Unit) (fun x i => st_vec_of_frac_Frac_v1_0 x.1 x.2.1 x.2.2.1 x.2.2.2.1 x.2.2.2.2.1 x.2.2.2.2.2.1 x.2.2.2.2.2.2.1 x.2.2.2.2.2.2.2.1 x.2.2.2.2.2.2.2.2 i) (L.map fun q => (q.1, 1, false, q.2, 1, false)) (b7, b8, es9, b10, b11, es12, u, v, acc) =
      some (.inl (b7, b8, es9, b10, b11, es12, u', v', acc ++ L.map fun q => WP (q.1 + q.2)))
  | [], u, v, acc, _, _ => ⟨u, v, by rw [List.map_nil, List.map_nil, foldS, List.append_nil]⟩
  | q :: L, u, v, acc, hq, hb => by
    obtain ⟨h1, h2, h3⟩ := hq q (List.mem_cons_self ..)
    have e : st_vec_of_frac_Frac_v1_0 b7 b8 es9 b10 b11 es12 u v acc (q.1, 1, false, q.2, 1, false) = some (.inl (b7, b8, es9, b10, b11, es12, (u && false), false, acc ++ [WP (q.1 + q.2)])) := by
      unfold st_vec_of_frac_Frac_v1_0 go_vec_Add_frac_Frac_1
      dsimp only
      rw [add1 h1 h2 h3, Option.bind_some, Option.bind_some, decide_eq_true (show (acc.length + 1) * 24 ≤ 140737488355328 by simp at hb; omega), decide_eq_true (show acc.length + 1 ≤ 4611686018427387904 by simp at hb; omega)]
      rfl
    obtain ⟨u', v', ih⟩ := ofAdd_fold b7 b8 es9 b10 b11 es12 L (u && false) false (acc ++ [WP (q.1 + q.2)]) (fun q hq' => hq q (List.mem_cons_of_mem _ hq')) (by rw [List.length_append]; simp at hb ⊢; omega)
    refine ⟨u', v', ?_⟩
    rw [List.map_cons, foldS]
    dsimp only
    rw [e]
    dsimp only
    rw [ih, List.append_assoc]
    rfl
theorem ofAdd_at (n1 x1 : Bool) (A : List Int) (n2 x2 : Bool) (B : List Int) (hn : A.length ≤ 1000) (hq : ∀ q ∈ A.zip B, sm q.1 ∧ sm q.2 ∧ sm (q.1 + q.2)) : ∃ u v, go_vec_of_frac_Frac_v1 n1 x1 (A.map WP) n2 x2 (B.map WP) = some (u, v, ((A.zip B).map fun q => q.1 + q.2).map WP) := by
  obtain ⟨u, v, h⟩ := ofAdd_fold n1 x1 (A.map WP) n2 x2 (B.map WP) (A.zip B) true true [] hq (by simp only [List.length_nil, List.length_zip]; omega)
  refine ⟨u, v, ?_⟩
  unfold go_vec_of_frac_Frac_v1 go_vec_Pairs_frac_Frac lp_vec_of_frac_Frac_v1_0 it_vec_of_frac_Frac_v1_0
  rw [Option.bind_some]
  dsimp only
  rw [it_at n1 x1 A n2 x2 B hn, Option.bind_some, h, Option.bind_some, List.map_map]
  rfl
def mulL (A B : List Int) : List Int := (A.zip B).map fun q => q.1 * q.2
def addL (A B : List Int) : List Int := (A.zip B).map fun q => q.1 + q.2
def dotL (A B : List Int) : Int := tot (mulL A B)
theorem mul_b {a b : Int} {M N : Nat} (h1 : -(M : Int) ≤ a ∧ a ≤ (M : Int)) (h2 : -(N : Int) ≤ b ∧ b ≤ (N : Int)) : -((M * N : Nat) : Int) ≤ a * b ∧ a * b ≤ ((M * N : Nat) : Int) := by
  have h := Int.natAbs_mul a b
  have h3 : a.natAbs * b.natAbs ≤ M * N := Nat.mul_le_mul (by omega) (by omega)
  omega
theorem win_mul {M N : Nat} {A B : List Int} (hA : within M A) (hB : within N B) : within (M * N) (mulL A B) := fun x hx => by
  obtain ⟨q, hq, rfl⟩ := List.mem_map.1 hx
  obtain ⟨h1, h2⟩ := List.of_mem_zip hq
  exact mul_b (hA _ h1) (hB _ h2)
theorem sm_of {M : Nat} (hM : M ≤ 1073741824) {x : Int} (h : -(M : Int) ≤ x ∧ x ≤ (M : Int)) : sm x := ⟨by omega, by omega⟩
theorem len_zip (A B : List Int) (f : Int × Int → Int) : ((A.zip B).map f).length = min A.length B.length := by rw [List.length_map, List.length_zip]
theorem dot_at (n1 x1 : Bool) {A : List Int} (n2 x2 : Bool) {B : List Int} {M N : Nat} (hA : within M A) (hB : within N B) (hM : M ≤ 1073741824) (hN : N ≤ 1073741824) (hMN : M * N * A.length ≤ 1073741824) (hMN1 : M * N ≤ 1073741824) (hn : A.length ≤ 1000) :
    go_vec_Dot_frac_Frac n1 x1 (A.map WP) n2 x2 (B.map WP) = some (dotL A B, 1, false) := by
  obtain ⟨u, v, h⟩ := ofDot_at n1 x1 A n2 x2 B hn (fun q hq => by
    obtain ⟨h1, h2⟩ := List.of_mem_zip hq
    exact ⟨sm_of hM (hA _ h1), sm_of hN (hB _ h2), sm_of hMN1 (mul_b (hA _ h1) (hB _ h2))⟩)
  have hl : (mulL A B).length ≤ A.length := by unfold mulL; rw [len_zip]; exact Nat.min_le_left _ _
  unfold go_vec_Dot_frac_Frac
  rw [h, Option.bind_some]
  have h2 := sum_at u v (M * N) (win_mul hA hB) (Nat.le_trans (Nat.mul_le_mul_left _ hl) hMN) (by omega)
  have h2 : go_vec_Sum_frac_Frac u v (((A.zip B).map fun q => q.1 * q.2).map WP) = some (dotL A B, 1, false) := h2
  rw [h2]
  rfl
theorem add_at (n1 x1 : Bool) {A : List Int} (n2 x2 : Bool) {B : List Int} {M N : Nat} (hA : within M A) (hB : within N B) (hMN : M + N ≤ 1073741824) (hn : A.length ≤ 1000) : ∃ u v, go_vec_Add_frac_Frac n1 x1 (A.map WP) n2 x2 (B.map WP) = some (u, v, (addL A B).map WP) := by
  obtain ⟨u, v, h⟩ := ofAdd_at n1 x1 A n2 x2 B hn (fun q hq => by
    obtain ⟨h1, h2⟩ := List.of_mem_zip hq
    have h1 := hA _ h1
    have h2 := hB _ h2
    exact ⟨⟨by omega, by omega⟩, ⟨by omega, by omega⟩, ⟨by omega, by omega⟩⟩)
  refine ⟨u, v, ?_⟩
  unfold go_vec_Add_frac_Frac
  rw [h]; rfl
def fewP (l : List Int) : Prop := l.length ≤ 20 ∧ within 1000 l
theorem awake05 : go_coupletlaw05_awake = some true := by
  have w12 : within 10 [1, 2] := by unfold within; decide
  have w34 : within 10 [3, 4] := by unfold within; decide
  obtain ⟨u1, v1, e1⟩ := whole_at false true (l := [1, 2]) (fun x hx => sm_of (M := 10) (by decide) (w12 x hx)) (by decide)
  obtain ⟨u2, v2, e2⟩ := whole_at false true (l := [3, 4]) (fun x hx => sm_of (M := 10) (by decide) (w34 x hx)) (by decide)
  obtain ⟨u3, v3, e3⟩ := add_at u1 v1 u2 v2 w12 w34 (by decide) (by decide)
  unfold go_coupletlaw05_awake
  rw [e1, Option.bind_some, e2, Option.bind_some]
  dsimp only
  rw [dot_at u1 v1 u2 v2 w12 w34 (by decide) (by decide) (by decide) (by decide) (by decide), Option.bind_some, new1 ⟨by decide, by decide⟩, Option.bind_some, e3, sum_at u1 v1 10 w12 (by decide) (by decide), new1 ⟨by decide, by decide⟩]
  rfl
end Go.Proofs
set_option linter.unusedSimpArgs false
set_option linter.unusedVariables false
set_option maxRecDepth 100000
namespace Go.Proofs
open Go Go.Fx
theorem fewP.sm {l : List Int} (h : fewP l) : ∀ x ∈ l, sm x := fun x hx => sm_of (M := 1000) (by decide) (h.2 x hx)
end Go.Proofs
set_option linter.unusedSimpArgs false
set_option linter.unusedVariables false
set_option maxRecDepth 100000
namespace Go.Proofs
open Go Go.Fx
end Go.Proofs
set_option linter.unusedSimpArgs false
set_option linter.unusedVariables false
set_option maxRecDepth 100000
namespace Go.Proofs
open Go Go.Fx Go.Mdlaw Go.Rootlaw Go.Cmplaw
theorem made_cases (f : Fn) (a b : Nm) (P : List (Int × Int)) : made f a b P = wrong ∨
    ((f a.v b.v 0).2 = true ∧ isAll f P = true ∧ fine a = true ∧ fine b = true ∧ made f a b P = ⟨(f a.v b.v 0).1, least (lows f P), greatest (highs f P), false⟩) := by
  unfold made
  split
  · rename_i h
    simp only [Bool.and_eq_true] at h
    exact .inr ⟨h.1.1.1, h.1.1.2, h.1.2, h.2, rfl⟩
  · exact .inl rfl
theorem td_some {n : Int} {is : Bool} {L : List Int} (h : (td n is L).2 = true) : (td n is L).1 = n ∧ is = true := by
  unfold td at *
  split at h
  · rename_i hh; rw [if_pos hh]; exact ⟨rfl, hh.1⟩
  · cases h
end Go.Proofs
set_option linter.unusedSimpArgs false
set_option linter.unusedVariables false
namespace Go.Proofs
open Go Go.Fx Go.Mdlaw Go.Rootlaw Go.Cmplaw
end Go.Proofs
namespace Go.Mdlaw
theorem neg3_pos {a b c : Int} (hc : 0 < c) : neg3 a b c = (decide (a < 0) != decide (b < 0)) := by
  unfold neg3
  have : decide (c < 0) = false := decide_eq_false (by omega)
  rw [this]
  cases decide (a < 0) <;> cases decide (b < 0) <;> rfl
theorem signed (a b : Int) : (neg3 a b 1 = false → a * b = ((a.natAbs * b.natAbs : Nat) : Int)) ∧ (neg3 a b 1 = true → a * b = -((a.natAbs * b.natAbs : Nat) : Int)) := by
  rw [neg3_pos (by decide), ← Int.natAbs_mul]
  rcases Int.lt_or_le a 0 with ha | ha <;> rcases Int.lt_or_le b 0 with hb | hb
  · have := Int.mul_pos_of_neg_of_neg ha hb
    simp [ha, hb]; omega
  · have := Int.mul_nonpos_of_nonpos_of_nonneg (Int.le_of_lt ha) hb
    have hb' : ¬ b < 0 := by omega
    simp [ha, hb']; omega
  · have := Int.mul_nonpos_of_nonneg_of_nonpos ha (Int.le_of_lt hb)
    have ha' : ¬ a < 0 := by omega
    simp [ha', hb]; omega
  · have := Int.mul_nonneg ha hb
    have ha' : ¬ a < 0 := by omega
    have hb' : ¬ b < 0 := by omega
    simp [ha', hb']; omega
theorem md_floor {a b c : Int} (hc : 0 < c) {m : Int} (h : (md a b c m).2 = true) :
    (m = 1 → (md a b c m).1 * c ≤ a * b ∧ a * b < (md a b c m).1 * c + c) ∧ (m = 2 → a * b ≤ (md a b c m).1 * c ∧ (md a b c m).1 * c < a * b + c) := by
  have ho : okM a b c m := Decidable.byContradiction fun hn => by rw [md_neg hn] at h; cases h
  have hn3 : neg3 a b c = neg3 a b 1 := by rw [neg3_pos hc, neg3_pos (by decide)]
  have h' := h
  rw [md_pos ho] at h'
  unfold core at h'
  have hv := fit_some h'
  have hv2 : (md a b c m).1 = _ := (congrArg Prod.fst (md_pos ho)).trans hv
  rw [hv2, hn3]
  clear hv2 hv h' h ho
  have hs := signed a b
  obtain ⟨d, rfl⟩ : ∃ d : Nat, c = d := ⟨c.toNat, by omega⟩
  have hd : 0 < d := by omega
  generalize a * b = X at *
  generalize a.natAbs * b.natAbs = p at *
  rw [Int.natAbs_natCast] at *
  have h1 := Nat.div_add_mod p d
  have h2 := Nat.mod_lt p hd
  generalize hq : p / d = q at *
  generalize hr : p % d = r at *
  generalize neg3 a b 1 = s at *
  have hqd : ((d * q : Nat) : Int) = (q : Int) * (d : Int) := by rw [Int.natCast_mul, Int.mul_comm]
  have hp : (p : Int) = (q : Int) * d + r := by rw [← hqd]; omega
  constructor
  · intro hm
    subst hm
    cases s
    · rw [hs.1 rfl]
      have he : more 1 false q r d = false := by unfold more; split <;> rfl
      simp only [he, Bool.toNat_false, Nat.add_zero, Bool.false_eq_true, if_false]
      omega
    · rw [hs.2 rfl]
      by_cases h0 : r = 0
      · have he : more 1 true q r d = false := by unfold more; rw [if_pos h0]
        simp only [he, Bool.toNat_false, Nat.add_zero, if_true, Int.neg_mul]
        omega
      · have he : more 1 true q r d = true := by unfold more; rw [if_neg h0]; rfl
        simp only [he, Bool.toNat_true, if_true, Int.neg_mul, Int.natCast_add, Int.add_mul, Int.natCast_one, Int.one_mul]
        omega
  · intro hm
    subst hm
    cases s
    · rw [hs.1 rfl]
      by_cases h0 : r = 0
      · have he : more 2 false q r d = false := by unfold more; rw [if_pos h0]
        simp only [he, Bool.toNat_false, Nat.add_zero, Bool.false_eq_true, if_false]
        omega
      · have he : more 2 false q r d = true := by unfold more; rw [if_neg h0]; rfl
        simp only [he, Bool.toNat_true, Bool.false_eq_true, if_false, Int.natCast_add, Int.add_mul, Int.natCast_one, Int.one_mul]
        omega
    · rw [hs.2 rfl]
      have he : more 2 true q r d = false := by unfold more; split <;> rfl
      simp only [he, Bool.toNat_false, Nat.add_zero, if_true, Int.neg_mul]
      omega
theorem md_near {a b c : Int} (hc : 0 < c) {m : Int} (h : (md a b c m).2 = true) :
    a * b - c < (md a b c m).1 * c ∧ (md a b c m).1 * c < a * b + c := by
  have ho : okM a b c m := Decidable.byContradiction fun hn => by rw [md_neg hn] at h; cases h
  have hn3 : neg3 a b c = neg3 a b 1 := by rw [neg3_pos hc, neg3_pos (by decide)]
  have h' := h
  rw [md_pos ho] at h'
  unfold core at h'
  have hv := fit_some h'
  have hv2 : (md a b c m).1 = _ := (congrArg Prod.fst (md_pos ho)).trans hv
  rw [hv2, hn3]
  clear hv2 hv h' h ho
  have hs := signed a b
  obtain ⟨d, rfl⟩ : ∃ d : Nat, c = d := ⟨c.toNat, by omega⟩
  have hd : 0 < d := by omega
  generalize a * b = X at *
  generalize a.natAbs * b.natAbs = p at *
  rw [Int.natAbs_natCast] at *
  have h1 := Nat.div_add_mod p d
  have h2 := Nat.mod_lt p hd
  generalize hq : p / d = q at *
  generalize hr : p % d = r at *
  generalize neg3 a b 1 = s at *
  have hqd : ((d * q : Nat) : Int) = (q : Int) * (d : Int) := by rw [Int.natCast_mul, Int.mul_comm]
  have hp : (p : Int) = (q : Int) * d + r := by rw [← hqd]; omega
  have hmore : r = 0 → more m s q r d = false := fun h0 => by unfold more; rw [if_pos h0]
  generalize more m s q r d = e at *
  cases s
  · rw [hs.1 rfl]
    cases e
    · simp only [Bool.toNat_false, Nat.add_zero, Bool.false_eq_true, if_false]
      omega
    · have h0 : r ≠ 0 := fun h => by cases hmore h
      simp only [Bool.toNat_true, Bool.false_eq_true, if_false, Int.natCast_add, Int.add_mul, Int.natCast_one, Int.one_mul]
      omega
  · rw [hs.2 rfl]
    cases e
    · simp only [Bool.toNat_false, Nat.add_zero, if_true, Int.neg_mul]
      omega
    · have h0 : r ≠ 0 := fun h => by cases hmore h
      simp only [Bool.toNat_true, if_true, Int.neg_mul, Int.natCast_add, Int.add_mul, Int.natCast_one, Int.one_mul]
      omega
end Go.Mdlaw
set_option linter.unusedSimpArgs false
set_option linter.unusedVariables false
namespace Go.Proofs
open Go Go.Fx Go.Mdlaw Go.Rootlaw Go.Cmplaw
def small (n : Int) : Prop := -1048576 ≤ n ∧ n ≤ 1048576
def unitNm (n : Int) : Nm := ⟨n * 16777216, n * 16777216, n * 16777216, false⟩
theorem unit_okF {n : Int} (h : small n) : okF (n * 16777216) := by unfold small at h; unfold okF; omega
theorem nOf_small {n : Int} (h : small n) : nOf n = unitNm n := by
  have hu := unit_okF h
  have e : md n 16777216 1 0 = (n * 16777216, true) := md_exact ⟨by unfold small at h; unfold okW; omega, by decide, by decide, by decide, by decide, by decide⟩ (by unfold okF at hu; unfold okW; omega) (by omega)
  have e2 : fOf n = (n * 16777216, true) := by
    unfold fOf td
    rw [e, if_pos ⟨rfl, by intro x hx; simp at hx; rw [hx]; exact hu⟩]
  unfold nOf
  rw [e2, if_pos rfl]
  unfold point
  rw [if_pos hu]
  rfl
theorem td_okF {n : Int} {is : Bool} {L : List Int} (h : (td n is L).2 = true) : ∀ x ∈ L, okF x := by
  unfold td at h
  split at h
  · rename_i hh; exact hh.2
  · cases h
end Go.Proofs
set_option linter.unusedSimpArgs false
set_option linter.unusedVariables false
set_option maxRecDepth 100000
namespace Go.Proofs
open Go Go.Fx Go.Mdlaw Go.Rootlaw Go.Cmplaw
theorem foldl_min_le : ∀ (L : List Int) (x : Int), L.foldl min x ≤ x ∧ ∀ y ∈ L, L.foldl min x ≤ y
  | [], x => ⟨Int.le_refl _, fun y hy => by cases hy⟩
  | z :: L, x => by
    have h := foldl_min_le L (min x z)
    rw [List.foldl_cons]
    refine ⟨by omega, fun y hy => ?_⟩
    rcases List.mem_cons.mp hy with rfl | hy
    · omega
    · exact h.2 y hy
theorem foldl_le_max : ∀ (L : List Int) (x : Int), x ≤ L.foldl max x ∧ ∀ y ∈ L, y ≤ L.foldl max x
  | [], x => ⟨Int.le_refl _, fun y hy => by cases hy⟩
  | z :: L, x => by
    have h := foldl_le_max L (max x z)
    rw [List.foldl_cons]
    refine ⟨by omega, fun y hy => ?_⟩
    rcases List.mem_cons.mp hy with rfl | hy
    · omega
    · exact h.2 y hy
theorem least_le {L : List Int} {y : Int} (h : y ∈ L) : least L ≤ y := by
  cases L with
  | nil => cases h
  | cons x L =>
    show L.foldl min x ≤ y
    rcases List.mem_cons.mp h with rfl | h
    · exact (foldl_min_le L _).1
    · exact (foldl_min_le L _).2 y h
theorem le_greatest {L : List Int} {y : Int} (h : y ∈ L) : y ≤ greatest L := by
  cases L with
  | nil => cases h
  | cons x L =>
    show y ≤ L.foldl max x
    rcases List.mem_cons.mp h with rfl | h
    · exact (foldl_le_max L _).1
    · exact (foldl_le_max L _).2 y h
theorem foldl_min_mem : ∀ (L : List Int) (x : Int), L.foldl min x = x ∨ L.foldl min x ∈ L
  | [], x => .inl rfl
  | z :: L, x => by
    rw [List.foldl_cons]
    rcases foldl_min_mem L (min x z) with h | h
    · rw [h]
      by_cases hz : x ≤ z
      · exact .inl (by omega)
      · exact .inr (by rw [show min x z = z by omega]; exact List.mem_cons_self ..)
    · exact .inr (List.mem_cons_of_mem _ h)
theorem foldl_max_mem : ∀ (L : List Int) (x : Int), L.foldl max x = x ∨ L.foldl max x ∈ L
  | [], x => .inl rfl
  | z :: L, x => by
    rw [List.foldl_cons]
    rcases foldl_max_mem L (max x z) with h | h
    · rw [h]
      by_cases hz : z ≤ x
      · exact .inl (by omega)
      · exact .inr (by rw [show max x z = z by omega]; exact List.mem_cons_self ..)
    · exact .inr (List.mem_cons_of_mem _ h)
theorem least_mem {L : List Int} (h : L ≠ []) : least L ∈ L := by
  cases L with
  | nil => exact absurd rfl h
  | cons x L =>
    show L.foldl min x ∈ x :: L
    rcases foldl_min_mem L x with e | e
    · rw [e]; exact List.mem_cons_self ..
    · exact List.mem_cons_of_mem _ e
theorem greatest_mem {L : List Int} (h : L ≠ []) : greatest L ∈ L := by
  cases L with
  | nil => exact absurd rfl h
  | cons x L =>
    show L.foldl max x ∈ x :: L
    rcases foldl_max_mem L x with e | e
    · rw [e]; exact List.mem_cons_self ..
    · exact List.mem_cons_of_mem _ e
theorem made_fine (f : Fn) (a b : Nm) (P : List (Int × Int)) (hP : P ≠ []) (hok : ∀ x y m, (f x y m).2 = true → okF (f x y m).1)
    (hin : (f a.v b.v 0).2 = true → isAll f P = true → fine a = true → fine b = true → (∃ p ∈ P, (f p.1 p.2 1).1 ≤ (f a.v b.v 0).1) ∧ (∃ p ∈ P, (f a.v b.v 0).1 ≤ (f p.1 p.2 2).1)) :
    made f a b P = wrong ∨ fine (made f a b P) = true := by
  rcases made_cases f a b P with h | ⟨h1, h2, h3, h4, h⟩
  · exact .inl h
  · right
    rw [h]
    obtain ⟨⟨p, hp, hl⟩, ⟨q, hq, hg⟩⟩ := hin h1 h2 h3 h4
    have l1 := least_le (L := lows f P) (List.mem_map.mpr ⟨p, hp, rfl⟩)
    have g1 := le_greatest (L := highs f P) (List.mem_map.mpr ⟨q, hq, rfl⟩)
    have hne : lows f P ≠ [] := fun e => hP (List.map_eq_nil_iff.mp e)
    have hne2 : highs f P ≠ [] := fun e => hP (List.map_eq_nil_iff.mp e)
    have all : ∀ p ∈ P, (f p.1 p.2 1).2 = true ∧ (f p.1 p.2 2).2 = true := fun p hp => by
      have := List.all_eq_true.mp h2 p hp
      simpa using this
    have ol : okF (least (lows f P)) := by
      obtain ⟨p, hp, e⟩ := List.mem_map.mp (least_mem hne)
      have e' : (f p.1 p.2 1).1 = least (lows f P) := e
      rw [← e']; exact hok _ _ _ (all p hp).1
    have og : okF (greatest (highs f P)) := by
      obtain ⟨p, hp, e⟩ := List.mem_map.mp (greatest_mem hne2)
      have e' : (f p.1 p.2 2).1 = greatest (highs f P) := e
      rw [← e']; exact hok _ _ _ (all p hp).2
    unfold fine
    simp only [Bool.and_eq_true, decide_eq_true_eq, Bool.not_eq_true']
    exact ⟨⟨⟨⟨trivial, ol⟩, og⟩, by omega⟩, by omega⟩
theorem fAdd_some {a b : Int} (h : (fAdd a b).2 = true) : (fAdd a b).1 = a + b ∧ okF (a + b) := by
  unfold fAdd at *
  split at h
  · rename_i hh
    rw [if_pos hh]
    unfold td at *
    split at h
    · rename_i h2; rw [if_pos h2]; exact ⟨rfl, h2.2 _ (by simp)⟩
    · cases h
  · cases h
theorem fine_add (a b : Nm) : nAdd a b = wrong ∨ fine (nAdd a b) = true := by
  refine made_fine _ a b _ (by simp) (fun x y m h => by rw [(fAdd_some h).1]; exact (fAdd_some h).2) fun h1 h2 h3 h4 => ?_
  have fa := fine_okF h3
  have fb := fine_okF h4
  simp only [isAll, List.all_cons, List.all_nil, Bool.and_eq_true, Bool.and_true] at h2
  have e0 := (fAdd_some h1).1
  have e1 := (fAdd_some h2.1.1).1
  have e2 := (fAdd_some h2.2.1).1
  refine ⟨⟨(a.lo, b.lo), by simp, ?_⟩, ⟨(a.hi, b.hi), by simp, ?_⟩⟩
  · show (fAdd a.lo b.lo).1 ≤ (fAdd a.v b.v).1; rw [e0, e1]; omega
  · show (fAdd a.v b.v).1 ≤ (fAdd a.hi b.hi).1; rw [e0, e2]; omega
theorem mul_end {x l h y : Int} (h1 : l ≤ x) (h2 : x ≤ h) : (l * y ≤ x * y ∨ h * y ≤ x * y) ∧ (x * y ≤ l * y ∨ x * y ≤ h * y) := by
  rcases Int.le_total 0 y with hy | hy
  · exact ⟨.inl (Int.mul_le_mul_of_nonneg_right h1 hy), .inr (Int.mul_le_mul_of_nonneg_right h2 hy)⟩
  · exact ⟨.inr (Int.mul_le_mul_of_nonpos_right h2 hy), .inl (Int.mul_le_mul_of_nonpos_right h1 hy)⟩
theorem corners {a b : Nm} {x y : Int} (h1 : a.lo ≤ x) (h2 : x ≤ a.hi) (h3 : b.lo ≤ y) (h4 : y ≤ b.hi) : (∃ p ∈ pairs4 a b, p.1 * p.2 ≤ x * y) ∧ (∃ p ∈ pairs4 a b, x * y ≤ p.1 * p.2) := by
  have k1 := mul_end (y := y) h1 h2
  have k2 := mul_end (y := a.lo) h3 h4
  have k3 := mul_end (y := a.hi) h3 h4
  rw [Int.mul_comm b.lo, Int.mul_comm y, Int.mul_comm b.hi] at k2 k3
  constructor
  · rcases k1.1 with h | h
    · rcases k2.1 with g | g
      · exact ⟨(a.lo, b.lo), by simp [pairs4], Int.le_trans g h⟩
      · exact ⟨(a.lo, b.hi), by simp [pairs4], Int.le_trans g h⟩
    · rcases k3.1 with g | g
      · exact ⟨(a.hi, b.lo), by simp [pairs4], Int.le_trans g h⟩
      · exact ⟨(a.hi, b.hi), by simp [pairs4], Int.le_trans g h⟩
  · rcases k1.2 with h | h
    · rcases k2.2 with g | g
      · exact ⟨(a.lo, b.lo), by simp [pairs4], Int.le_trans h g⟩
      · exact ⟨(a.lo, b.hi), by simp [pairs4], Int.le_trans h g⟩
    · rcases k3.2 with g | g
      · exact ⟨(a.hi, b.lo), by simp [pairs4], Int.le_trans h g⟩
      · exact ⟨(a.hi, b.hi), by simp [pairs4], Int.le_trans h g⟩
theorem fMul_some {a b m : Int} (h : (fMul a b m).2 = true) : (fMul a b m).1 = (md a b 16777216 m).1 ∧ (md a b 16777216 m).2 = true ∧ okF (fMul a b m).1 := by
  unfold fMul at *
  have e := td_some h
  have o := td_okF h
  refine ⟨e.1, e.2, ?_⟩
  rw [e.1]
  exact o _ (by simp)
theorem fine_mul (a b : Nm) : nMul a b = wrong ∨ fine (nMul a b) = true := by
  refine made_fine _ a b _ (by simp [pairs4]) (fun x y m h => (fMul_some h).2.2) fun h1 h2 h3 h4 => ?_
  have fa := fine_okF h3
  have fb := fine_okF h4
  have all := List.all_eq_true.mp h2
  obtain ⟨⟨p, hp, c1⟩, ⟨q, hq, c2⟩⟩ := corners (a := a) (b := b) fa.2.2.1 fa.2.2.2.1 fb.2.2.1 fb.2.2.2.1
  have e0 := fMul_some h1
  have n0 := md_near (by decide) e0.2.1
  refine ⟨⟨p, hp, ?_⟩, ⟨q, hq, ?_⟩⟩
  · have ep := fMul_some (Bool.and_eq_true _ _ ▸ all p hp).1
    have fp := (md_floor (by decide) ep.2.1).1 rfl
    rw [e0.1, ep.1]
    generalize a.v * b.v = X at *
    generalize p.1 * p.2 = C at *
    omega
  · have eq := fMul_some (Bool.and_eq_true _ _ ▸ all q hq).2
    have fq := (md_floor (by decide) eq.2.1).2 rfl
    rw [e0.1, eq.1]
    generalize a.v * b.v = X at *
    generalize q.1 * q.2 = C at *
    omega
end Go.Proofs
set_option linter.unusedSimpArgs false
set_option linter.unusedVariables false
set_option maxRecDepth 100000
namespace Go.Proofs
open Go Go.Fx Go.Mdlaw Go.Rootlaw Go.Cmplaw
end Go.Proofs
set_option linter.unusedSimpArgs false
set_option linter.unusedVariables false
set_option maxRecDepth 100000
namespace Go.Proofs
open Go Go.Fx Go.Mdlaw Go.Rootlaw Go.Cmplaw
theorem go_right (n : Int) : go_coupletref02_Right n = some (decide (okF n)) := by
  unfold go_coupletref02_Right
  by_cases h1 : n ≥ -1125899906842624
  · by_cases h2 : n ≤ 1125899906842624
    · simp [h1, h2, okF]
    · simp [h1, h2, okF]
  · have : ¬ (-1125899906842624 ≤ n) := h1
    simp [h1, this, okF]
theorem go_told (n : Int) (b : Bool) : go_coupletref02_Told n b = some (if b = true ∧ okF n then (n, true) else (0, false)) := by
  unfold go_coupletref02_Told
  rw [go_right]
  cases b
  · rfl
  · by_cases h : okF n <;> simp [h]
theorem td1 (n : Int) : td n true [n] = if okF n then (n, true) else (0, false) := by
  unfold td; simp
theorem go_fine (a : Nm) : go_coupletref03_Fine a.v a.lo a.hi a.bad = some (fine a) := by
  unfold go_coupletref03_Fine fine
  simp only [go_right, Option.bind_some]
  cases a.bad <;> cases decide (okF a.lo) <;> cases decide (okF a.hi) <;> cases decide (a.lo ≤ a.v) <;> rfl
theorem go_mul (x y m : Int) : go_coupletref02_Mul x y m = some (fMul x y m) := by
  have e : go_coupletref01_MulDiv x y 16777216 m = some ((md x y 16777216 m).1, (md x y 16777216 m).2) := rfl
  unfold go_coupletref02_Mul fMul td
  simp only [go_right, Option.bind_some, e, go_told]
  generalize md x y 16777216 m = r
  by_cases hx : okF x
  · by_cases hy : okF y
    · by_cases hr : okF r.1
      · cases hb : r.2 <;> simp [hx, hy, hr, hb]
      · simp [hx, hy, hr]
    · simp [hx, hy]
  · simp [hx]
theorem one0 (x y m : Int) : go_coupletref03_one 0 x y m = some (fAdd x y) := by
  unfold go_coupletref03_one fAdd
  rw [show ((0 : Int) == 0) = true from rfl]
  simp only [go_right, Option.bind_some, cond_true, go_told]
  by_cases hx : okF x
  · by_cases hy : okF y
    · have hw : IntKind.wrap .i64 (x + y) = x + y := by unfold okF at hx hy; exact w64 (by omega) (by omega)
      rw [hw, td1]
      by_cases h : okF (x + y) <;> simp [hx, hy, h]
    · simp [hx, hy]
  · simp [hx]
theorem one2 (x y m : Int) : go_coupletref03_one 2 x y m = some (fMul x y m) := by
  unfold go_coupletref03_one
  rw [show ((2 : Int) == 0) = false from rfl, show ((2 : Int) == 1) = false from rfl, show ((2 : Int) == 2) = true from rfl]
  simp only [go_mul, Option.bind_some, cond_true, cond_false]
end Go.Proofs
set_option linter.unusedSimpArgs false
set_option linter.unusedVariables false
set_option maxRecDepth 100000
namespace Go.Proofs
open Go Go.Fx Go.Mdlaw Go.Rootlaw Go.Cmplaw
end Go.Proofs
