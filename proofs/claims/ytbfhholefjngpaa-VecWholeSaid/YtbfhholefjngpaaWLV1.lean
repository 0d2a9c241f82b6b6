/-
  Rows of whole numbers, as fractions (plain).
-/
import Derived.Test.YtbfhholefjngpaaWGV1
import Derived.Test.YtbfhholefjngpaaWLh
set_option linter.unusedSimpArgs false
set_option linter.unusedVariables false
set_option maxRecDepth 100000
namespace Go.Proofs
open Go Go.Fx

/-! ### whole numbers as fractions -/
def sm (n : Int) : Prop := -1073741824 ≤ n ∧ n ≤ 1073741824
theorem common1 {n : Int} (h : -4611686018427387904 ≤ n ∧ n ≤ 4611686018427387904) : go_frac_common n 1 = some 1 := by
  unfold go_frac_common lp_frac_common_0
  have e : iterN (fun x : Int × Int => st_frac_common_0 x.1 x.2) 2 (max n (IntKind.wrap .i64 (0 - n)), max 1 (IntKind.wrap .i64 (0 - 1))) = some 1 := by
    have e1 : st_frac_common_0 (max n (IntKind.wrap .i64 (0 - n))) (max 1 (IntKind.wrap .i64 (0 - 1))) = some (.inl (1, 0)) := by
      rw [show max 1 (IntKind.wrap .i64 (0 - 1)) = 1 from rfl]
      unfold st_frac_common_0
      rw [Int.tmod_one]
      rfl
    rw [iterN]
    simp only [e1]
    rfl
  rw [loopN_of 2 (by decide) e, Option.bind_some]
theorem new1 {n : Int} (h : sm n) : go_frac_New n 1 = some (n, 1, false) := by
  obtain ⟨h1, h2⟩ := h
  unfold go_frac_New
  rw [common1 ⟨by omega, by omega⟩, Option.bind_some, Int.tdiv_one, w64 (a := n) (by omega) (by omega), decide_eq_false (show ¬ n > 1152921504606846976 by omega), decide_eq_false (show ¬ n < -1152921504606846976 by omega), decide_eq_false (show ¬ n > 1073741824 by omega), decide_eq_false (show ¬ n < -1073741824 by omega)]
  rfl
theorem of1 {n : Int} (h : sm n) (a b : Int) (c : Bool) : go_frac_Frac_Of a b c n = some (n, 1, false) := by
  unfold go_frac_Frac_Of
  rw [new1 h]; rfl
theorem fine1 {n : Int} (h : sm n) : go_frac_Frac_Fine n 1 false = some true := by
  unfold go_frac_Frac_Fine
  rw [new1 h, decide_eq_true (show n ≤ 1073741824 from h.2), decide_eq_true (show n ≥ -1073741824 from h.1), Option.bind_some]
  simp
theorem mul1 {a b : Int} (ha : sm a) (hb : sm b) (hc : sm (a * b)) : go_frac_Frac_Mul a 1 false b 1 false = some (a * b, 1, false) := by
  have hc' := hc
  unfold sm at hc'
  unfold go_frac_Frac_Mul go_frac_of go_frac_Frac_Mul_1
  rw [fine1 ha, fine1 hb, w64 (a := a * b) (by omega) (by omega), show IntKind.wrap .i64 (1 * 1) = 1 from rfl]
  simp only [Option.bind_some, Bool.not_true, cond_false]
  rw [new1 hc]; rfl
theorem add1 {a b : Int} (ha : sm a) (hb : sm b) (hc : sm (a + b)) : go_frac_Frac_Add a 1 false b 1 false = some (a + b, 1, false) := by
  have hc' := hc
  have ha' := ha
  have hb' := hb
  unfold sm at hc' ha' hb'
  unfold go_frac_Frac_Add
  rw [fine1 ha, fine1 hb, Int.mul_one, Int.mul_one, Int.mul_one, w64 (a := a) (by omega) (by omega), w64 (a := b) (by omega) (by omega), w64 (a := a + b) (by omega) (by omega), show IntKind.wrap .i64 1 = 1 from rfl, common1 ⟨by omega, by omega⟩]
  simp only [Option.bind_some, Bool.not_true, cond_false]
  rw [Int.tdiv_one, w64 (a := a + b) (by omega) (by omega), show IntKind.wrap .i64 (Int.tdiv 1 1) = 1 from rfl, new1 hc]
  rfl
theorem neg1 {a : Int} (ha : sm a) : go_frac_Frac_Neg a 1 false = some (-a, 1, false) := by
  have ha' := ha
  unfold sm at ha'
  have hn : sm (-a) := ⟨by omega, by omega⟩
  unfold go_frac_Frac_Neg go_frac_of_v1 go_frac_Frac_Neg_1
  rw [fine1 ha, show IntKind.wrap .i64 (0 - a) = -a by rw [w64 (by omega) (by omega)]; omega]
  simp only [Option.bind_some, Bool.not_true, cond_false]
  rw [new1 hn]; rfl
theorem sub1 {a b : Int} (ha : sm a) (hb : sm b) (hc : sm (a - b)) : go_frac_Frac_Sub a 1 false b 1 false = some (a - b, 1, false) := by
  have hn : sm (-b) := ⟨by unfold sm at hb; omega, by unfold sm at hb; omega⟩
  unfold go_frac_Frac_Sub
  rw [neg1 hb, Option.bind_some]
  dsimp only
  rw [add1 ha hn (by rw [show a + -b = a - b by omega]; exact hc), show a + -b = a - b by omega]
  rfl

/-! ### rows of them -/
theorem inc64 {k : Nat} (h : k < 9223372036854775807) : IntKind.wrap .i64 ((k : Int) + 1) = ((k + 1 : Nat) : Int) := by
  rw [w64 (by omega) (by omega)]; rfl
theorem getD_at {l : List Int} {k : Nat} (h : k < l.length) : l.getD k 0 = l[k] := by
  rw [List.getD_eq_getElem?_getD, List.getElem?_eq_getElem h]; rfl
def WP (n : Int) : PV := .agg [.int .i64 n, .int .i64 1, .bool false]
theorem getD_WP {A : List Int} {i : Nat} (h : i < A.length) : (A.map WP).getD i .nilSl = WP A[i] := by
  rw [List.getD_eq_getElem?_getD, List.getElem?_map, List.getElem?_eq_getElem h]; rfl
theorem wl (n : Int) : decide (List.length (PV.cells (WP n)) = 3) = true := rfl
theorem wo (n : Int) : Shp.ok (.agg [(.int .i64), (.int .i64), .bool]) (.agg (PV.cells (WP n))) = true := rfl
theorem q1 (n : Int) : PV.num (List.headD (PV.subs (.agg (PV.cells (WP n)))) .nilSl) = n := rfl
theorem q2 (n : Int) : PV.num (List.headD (List.tail (PV.subs (.agg (PV.cells (WP n))))) .nilSl) = 1 := rfl
theorem q3 (n : Int) : PV.tru (List.headD (List.tail (List.tail (PV.subs (.agg (PV.cells (WP n)))))) .nilSl) = false := rfl
theorem whole_loop (b3 b4 : Bool) (l : List Int) (hl : ∀ x ∈ l, sm x) (hn : l.length ≤ 1000) : ∀ (d j : Nat) (u v : Bool) (acc : List PV), j + d = l.length → acc.length + d ≤ 2000 → ∃ u' v',
    iterN (fun x => st_vec_Whole_frac_Frac_0 x.1 x.2.1 x.2.2.1 x.2.2.2.1 x.2.2.2.2.1 x.2.2.2.2.2.1 x.2.2.2.2.2.2.1 x.2.2.2.2.2.2.2.1 x.2.2.2.2.2.2.2.2.1 x.2.2.2.2.2.2.2.2.2.1 x.2.2.2.2.2.2.2.2.2.2) (d + 1) (b3, b4, l, (l.length : Int), (j : Int), u, v, acc, 0, 0, false) = some (u', v', acc ++ (l.drop j).map WP)
  | 0, j, u, v, acc, hj, hb => by
    obtain rfl : j = l.length := by omega
    have e : st_vec_Whole_frac_Frac_0 b3 b4 l (l.length : Int) (l.length : Int) u v acc 0 0 false = some (.inr (u, v, acc)) := by
      unfold st_vec_Whole_frac_Frac_0
      rw [decide_eq_false (Int.lt_irrefl _)]
      rfl
    exact ⟨u, v, by rw [iterN]; simp only [e]; rw [List.drop_length, List.map_nil, List.append_nil]⟩
  | d + 1, j, u, v, acc, hj, hb => by
    have hlt : j < l.length := by omega
    have e : st_vec_Whole_frac_Frac_0 b3 b4 l (l.length : Int) (j : Int) u v acc 0 0 false = some (.inl (b3, b4, l, (l.length : Int), ((j + 1 : Nat) : Int), (u && false), false, acc ++ [WP l[j]], 0, 0, false)) := by
      unfold st_vec_Whole_frac_Frac_0
      rw [Int.toNat_natCast, getD_at hlt, of1 (hl _ (List.getElem_mem hlt)), Option.bind_some, inc64 (by omega), decide_eq_true (show (j : Int) < ((l.length : Nat) : Int) by omega), decide_eq_true (show (0 : Int) ≤ (j : Int) by omega), decide_eq_true hlt, decide_eq_true (show (acc.length + 1) * 24 ≤ 140737488355328 by omega), decide_eq_true (show acc.length + 1 ≤ 4611686018427387904 by omega)]
      rfl
    rw [iterN]
    simp only [e]
    obtain ⟨u', v', ih⟩ := whole_loop b3 b4 l hl hn d (j + 1) (u && false) false (acc ++ [WP l[j]]) (by omega) (by rw [List.length_append]; simp; omega)
    exact ⟨u', v', by rw [ih, List.drop_eq_getElem_cons hlt, List.map_cons, List.append_assoc]; rfl⟩
theorem whole_at (b0 b1 : Bool) {l : List Int} (hl : ∀ x ∈ l, sm x) (hn : l.length ≤ 1000) : ∃ u v, go_vec_Whole_frac_Frac b0 b1 l = some (u, v, l.map WP) := by
  obtain ⟨u, v, h⟩ := whole_loop b0 b1 l hl hn l.length 0 true true [] (by omega) (by simp; omega)
  rw [List.drop_zero, List.nil_append] at h
  refine ⟨u, v, ?_⟩
  unfold go_vec_Whole_frac_Frac lp_vec_Whole_frac_Frac_0
  have h : iterN (fun x => st_vec_Whole_frac_Frac_0 x.1 x.2.1 x.2.2.1 x.2.2.2.1 x.2.2.2.2.1 x.2.2.2.2.2.1 x.2.2.2.2.2.2.1 x.2.2.2.2.2.2.2.1 x.2.2.2.2.2.2.2.2.1 x.2.2.2.2.2.2.2.2.2.1 x.2.2.2.2.2.2.2.2.2.2) (l.length + 1) (b0, b1, l, (l.length : Int), 0, true, true, [], 0, 0, false) = some (u, v, l.map WP) := h
  rw [loopN_of (l.length + 1) (by omega) h, Option.bind_some]
def tot : List Int → Int
  | [] => 0
  | x :: l => x + tot l
theorem tot_append : ∀ (a b : List Int), tot (a ++ b) = tot a + tot b
  | [], b => by simp [tot]
  | x :: a, b => by rw [List.cons_append, tot, tot, tot_append a b]; omega
def within (M : Nat) (A : List Int) : Prop := ∀ x ∈ A, -(M : Int) ≤ x ∧ x ≤ (M : Int)
theorem tot_le {M : Nat} : ∀ {A : List Int}, within M A → -((M * A.length : Nat) : Int) ≤ tot A ∧ tot A ≤ ((M * A.length : Nat) : Int)
  | [], _ => by simp [tot]
  | x :: A, h => by
    have h1 := h x (List.mem_cons_self ..)
    have h2 := tot_le (A := A) fun y hy => h y (List.mem_cons_of_mem _ hy)
    rw [tot, List.length_cons, Nat.mul_succ]
    omega
theorem sum_loop (b4 b5 : Bool) (n9 n10 : Int) (b11 : Bool) (M : Nat) (A : List Int) (hA : within M A) (hM : M * A.length ≤ 1073741824) (hn : A.length ≤ 1000) : ∀ (d j : Nat) (s : Int), j + d = A.length → -((M * j : Nat) : Int) ≤ s → s ≤ ((M * j : Nat) : Int) →
    iterN (fun x => st_vec_Sum_frac_Frac_0 x.1 x.2.1 x.2.2.1 x.2.2.2.1 x.2.2.2.2.1 x.2.2.2.2.2.1 x.2.2.2.2.2.2.1 x.2.2.2.2.2.2.2.1 x.2.2.2.2.2.2.2.2.1 x.2.2.2.2.2.2.2.2.2.1 x.2.2.2.2.2.2.2.2.2.2) (d + 1) (b4, b5, A.map WP, (A.length : Int), (j : Int), n9, n10, b11, s, 1, false) = some (n9, n10, b11, s + tot (A.drop j), 1, false)
  | 0, j, s, hj, h1, h2 => by
    obtain rfl : j = A.length := by omega
    have e : st_vec_Sum_frac_Frac_0 b4 b5 (A.map WP) (A.length : Int) (A.length : Int) n9 n10 b11 s 1 false = some (.inr (n9, n10, b11, s, 1, false)) := by
      unfold st_vec_Sum_frac_Frac_0
      rw [decide_eq_false (Int.lt_irrefl _)]
      rfl
    rw [iterN]; simp only [e]
    rw [List.drop_length, tot, Int.add_zero]
  | d + 1, j, s, hj, h1, h2 => by
    have hlt : j < A.length := by omega
    have hx := hA _ (List.getElem_mem hlt)
    have m1 : M * (j + 1) = M * j + M := Nat.mul_succ M j
    have m2 : M * (j + 1) ≤ M * A.length := Nat.mul_le_mul_left M (by omega)
    have e : st_vec_Sum_frac_Frac_0 b4 b5 (A.map WP) (A.length : Int) (j : Int) n9 n10 b11 s 1 false = some (.inl (b4, b5, A.map WP, (A.length : Int), ((j + 1 : Nat) : Int), n9, n10, b11, s + A[j], 1, false)) := by
      unfold st_vec_Sum_frac_Frac_0
      rw [Int.toNat_natCast, getD_WP hlt, List.length_map]
      simp only [wl, wo, q1, q2, q3]
      rw [add1 (a := s) (b := A[j]) ⟨by omega, by omega⟩ ⟨by omega, by omega⟩ ⟨by omega, by omega⟩, Option.bind_some, inc64 (by omega), decide_eq_true (show (j : Int) < ((A.length : Nat) : Int) by omega), decide_eq_true (show (0 : Int) ≤ (j : Int) by omega), decide_eq_true hlt]
      rfl
    rw [iterN]
    simp only [e]
    rw [sum_loop b4 b5 n9 n10 b11 M A hA hM hn d (j + 1) (s + A[j]) (by omega) (by omega) (by omega), List.drop_eq_getElem_cons hlt, tot, Int.add_assoc]
theorem sum_at (b0 b1 : Bool) (M : Nat) {A : List Int} (hA : within M A) (hM : M * A.length ≤ 1073741824) (hn : A.length ≤ 1000) : go_vec_Sum_frac_Frac b0 b1 (A.map WP) = some (tot A, 1, false) := by
  have h := sum_loop b0 b1 0 0 false M A hA hM hn A.length 0 0 (by omega) (by omega) (by omega)
  rw [List.drop_zero, Int.zero_add] at h
  unfold go_vec_Sum_frac_Frac lp_vec_Sum_frac_Frac_0
  have h : iterN (fun x => st_vec_Sum_frac_Frac_0 x.1 x.2.1 x.2.2.1 x.2.2.2.1 x.2.2.2.2.1 x.2.2.2.2.2.1 x.2.2.2.2.2.2.1 x.2.2.2.2.2.2.2.1 x.2.2.2.2.2.2.2.2.1 x.2.2.2.2.2.2.2.2.2.1 x.2.2.2.2.2.2.2.2.2.2) (A.length + 1) (b0, b1, A.map WP, (A.length : Int), 0, 0, 0, false, 0, 1, false) = some (0, 0, false, tot A, 1, false) := h
  rw [of1 ⟨by decide, by decide⟩, Option.bind_some, List.length_map]
  dsimp only
  rw [loopN_of (A.length + 1) (by omega) h, Option.bind_some]
theorem ok_WP (A : List Int) : (A.map WP).all pFok = true := by
  rw [List.all_eq_true]
  intro x hx
  obtain ⟨n, _, rfl⟩ := List.mem_map.1 hx
  rfl
theorem it_at (n1 x1 : Bool) (A : List Int) (n2 x2 : Bool) (B : List Int) (hn : A.length ≤ 1000) : it_pairspF n1 x1 (A.map WP) n2 x2 (B.map WP) = some ((A.zip B).map fun q => (q.1, 1, false, q.2, 1, false)) := by
  unfold it_pairspF
  rw [ok_WP, ok_WP, List.length_map, decide_eq_true (show A.length ≤ 1000000000 by omega), List.map_map, List.map_map]
  simp only [Bool.true_and, cond_true]
  congr 1
  rw [show (pFof ∘ WP) = fun n => (n, 1, false) from rfl]
  induction A generalizing B with
  | nil => rfl
  | cons a A ih =>
    cases B with
    | nil => rfl
    | cons b B =>
      simp only [List.map_cons, List.zip_cons_cons]
      rw [ih _ (by simp at hn; omega)]
theorem ofDot_fold (b7 b8 : Bool) (es9 : List PV) (b10 b11 : Bool) (es12 : List PV) : ∀ (L : List (Int × Int)) (u v : Bool) (acc : List PV), (∀ q ∈ L, sm q.1 ∧ sm q.2 ∧ sm (q.1 * q.2)) → acc.length + L.length ≤ 2000 → ∃ u' v',
    foldS (X := (Bool × Bool × List PV × Bool × Bool × List PV × Bool × Bool × List PV)) (Y := Unit) (fun x i => st_vec_of_frac_Frac_0 x.1 x.2.1 x.2.2.1 x.2.2.2.1 x.2.2.2.2.1 x.2.2.2.2.2.1 x.2.2.2.2.2.2.1 x.2.2.2.2.2.2.2.1 x.2.2.2.2.2.2.2.2 i) (L.map fun q => (q.1, 1, false, q.2, 1, false)) (b7, b8, es9, b10, b11, es12, u, v, acc) =
      some (.inl (b7, b8, es9, b10, b11, es12, u', v', acc ++ L.map fun q => WP (q.1 * q.2)))
  | [], u, v, acc, _, _ => ⟨u, v, by rw [List.map_nil, List.map_nil, foldS, List.append_nil]⟩
  | q :: L, u, v, acc, hq, hb => by
    obtain ⟨h1, h2, h3⟩ := hq q (List.mem_cons_self ..)
    have e : st_vec_of_frac_Frac_0 b7 b8 es9 b10 b11 es12 u v acc (q.1, 1, false, q.2, 1, false) = some (.inl (b7, b8, es9, b10, b11, es12, (u && false), false, acc ++ [WP (q.1 * q.2)])) := by
      unfold st_vec_of_frac_Frac_0 go_vec_Dot_frac_Frac_1
      dsimp only
      rw [mul1 h1 h2 h3, Option.bind_some, Option.bind_some, decide_eq_true (show (acc.length + 1) * 24 ≤ 140737488355328 by simp at hb; omega), decide_eq_true (show acc.length + 1 ≤ 4611686018427387904 by simp at hb; omega)]
      rfl
    obtain ⟨u', v', ih⟩ := ofDot_fold b7 b8 es9 b10 b11 es12 L (u && false) false (acc ++ [WP (q.1 * q.2)]) (fun q hq' => hq q (List.mem_cons_of_mem _ hq')) (by rw [List.length_append]; simp at hb ⊢; omega)
    refine ⟨u', v', ?_⟩
    rw [List.map_cons, foldS]
    dsimp only
    rw [e]
    dsimp only
    rw [ih, List.append_assoc]
    rfl
theorem ofDot_at (n1 x1 : Bool) (A : List Int) (n2 x2 : Bool) (B : List Int) (hn : A.length ≤ 1000) (hq : ∀ q ∈ A.zip B, sm q.1 ∧ sm q.2 ∧ sm (q.1 * q.2)) : ∃ u v, go_vec_of_frac_Frac n1 x1 (A.map WP) n2 x2 (B.map WP) = some (u, v, ((A.zip B).map fun q => q.1 * q.2).map WP) := by
  obtain ⟨u, v, h⟩ := ofDot_fold n1 x1 (A.map WP) n2 x2 (B.map WP) (A.zip B) true true [] hq (by simp only [List.length_nil, List.length_zip]; omega)
  refine ⟨u, v, ?_⟩
  unfold go_vec_of_frac_Frac go_vec_Pairs_frac_Frac lp_vec_of_frac_Frac_0 it_vec_of_frac_Frac_0
  rw [Option.bind_some]
  dsimp only
  rw [it_at n1 x1 A n2 x2 B hn, Option.bind_some, h, Option.bind_some, List.map_map]
  rfl
theorem ofAdd_fold (b7 b8 : Bool) (es9 : List PV) (b10 b11 : Bool) (es12 : List PV) : ∀ (L : List (Int × Int)) (u v : Bool) (acc : List PV), (∀ q ∈ L, sm q.1 ∧ sm q.2 ∧ sm (q.1 + q.2)) → acc.length + L.length ≤ 2000 → ∃ u' v',
    foldS (X := (Bool × Bool × List PV × Bool × Bool × List PV × Bool × Bool × List PV)) (Y := Unit) (fun x i => st_vec_of_frac_Frac_v1_0 x.1 x.2.1 x.2.2.1 x.2.2.2.1 x.2.2.2.2.1 x.2.2.2.2.2.1 x.2.2.2.2.2.2.1 x.2.2.2.2.2.2.2.1 x.2.2.2.2.2.2.2.2 i) (L.map fun q => (q.1, 1, false, q.2, 1, false)) (b7, b8, es9, b10, b11, es12, u, v, acc) =
      some (.inl (b7, b8, es9, b10, b11, es12, u', v', acc ++ L.map fun q => WP (q.1 + q.2)))
  | [], u, v, acc, _, _ => ⟨u, v, by rw [List.map_nil, List.map_nil, foldS, List.append_nil]⟩
  | q :: L, u, v, acc, hq, hb => by
    obtain ⟨h1, h2, h3⟩ := hq q (List.mem_cons_self ..)
    have e : st_vec_of_frac_Frac_v1_0 b7 b8 es9 b10 b11 es12 u v acc (q.1, 1, false, q.2, 1, false) = some (.inl (b7, b8, es9, b10, b11, es12, (u && false), false, acc ++ [WP (q.1 + q.2)])) := by
      unfold st_vec_of_frac_Frac_v1_0 go_vec_Add_frac_Frac_1
      dsimp only
      rw [add1 h1 h2 h3, Option.bind_some, Option.bind_some, decide_eq_true (show (acc.length + 1) * 24 ≤ 140737488355328 by simp at hb; omega), decide_eq_true (show acc.length + 1 ≤ 4611686018427387904 by simp at hb; omega)]
      rfl
    obtain ⟨u', v', ih⟩ := ofAdd_fold b7 b8 es9 b10 b11 es12 L (u && false) false (acc ++ [WP (q.1 + q.2)]) (fun q hq' => hq q (List.mem_cons_of_mem _ hq')) (by rw [List.length_append]; simp at hb ⊢; omega)
    refine ⟨u', v', ?_⟩
    rw [List.map_cons, foldS]
    dsimp only
    rw [e]
    dsimp only
    rw [ih, List.append_assoc]
    rfl
theorem ofAdd_at (n1 x1 : Bool) (A : List Int) (n2 x2 : Bool) (B : List Int) (hn : A.length ≤ 1000) (hq : ∀ q ∈ A.zip B, sm q.1 ∧ sm q.2 ∧ sm (q.1 + q.2)) : ∃ u v, go_vec_of_frac_Frac_v1 n1 x1 (A.map WP) n2 x2 (B.map WP) = some (u, v, ((A.zip B).map fun q => q.1 + q.2).map WP) := by
  obtain ⟨u, v, h⟩ := ofAdd_fold n1 x1 (A.map WP) n2 x2 (B.map WP) (A.zip B) true true [] hq (by simp only [List.length_nil, List.length_zip]; omega)
  refine ⟨u, v, ?_⟩
  unfold go_vec_of_frac_Frac_v1 go_vec_Pairs_frac_Frac lp_vec_of_frac_Frac_v1_0 it_vec_of_frac_Frac_v1_0
  rw [Option.bind_some]
  dsimp only
  rw [it_at n1 x1 A n2 x2 B hn, Option.bind_some, h, Option.bind_some, List.map_map]
  rfl
theorem ofSub_fold (b7 b8 : Bool) (es9 : List PV) (b10 b11 : Bool) (es12 : List PV) : ∀ (L : List (Int × Int)) (u v : Bool) (acc : List PV), (∀ q ∈ L, sm q.1 ∧ sm q.2 ∧ sm (q.1 - q.2)) → acc.length + L.length ≤ 2000 → ∃ u' v',
    foldS (X := (Bool × Bool × List PV × Bool × Bool × List PV × Bool × Bool × List PV)) (Y := Unit) (fun x i => st_vec_of_frac_Frac_v2_0 x.1 x.2.1 x.2.2.1 x.2.2.2.1 x.2.2.2.2.1 x.2.2.2.2.2.1 x.2.2.2.2.2.2.1 x.2.2.2.2.2.2.2.1 x.2.2.2.2.2.2.2.2 i) (L.map fun q => (q.1, 1, false, q.2, 1, false)) (b7, b8, es9, b10, b11, es12, u, v, acc) =
      some (.inl (b7, b8, es9, b10, b11, es12, u', v', acc ++ L.map fun q => WP (q.1 - q.2)))
  | [], u, v, acc, _, _ => ⟨u, v, by rw [List.map_nil, List.map_nil, foldS, List.append_nil]⟩
  | q :: L, u, v, acc, hq, hb => by
    obtain ⟨h1, h2, h3⟩ := hq q (List.mem_cons_self ..)
    have e : st_vec_of_frac_Frac_v2_0 b7 b8 es9 b10 b11 es12 u v acc (q.1, 1, false, q.2, 1, false) = some (.inl (b7, b8, es9, b10, b11, es12, (u && false), false, acc ++ [WP (q.1 - q.2)])) := by
      unfold st_vec_of_frac_Frac_v2_0 go_vec_Sub_frac_Frac_1
      dsimp only
      rw [sub1 h1 h2 h3, Option.bind_some, Option.bind_some, decide_eq_true (show (acc.length + 1) * 24 ≤ 140737488355328 by simp at hb; omega), decide_eq_true (show acc.length + 1 ≤ 4611686018427387904 by simp at hb; omega)]
      rfl
    obtain ⟨u', v', ih⟩ := ofSub_fold b7 b8 es9 b10 b11 es12 L (u && false) false (acc ++ [WP (q.1 - q.2)]) (fun q hq' => hq q (List.mem_cons_of_mem _ hq')) (by rw [List.length_append]; simp at hb ⊢; omega)
    refine ⟨u', v', ?_⟩
    rw [List.map_cons, foldS]
    dsimp only
    rw [e]
    dsimp only
    rw [ih, List.append_assoc]
    rfl
theorem ofSub_at (n1 x1 : Bool) (A : List Int) (n2 x2 : Bool) (B : List Int) (hn : A.length ≤ 1000) (hq : ∀ q ∈ A.zip B, sm q.1 ∧ sm q.2 ∧ sm (q.1 - q.2)) : ∃ u v, go_vec_of_frac_Frac_v2 n1 x1 (A.map WP) n2 x2 (B.map WP) = some (u, v, ((A.zip B).map fun q => q.1 - q.2).map WP) := by
  obtain ⟨u, v, h⟩ := ofSub_fold n1 x1 (A.map WP) n2 x2 (B.map WP) (A.zip B) true true [] hq (by simp only [List.length_nil, List.length_zip]; omega)
  refine ⟨u, v, ?_⟩
  unfold go_vec_of_frac_Frac_v2 go_vec_Pairs_frac_Frac lp_vec_of_frac_Frac_v2_0 it_vec_of_frac_Frac_v2_0
  rw [Option.bind_some]
  dsimp only
  rw [it_at n1 x1 A n2 x2 B hn, Option.bind_some, h, Option.bind_some, List.map_map]
  rfl
/-! ### dots, sums, products -/
def mulL (A B : List Int) : List Int := (A.zip B).map fun q => q.1 * q.2
def addL (A B : List Int) : List Int := (A.zip B).map fun q => q.1 + q.2
def subL (A B : List Int) : List Int := (A.zip B).map fun q => q.1 - q.2
def dotL (A B : List Int) : Int := tot (mulL A B)
theorem mul_b {a b : Int} {M N : Nat} (h1 : -(M : Int) ≤ a ∧ a ≤ (M : Int)) (h2 : -(N : Int) ≤ b ∧ b ≤ (N : Int)) : -((M * N : Nat) : Int) ≤ a * b ∧ a * b ≤ ((M * N : Nat) : Int) := by
  have h := Int.natAbs_mul a b
  have h3 : a.natAbs * b.natAbs ≤ M * N := Nat.mul_le_mul (by omega) (by omega)
  omega
theorem win_mul {M N : Nat} {A B : List Int} (hA : within M A) (hB : within N B) : within (M * N) (mulL A B) := fun x hx => by
  obtain ⟨q, hq, rfl⟩ := List.mem_map.1 hx
  obtain ⟨h1, h2⟩ := List.of_mem_zip hq
  exact mul_b (hA _ h1) (hB _ h2)
theorem win_add {M N : Nat} {A B : List Int} (hA : within M A) (hB : within N B) : within (M + N) (addL A B) := fun x hx => by
  obtain ⟨q, hq, rfl⟩ := List.mem_map.1 hx
  obtain ⟨h1, h2⟩ := List.of_mem_zip hq
  have := hA _ h1
  have := hB _ h2
  omega
theorem win_sub {M N : Nat} {A B : List Int} (hA : within M A) (hB : within N B) : within (M + N) (subL A B) := fun x hx => by
  obtain ⟨q, hq, rfl⟩ := List.mem_map.1 hx
  obtain ⟨h1, h2⟩ := List.of_mem_zip hq
  have := hA _ h1
  have := hB _ h2
  omega
theorem sm_of {M : Nat} (hM : M ≤ 1073741824) {x : Int} (h : -(M : Int) ≤ x ∧ x ≤ (M : Int)) : sm x := ⟨by omega, by omega⟩
theorem len_zip (A B : List Int) (f : Int × Int → Int) : ((A.zip B).map f).length = min A.length B.length := by rw [List.length_map, List.length_zip]
theorem dot_at (n1 x1 : Bool) {A : List Int} (n2 x2 : Bool) {B : List Int} {M N : Nat} (hA : within M A) (hB : within N B) (hM : M ≤ 1073741824) (hN : N ≤ 1073741824) (hMN : M * N * A.length ≤ 1073741824) (hMN1 : M * N ≤ 1073741824) (hn : A.length ≤ 1000) :
    go_vec_Dot_frac_Frac n1 x1 (A.map WP) n2 x2 (B.map WP) = some (dotL A B, 1, false) := by
  obtain ⟨u, v, h⟩ := ofDot_at n1 x1 A n2 x2 B hn (fun q hq => by
    obtain ⟨h1, h2⟩ := List.of_mem_zip hq
    exact ⟨sm_of hM (hA _ h1), sm_of hN (hB _ h2), sm_of hMN1 (mul_b (hA _ h1) (hB _ h2))⟩)
  have hl : (mulL A B).length ≤ A.length := by unfold mulL; rw [len_zip]; exact Nat.min_le_left _ _
  unfold go_vec_Dot_frac_Frac
  rw [h, Option.bind_some]
  have h2 := sum_at u v (M * N) (win_mul hA hB) (Nat.le_trans (Nat.mul_le_mul_left _ hl) hMN) (by omega)
  have h2 : go_vec_Sum_frac_Frac u v (((A.zip B).map fun q => q.1 * q.2).map WP) = some (dotL A B, 1, false) := h2
  rw [h2]
  rfl
theorem add_at (n1 x1 : Bool) {A : List Int} (n2 x2 : Bool) {B : List Int} {M N : Nat} (hA : within M A) (hB : within N B) (hMN : M + N ≤ 1073741824) (hn : A.length ≤ 1000) : ∃ u v, go_vec_Add_frac_Frac n1 x1 (A.map WP) n2 x2 (B.map WP) = some (u, v, (addL A B).map WP) := by
  obtain ⟨u, v, h⟩ := ofAdd_at n1 x1 A n2 x2 B hn (fun q hq => by
    obtain ⟨h1, h2⟩ := List.of_mem_zip hq
    have h1 := hA _ h1
    have h2 := hB _ h2
    exact ⟨⟨by omega, by omega⟩, ⟨by omega, by omega⟩, ⟨by omega, by omega⟩⟩)
  refine ⟨u, v, ?_⟩
  unfold go_vec_Add_frac_Frac
  rw [h]; rfl
theorem sub_at (n1 x1 : Bool) {A : List Int} (n2 x2 : Bool) {B : List Int} {M N : Nat} (hA : within M A) (hB : within N B) (hMN : M + N ≤ 1073741824) (hn : A.length ≤ 1000) : ∃ u v, go_vec_Sub_frac_Frac n1 x1 (A.map WP) n2 x2 (B.map WP) = some (u, v, (subL A B).map WP) := by
  obtain ⟨u, v, h⟩ := ofSub_at n1 x1 A n2 x2 B hn (fun q hq => by
    obtain ⟨h1, h2⟩ := List.of_mem_zip hq
    have h1 := hA _ h1
    have h2 := hB _ h2
    exact ⟨⟨by omega, by omega⟩, ⟨by omega, by omega⟩, ⟨by omega, by omega⟩⟩)
  refine ⟨u, v, ?_⟩
  unfold go_vec_Sub_frac_Frac
  rw [h]; rfl
theorem scale_loop (b6 b7 : Bool) (A : List Int) (by' : Int) (hb : sm by') (hA : ∀ x ∈ A, sm x ∧ sm (x * by')) (hn : A.length ≤ 1000) : ∀ (d j : Nat) (u v : Bool) (acc : List PV), j + d = A.length → acc.length + d ≤ 2000 → ∃ u' v',
    iterN (fun x => st_vec_Scale_frac_Frac_0 x.1 x.2.1 x.2.2.1 x.2.2.2.1 x.2.2.2.2.1 x.2.2.2.2.2.1 x.2.2.2.2.2.2.1 x.2.2.2.2.2.2.2.1 x.2.2.2.2.2.2.2.2.1 x.2.2.2.2.2.2.2.2.2.1 x.2.2.2.2.2.2.2.2.2.2) (d + 1) (b6, b7, A.map WP, (A.length : Int), (j : Int), by', 1, false, u, v, acc) = some (u', v', acc ++ ((A.drop j).map fun x => WP (x * by')))
  | 0, j, u, v, acc, hj, hb' => by
    obtain rfl : j = A.length := by omega
    have e : st_vec_Scale_frac_Frac_0 b6 b7 (A.map WP) (A.length : Int) (A.length : Int) by' 1 false u v acc = some (.inr (u, v, acc)) := by
      unfold st_vec_Scale_frac_Frac_0
      rw [decide_eq_false (Int.lt_irrefl _)]
      rfl
    exact ⟨u, v, by rw [iterN]; simp only [e]; rw [List.drop_length, List.map_nil, List.append_nil]⟩
  | d + 1, j, u, v, acc, hj, hb' => by
    have hlt : j < A.length := by omega
    obtain ⟨h1, h2⟩ := hA _ (List.getElem_mem hlt)
    have e : st_vec_Scale_frac_Frac_0 b6 b7 (A.map WP) (A.length : Int) (j : Int) by' 1 false u v acc = some (.inl (b6, b7, A.map WP, (A.length : Int), ((j + 1 : Nat) : Int), by', 1, false, (u && false), false, acc ++ [WP (A[j] * by')])) := by
      unfold st_vec_Scale_frac_Frac_0
      rw [Int.toNat_natCast, getD_WP hlt, List.length_map]
      simp only [wl, wo, q1, q2, q3]
      rw [mul1 h1 hb h2, Option.bind_some, inc64 (by omega), decide_eq_true (show (j : Int) < ((A.length : Nat) : Int) by omega), decide_eq_true (show (0 : Int) ≤ (j : Int) by omega), decide_eq_true hlt, decide_eq_true (show (acc.length + 1) * 24 ≤ 140737488355328 by omega), decide_eq_true (show acc.length + 1 ≤ 4611686018427387904 by omega)]
      rfl
    rw [iterN]
    simp only [e]
    obtain ⟨u', v', ih⟩ := scale_loop b6 b7 A by' hb hA hn d (j + 1) (u && false) false (acc ++ [WP (A[j] * by')]) (by omega) (by rw [List.length_append]; simp; omega)
    exact ⟨u', v', by rw [ih, List.drop_eq_getElem_cons hlt, List.map_cons, List.append_assoc]; rfl⟩
def sclL (A : List Int) (n : Int) : List Int := A.map fun x => x * n
theorem scale_at (b0 b1 : Bool) {A : List Int} {n : Int} {M N : Nat} (hA : within M A) (hb : -(N : Int) ≤ n ∧ n ≤ (N : Int)) (hM : M ≤ 1073741824) (hN : N ≤ 1073741824) (hMN : M * N ≤ 1073741824) (hn : A.length ≤ 1000) : ∃ u v, go_vec_Scale_frac_Frac b0 b1 (A.map WP) n 1 false = some (u, v, (sclL A n).map WP) := by
  obtain ⟨u, v, h⟩ := scale_loop b0 b1 A n (sm_of hN hb) (fun x hx => ⟨sm_of hM (hA x hx), sm_of hMN (mul_b (hA x hx) hb)⟩) hn A.length 0 true true [] (by omega) (by simp; omega)
  rw [List.drop_zero, List.nil_append] at h
  refine ⟨u, v, ?_⟩
  unfold go_vec_Scale_frac_Frac lp_vec_Scale_frac_Frac_0
  rw [List.length_map]
  have h : iterN (fun x => st_vec_Scale_frac_Frac_0 x.1 x.2.1 x.2.2.1 x.2.2.2.1 x.2.2.2.2.1 x.2.2.2.2.2.1 x.2.2.2.2.2.2.1 x.2.2.2.2.2.2.2.1 x.2.2.2.2.2.2.2.2.1 x.2.2.2.2.2.2.2.2.2.1 x.2.2.2.2.2.2.2.2.2.2) (A.length + 1) (b0, b1, A.map WP, (A.length : Int), 0, n, 1, false, true, true, []) = some (u, v, A.map fun x => WP (x * n)) := h
  rw [loopN_of (A.length + 1) (by omega) h, Option.bind_some]
  unfold sclL
  rw [List.map_map]
  rfl
theorem win_scl {M N : Nat} {A : List Int} {n : Int} (hA : within M A) (hb : -(N : Int) ≤ n ∧ n ≤ (N : Int)) : within (M * N) (sclL A n) := fun x hx => by
  obtain ⟨y, hy, rfl⟩ := List.mem_map.1 hx
  exact mul_b (hA y hy) hb

/-! ### few -/
def fewP (l : List Int) : Prop := l.length ≤ 20 ∧ within 1000 l
theorem few_loop (b3 b4 : Bool) (l : List Int) : ∀ (d j : Nat), j + d = min l.length 21 → ∃ y,
    iterN (fun x => st_coupletlaw05_Few_0 x.1 x.2.1 x.2.2.1 x.2.2.2) (d + 1) (b3, b4, l, (j : Int)) = some y ∧ (y = .inr false ∨ (y = .inl (b3, b4, l) ∧ ∀ k (h : k < l.length), j ≤ k → k < 21 → -1000 ≤ l[k] ∧ l[k] ≤ 1000))
  | 0, j, hj => by
    have e : st_coupletlaw05_Few_0 b3 b4 l (j : Int) = some (.inr (.inl (b3, b4, l))) := by
      unfold st_coupletlaw05_Few_0
      by_cases h : j < l.length
      · rw [decide_eq_true (show (j : Int) < ((l.length : Nat) : Int) by omega), decide_eq_false (show ¬ (j : Int) ≤ 20 by omega)]; rfl
      · rw [decide_eq_false (show ¬ (j : Int) < ((l.length : Nat) : Int) by omega)]; rfl
    exact ⟨_, by rw [iterN]; simp only [e], .inr ⟨rfl, fun k h h1 h2 => by omega⟩⟩
  | d + 1, j, hj => by
    have hlt : j < l.length := by omega
    have e : st_coupletlaw05_Few_0 b3 b4 l (j : Int) = if -1000 ≤ l[j] ∧ l[j] ≤ 1000 then some (.inl (b3, b4, l, ((j + 1 : Nat) : Int))) else some (.inr (.inr false)) := by
      unfold st_coupletlaw05_Few_0
      rw [Int.toNat_natCast, getD_at hlt, decide_eq_true (show (j : Int) < ((l.length : Nat) : Int) by omega), decide_eq_true (show (j : Int) ≤ 20 by omega), decide_eq_true (show (0 : Int) ≤ (j : Int) by omega), decide_eq_true hlt, w64 (by omega) (by omega)]
      by_cases h1 : l[j] < -1000
      · rw [if_neg (by omega), decide_eq_true h1]; rfl
      rw [decide_eq_false h1]
      by_cases h2 : l[j] > 1000
      · rw [if_neg (by omega), decide_eq_true h2]; rfl
      rw [if_pos ⟨by omega, by omega⟩, decide_eq_false h2]; rfl
    rw [iterN]
    simp only [e]
    by_cases h : -1000 ≤ l[j] ∧ l[j] ≤ 1000
    · rw [if_pos h]
      obtain ⟨y, h1, h2⟩ := few_loop b3 b4 l d (j + 1) (by omega)
      refine ⟨y, h1, h2.imp id fun h3 => ⟨h3.1, fun k hk h4 h5 => ?_⟩⟩
      by_cases hjk : j = k
      · subst hjk; exact h
      · exact h3.2 k hk (by omega) h5
    · rw [if_neg h]
      exact ⟨_, rfl, .inl rfl⟩
theorem few_at (b0 b1 : Bool) (l : List Int) : ∃ r, go_coupletlaw05_Few b0 b1 l = some r ∧ (r = true → fewP l) := by
  obtain ⟨y, h1, h2⟩ := few_loop b0 b1 l (min l.length 21) 0 (by omega)
  unfold go_coupletlaw05_Few lp_coupletlaw05_Few_0
  have h1 : iterN (fun x => st_coupletlaw05_Few_0 x.1 x.2.1 x.2.2.1 x.2.2.2) (min l.length 21 + 1) (b0, b1, l, 0) = some y := h1
  rw [loopN_of (min l.length 21 + 1) (by omega) h1, Option.bind_some]
  rcases h2 with rfl | ⟨rfl, h2⟩
  · exact ⟨false, rfl, fun h => by cases h⟩
  · refine ⟨_, rfl, fun h => ?_⟩
    have hl : l.length ≤ 20 := by have := of_decide_eq_true h; simp only at this; omega
    refine ⟨hl, fun x hx => ?_⟩
    obtain ⟨k, hk, rfl⟩ := List.getElem_of_mem hx
    exact h2 k hk (Nat.zero_le _) (by omega)
theorem awake05 : go_coupletlaw05_awake = some true := by
  have w12 : within 10 [1, 2] := by unfold within; decide
  have w34 : within 10 [3, 4] := by unfold within; decide
  obtain ⟨u1, v1, e1⟩ := whole_at false true (l := [1, 2]) (fun x hx => sm_of (M := 10) (by decide) (w12 x hx)) (by decide)
  obtain ⟨u2, v2, e2⟩ := whole_at false true (l := [3, 4]) (fun x hx => sm_of (M := 10) (by decide) (w34 x hx)) (by decide)
  obtain ⟨u3, v3, e3⟩ := add_at u1 v1 u2 v2 w12 w34 (by decide) (by decide)
  unfold go_coupletlaw05_awake
  rw [e1, Option.bind_some, e2, Option.bind_some]
  dsimp only
  rw [dot_at u1 v1 u2 v2 w12 w34 (by decide) (by decide) (by decide) (by decide) (by decide), Option.bind_some, new1 ⟨by decide, by decide⟩, Option.bind_some, e3, sum_at u1 v1 10 w12 (by decide) (by decide), new1 ⟨by decide, by decide⟩]
  rfl
end Go.Proofs
