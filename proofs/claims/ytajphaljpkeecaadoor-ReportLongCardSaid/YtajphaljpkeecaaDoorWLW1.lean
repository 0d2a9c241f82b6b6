/-
  Records: bytes put behind others, taken from others; which may be; their bytes (plain).
-/
import Derived.Test.YtajphaljpkeecaaDoorWGC18
import Derived.Test.YtajphaljpkeecaaDoorWLW0
set_option linter.unusedSimpArgs false
set_option linter.unusedVariables false
set_option maxRecDepth 100000
namespace Go.Proofs
open Go Go.Fx

theorem pb_eq (n : Int) (k : Nat) : pb n k = (((u64 n / 256 ^ k % 256 : Nat)) : Int) := by
  unfold pb
  rw [wrap_u64', show (2 : Int) ^ (8 * k) = ((256 ^ k : Nat) : Int) by rw [show (256 : Nat) = 2 ^ 8 from rfl, ← Nat.pow_mul, Int.natCast_pow]; rfl, ← Int.natCast_ediv, wrap_u8']
theorem put_list (n : Int) (w : Nat) : (List.range w).map (pb n) = le w (u64 n) := by
  rw [le_range]
  exact List.map_congr_left fun k _ => pb_eq n k
theorem rput_at (e : Bool) (b : List Int) (n : Int) (w : Nat) (hw : 0 < w ∧ w ≤ 8) (hb : b.length ≤ 1000000) : go_report_put false e b n (w : Int) = some (false, false, b ++ le w (u64 n)) := by
  unfold go_report_put
  rw [if_pos ⟨by omega, by omega, hb⟩, Int.toNat_natCast, put_list]
  rfl

/-! ### the document's bytes -/
theorem rbytes_loop : ∀ (d k N w : Nat) (b c : Bool) (l : List Int), k + d = w → w ≤ 8 → N < 18446744073709551616 → l.length + d ≤ 1000 → ∃ b' c',
    iterN (fun x => st_coupletref18_bytes_0 x.1 x.2.1 x.2.2.1 x.2.2.2.1 x.2.2.2.2.1 x.2.2.2.2.2) (d + 1) ((N : Int), (w : Int), (k : Int), b, c, l) = some (b', c', l ++ le d N)
  | 0, k, N, w, b, c, l, hk, hw, hN, hl => by
    obtain rfl : k = w := by omega
    have e : st_coupletref18_bytes_0 (N : Int) (k : Int) (k : Int) b c l = some (.inr (b, c, l)) := by
      unfold st_coupletref18_bytes_0
      rw [decide_eq_false (Int.lt_irrefl _)]
      rfl
    exact ⟨b, c, by simp only [iterN, e, le, List.append_nil]⟩
  | d + 1, k, N, w, b, c, l, hk, hw, hN, hl => by
    have e1 : IntKind.wrap .u64 (Int.tdiv (N : Int) 256) = ((N / 256 : Nat) : Int) := by
      rw [Int.tdiv_eq_ediv_of_nonneg (by omega), show (N : Int) / 256 = ((N / 256 : Nat) : Int) by omega]
      exact wrap_u64_nat (by omega)
    have e2 : IntKind.wrap .u8 (Int.tmod (N : Int) 256) = ((N % 256 : Nat) : Int) := by
      rw [Int.tmod_eq_emod_of_nonneg (by omega), show (N : Int) % 256 = ((N % 256 : Nat) : Int) by omega, wrap_u8']
      omega
    have e : st_coupletref18_bytes_0 (N : Int) (w : Int) (k : Int) b c l = some (.inl (((N / 256 : Nat) : Int), (w : Int), ((k + 1 : Nat) : Int), (b && false), false, l ++ [((N % 256 : Nat) : Int)])) := by
      unfold st_coupletref18_bytes_0
      rw [decide_eq_true (by omega), decide_eq_true (by omega), decide_eq_true (by omega), e1, e2, inc64 (by omega)]
      rfl
    obtain ⟨b', c', ih⟩ := rbytes_loop d (k + 1) (N / 256) w (b && false) false (l ++ [((N % 256 : Nat) : Int)]) (by omega) hw (by omega) (by simp only [List.length_append, List.length_cons, List.length_nil]; omega)
    refine ⟨b', c', ?_⟩
    rw [iterN]
    simp only [e]
    rw [ih, le, List.append_assoc]
    rfl
theorem rbytes_at (N w : Nat) (hw : w ≤ 8) (hN : N < 18446744073709551616) : ∃ b c, go_coupletref18_bytes (N : Int) (w : Int) = some (b, c, le w N) := by
  obtain ⟨b, c, h⟩ := rbytes_loop w 0 N w true true [] (by omega) hw hN (by simp only [List.length_nil]; omega)
  refine ⟨b, c, ?_⟩
  unfold go_coupletref18_bytes lp_coupletref18_bytes_0
  rw [show (0 : Int) = ((0 : Nat) : Int) from rfl, loopN_of (w + 1) (by omega) h]
  rfl

/-! ### a number of bytes -/
theorem val_take {l : List Int} {k : Nat} (hk : k < l.length) : val (l.take (k + 1)) = val (l.take k) + 256 ^ k * l[k].toNat := by
  rw [List.take_add_one, List.getElem?_eq_getElem hk]
  show val (l.take k ++ [l[k]]) = _
  rw [val_snoc, List.length_take, Nat.min_eq_left (by omega)]
theorem or_step {a b i : Nat} (ha : a < 2 ^ i) : a ||| (b * 2 ^ i) = a + 2 ^ i * b := by
  rw [Nat.or_comm, Nat.mul_comm b, ← Nat.two_pow_add_eq_or_of_lt ha, Nat.add_comm]
theorem pow8 (k : Nat) : 2 ^ (8 * k) = 256 ^ k := Nat.pow_mul 2 8 k
theorem rget_loop (b3 b4 : Bool) (l : List Int) (hl : isB l) (h8 : l.length ≤ 8) : ∀ (d k : Nat), k + d = l.length →
    iterN (fun x => st_report_get_0 x.1 x.2.1 x.2.2.1 x.2.2.2.1 x.2.2.2.2.1 x.2.2.2.2.2) (d + 1) (b3, b4, l, ((val (l.take k) : Nat) : Int), (l.length : Int), (k : Int)) = some ((val l : Nat) : Int)
  | 0, k, hk => by
    obtain rfl : k = l.length := by omega
    have e : st_report_get_0 b3 b4 l ((val (l.take l.length) : Nat) : Int) (l.length : Int) (l.length : Int) = some (.inr ((val (l.take l.length) : Nat) : Int)) := by
      unfold st_report_get_0
      rw [decide_eq_false (Int.lt_irrefl _)]
      rfl
    simp only [iterN, e]
    rw [List.take_length]
  | d + 1, k, hk => by
    have hk' : k < l.length := by omega
    have hx := hl _ (List.getElem_mem hk')
    have hv := val_lt _ (isB_take hl k)
    rw [List.length_take, Nat.min_eq_left (by omega)] at hv
    have e8 : IntKind.wrap .i64 (8 * (k : Int)) = ((8 * k : Nat) : Int) := by rw [w64 (by omega) (by omega)]; omega
    have hm : min (8 * k) 64 = 8 * k := by omega
    have hb : l[k].toNat < 256 := by omega
    have hp : 256 ^ k ≤ 72057594037927936 := Nat.pow_le_pow_right (by decide) (by omega : k ≤ 7)
    have hmul : l[k].toNat * 256 ^ k ≤ 255 * 256 ^ k := Nat.mul_le_mul_right _ (by omega)
    have e0 : IntKind.wrap .u64 l[k] = ((l[k].toNat : Nat) : Int) := by
      conv => lhs; rw [b_nat hx]
      exact wrap_u64_nat (by omega)
    have e1 : IntKind.wrap .u64 (((l[k].toNat : Nat) : Int) * 2 ^ (8 * k)) = ((l[k].toNat * 256 ^ k : Nat) : Int) := by
      rw [show ((l[k].toNat : Nat) : Int) * 2 ^ (8 * k) = ((l[k].toNat * 256 ^ k : Nat) : Int) by rw [Int.natCast_mul, ← pow8, Int.natCast_pow]; rfl]
      exact wrap_u64_nat (by omega)
    have e2 : IntKind.wrap .u64 (bOr .u64 ((val (l.take k) : Nat) : Int) ((l[k].toNat * 256 ^ k : Nat) : Int)) = ((val (l.take (k + 1)) : Nat) : Int) := by
      rw [bOr64 (by omega) (by omega), val_take hk']
      congr 1
      rw [← pow8] at hv ⊢
      exact or_step hv
    have e : st_report_get_0 b3 b4 l ((val (l.take k) : Nat) : Int) (l.length : Int) (k : Int) = some (.inl (b3, b4, l, ((val (l.take (k + 1)) : Nat) : Int), (l.length : Int), ((k + 1 : Nat) : Int))) := by
      unfold st_report_get_0
      rw [Int.toNat_natCast, getD_at hk', e8, Int.toNat_natCast, hm, e0, e1, e2, decide_eq_true (by omega), decide_eq_true (by omega), decide_eq_true hk', decide_eq_true (by omega), inc64 (by omega)]
      rfl
    rw [iterN]
    simp only [e]
    exact rget_loop b3 b4 l hl h8 d (k + 1) (by omega)
theorem rget_at (b0 b1 : Bool) (l : List Int) (hl : isB l) (h8 : l.length ≤ 8) : go_report_get b0 b1 l = some (IntKind.wrap .i64 ((val l : Nat) : Int)) := by
  have h := rget_loop b0 b1 l hl h8 l.length 0 (by omega)
  unfold go_report_get lp_report_get_0
  rw [show (0 : Int) = ((0 : Nat) : Int) from rfl]
  rw [List.take_zero, show val [] = 0 from rfl] at h
  rw [loopN_of (l.length + 1) (by omega) h]
  rfl

/-! ### rows joined -/
theorem concat_at (b0 b1 b2 b3 b5 b6 : Bool) (a b : List Int) (ha : a.length ≤ 1000) (hb : b.length ≤ 1000) :
    ∃ u v, go_slices_Concat__int_int b0 b1 [(.isl b2 b3 .i64 a), (.isl b5 b6 .i64 b)] = some (u, v, a ++ b) := by
  have w1 : IntKind.wrap .i64 (0 + ((a.length : Nat) : Int)) = ((a.length : Nat) : Int) := by rw [w64 (by omega) (by omega)]; omega
  have w2 : IntKind.wrap .i64 (((a.length : Nat) : Int) + ((b.length : Nat) : Int)) = ((a.length + b.length : Nat) : Int) := by rw [w64 (by omega) (by omega)]; omega
  have i0 : IntKind.wrap .i64 ((0 : Int) + 1) = 1 := by decide
  have i1 : IntKind.wrap .i64 ((1 : Int) + 1) = 2 := by decide
  have s0 : ∀ (n : Int) (b7 b8 : Bool) (es : List PV), st_slices_Concat__int_int_0 b0 b1 es n b7 b8 [(.isl b2 b3 .i64 a), (.isl b5 b6 .i64 b)] 2 0 = bif (decide ((IntKind.wrap .i64 (n + ((a.length : Nat) : Int))) < 0)) then none else some (.inl (b0, b1, es, IntKind.wrap .i64 (n + ((a.length : Nat) : Int)), b7, b8, [(.isl b2 b3 .i64 a), (.isl b5 b6 .i64 b)], 2, 1)) := fun _ _ _ _ => rfl
  have s1 : ∀ (n : Int) (b7 b8 : Bool) (es : List PV), st_slices_Concat__int_int_0 b0 b1 es n b7 b8 [(.isl b2 b3 .i64 a), (.isl b5 b6 .i64 b)] 2 1 = bif (decide ((IntKind.wrap .i64 (n + ((b.length : Nat) : Int))) < 0)) then none else some (.inl (b0, b1, es, IntKind.wrap .i64 (n + ((b.length : Nat) : Int)), b7, b8, [(.isl b2 b3 .i64 a), (.isl b5 b6 .i64 b)], 2, 2)) := fun _ _ _ _ => rfl
  have s2 : ∀ (n : Int) (b7 b8 : Bool) (es l : List PV), st_slices_Concat__int_int_0 b0 b1 es n b7 b8 l 2 2 = some (.inr (b0, b1, es, n)) := fun _ _ _ _ _ => rfl
  have L0 : lp_slices_Concat__int_int_0 b0 b1 [(.isl b2 b3 .i64 a), (.isl b5 b6 .i64 b)] 0 b0 b1 [(.isl b2 b3 .i64 a), (.isl b5 b6 .i64 b)] 2 0 = some (b0, b1, [(.isl b2 b3 .i64 a), (.isl b5 b6 .i64 b)], ((a.length + b.length : Nat) : Int)) := by
    unfold lp_slices_Concat__int_int_0
    refine loopN_of 3 (by decide) ?_
    simp only [iterN, s0, w1, decide_eq_false (show ¬ ((a.length : Nat) : Int) < 0 by omega), cond_false, s1, w2, decide_eq_false (show ¬ ((a.length + b.length : Nat) : Int) < 0 by omega), s2]
  have g : go_slices_Grow true true [] ((a.length + b.length : Nat) : Int) = some (decide (((a.length + b.length : Nat) : Int) = 0), false, []) := by
    unfold go_slices_Grow
    rw [if_pos ⟨rfl, rfl, by omega, by omega⟩]
  have t0 : ∀ (n x : Bool) (l : List Int), l.length ≤ 1000 → st_slices_Concat__int_int_1 b0 b1 [(.isl b2 b3 .i64 a), (.isl b5 b6 .i64 b)] 2 0 n x l = some (.inl (b0, b1, [(.isl b2 b3 .i64 a), (.isl b5 b6 .i64 b)], 2, 1, (n && a.isEmpty), false, l ++ a)) := by
    intro n x l hl
    have hh : ∀ (n x : Bool) (l : List Int), st_slices_Concat__int_int_1 b0 b1 [(.isl b2 b3 .i64 a), (.isl b5 b6 .i64 b)] 2 0 n x l = bif (decide (((l.length + a.length) * 8) ≤ 140737488355328)) then bif (decide ((l.length + a.length) ≤ 4611686018427387904)) then some (.inl (b0, b1, [(.isl b2 b3 .i64 a), (.isl b5 b6 .i64 b)], 2, 1, (n && a.isEmpty), false, l ++ a)) else none else none := fun _ _ _ => rfl
    rw [hh, decide_eq_true (by omega), decide_eq_true (by omega)]
    rfl
  have t1 : ∀ (n x : Bool) (l : List Int), l.length ≤ 2000 → st_slices_Concat__int_int_1 b0 b1 [(.isl b2 b3 .i64 a), (.isl b5 b6 .i64 b)] 2 1 n x l = some (.inl (b0, b1, [(.isl b2 b3 .i64 a), (.isl b5 b6 .i64 b)], 2, 2, (n && b.isEmpty), false, l ++ b)) := by
    intro n x l hl
    have hh : ∀ (n x : Bool) (l : List Int), st_slices_Concat__int_int_1 b0 b1 [(.isl b2 b3 .i64 a), (.isl b5 b6 .i64 b)] 2 1 n x l = bif (decide (((l.length + b.length) * 8) ≤ 140737488355328)) then bif (decide ((l.length + b.length) ≤ 4611686018427387904)) then some (.inl (b0, b1, [(.isl b2 b3 .i64 a), (.isl b5 b6 .i64 b)], 2, 2, (n && b.isEmpty), false, l ++ b)) else none else none := fun _ _ _ => rfl
    rw [hh, decide_eq_true (by omega), decide_eq_true (by omega)]
    rfl
  have t2 : ∀ (n x : Bool) (l : List Int) (es : List PV), st_slices_Concat__int_int_1 b0 b1 es 2 2 n x l = some (.inr (n, x, l)) := fun _ _ _ _ => rfl
  have L1 : ∀ n x, ∃ u v, lp_slices_Concat__int_int_1 b0 b1 [(.isl b2 b3 .i64 a), (.isl b5 b6 .i64 b)] 2 0 n x [] = some (u, v, a ++ b) := by
    intro n x
    refine ⟨(n && a.isEmpty) && b.isEmpty, false, loopN_of 3 (by decide) ?_⟩
    simp only [iterN, t0 n x [] (by simp), t1 _ _ a (by omega), t2, List.nil_append]
  obtain ⟨u, v, hu⟩ := L1 (decide (((a.length + b.length : Nat) : Int) = 0)) false
  refine ⟨u, v, ?_⟩
  unfold go_slices_Concat__int_int
  rw [show (((List.length [(PV.isl b2 b3 .i64 a), (PV.isl b5 b6 .i64 b)]) : Nat) : Int) = 2 from rfl, L0, Option.bind_some, g, Option.bind_some]
  dsimp only
  rw [show (((List.length [(PV.isl b2 b3 .i64 a), (PV.isl b5 b6 .i64 b)]) : Nat) : Int) = 2 from rfl, hu]
  rfl

/-! ### whether one may not be -/
theorem bad_loop (b3 b4 : Bool) (l : List Int) (hb : l.length < 9223372036854775807) : ∀ (d k : Nat), k + d = l.length → ∃ y,
    iterN (fun x => st_slices_IndexFunc__int_int_0 x.1 x.2.1 x.2.2.1 x.2.2.2.1 x.2.2.2.2) (d + 1) (b3, b4, l, (l.length : Int), (k : Int)) = some y ∧
      ((y = .inl () ∧ ∀ x ∈ l.drop k, okF x) ∨ (∃ j : Nat, y = .inr (j : Int) ∧ ¬ ∀ x ∈ l.drop k, okF x))
  | 0, k, hk => by
    obtain rfl : k = l.length := by omega
    have e : st_slices_IndexFunc__int_int_0 b3 b4 l (l.length : Int) (l.length : Int) = some (.inr (.inl ())) := by
      unfold st_slices_IndexFunc__int_int_0
      rw [decide_eq_false (Int.lt_irrefl _)]
      rfl
    exact ⟨.inl (), by simp only [iterN, e], .inl ⟨rfl, by rw [List.drop_length]; exact fun x h => by cases h⟩⟩
  | d + 1, k, hk => by
    have hk' : k < l.length := by omega
    have r1 : go_report_Right_1 l[k] = some (!decide (okF l[k])) := by
      unfold go_report_Right_1 okF
      by_cases h1 : l[k] > 1125899906842624
      · rw [decide_eq_true h1, cond_true]
        rw [show decide (-1125899906842624 ≤ l[k] ∧ l[k] ≤ 1125899906842624) = false from decide_eq_false (by omega)]
        rfl
      · rw [decide_eq_false h1, cond_false]
        by_cases h2 : l[k] < -1125899906842624
        · rw [decide_eq_true h2, show decide (-1125899906842624 ≤ l[k] ∧ l[k] ≤ 1125899906842624) = false from decide_eq_false (by omega)]
          rfl
        · rw [decide_eq_false h2, show decide (-1125899906842624 ≤ l[k] ∧ l[k] ≤ 1125899906842624) = true from decide_eq_true (by omega)]
          rfl
    have e : st_slices_IndexFunc__int_int_0 b3 b4 l (l.length : Int) (k : Int) = if okF l[k] then some (.inl (b3, b4, l, (l.length : Int), ((k + 1 : Nat) : Int))) else some (.inr (.inr (k : Int))) := by
      unfold st_slices_IndexFunc__int_int_0
      rw [Int.toNat_natCast, getD_at hk', r1, decide_eq_true (by omega), decide_eq_true (by omega), decide_eq_true hk', inc64 (by omega)]
      by_cases h : okF l[k]
      · rw [if_pos h, decide_eq_true h]; rfl
      · rw [if_neg h, decide_eq_false h]; rfl
    rw [iterN]
    simp only [e]
    rw [List.drop_eq_getElem_cons hk']
    by_cases h : okF l[k]
    · rw [if_pos h]
      obtain ⟨y, h1, h2⟩ := bad_loop b3 b4 l hb d (k + 1) (by omega)
      refine ⟨y, h1, ?_⟩
      rcases h2 with ⟨h2, h3⟩ | ⟨j, h2, h3⟩
      · exact .inl ⟨h2, fun x hx => (List.mem_cons.1 hx).elim (fun e => e ▸ h) (h3 x)⟩
      · exact .inr ⟨j, h2, fun hx => h3 fun x hm => hx x (List.mem_cons_of_mem _ hm)⟩
    · rw [if_neg h]
      exact ⟨_, rfl, .inr ⟨k, rfl, fun hx => h (hx _ (List.mem_cons_self ..))⟩⟩
theorem bad_at (b0 b1 : Bool) (l : List Int) (hb : l.length < 9223372036854775807) : go_slices_ContainsFunc__int_int b0 b1 l = some (!decide (∀ x ∈ l, okF x)) := by
  obtain ⟨y, h1, h2⟩ := bad_loop b0 b1 l hb l.length 0 (by omega)
  rw [List.drop_zero] at h2
  unfold go_slices_ContainsFunc__int_int go_slices_IndexFunc__int_int lp_slices_IndexFunc__int_int_0
  rw [show (0 : Int) = ((0 : Nat) : Int) from rfl, loopN_of (l.length + 1) (by omega) h1, Option.bind_some]
  rcases h2 with ⟨rfl, h3⟩ | ⟨j, rfl, h3⟩
  · rw [decide_eq_true h3]; rfl
  · rw [decide_eq_false h3]
    show some (decide ((j : Int) ≥ ((0 : Nat) : Int))) = _
    rw [decide_eq_true (by omega)]
    rfl
end Go.Proofs
