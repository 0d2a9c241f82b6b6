/-
  Frames: bytes put behind others, the document's bytes, whether a number may not be, how many numbers there are (plain).
-/
import Derived.Test.YtajphaljpkeecaaDoorWGC12
import Derived.Test.YtajphaljpkeecaaDoorWLW0
set_option linter.unusedSimpArgs false
set_option linter.unusedVariables false
set_option maxRecDepth 100000
namespace Go.Proofs
open Go Go.Fx

theorem pb_eq (n : Int) (k : Nat) : pb n k = (((u64 n / 256 ^ k % 256 : Nat)) : Int) := by
  unfold pb
  rw [wrap_u64', show (2 : Int) ^ (8 * k) = ((256 ^ k : Nat) : Int) by rw [show (256 : Nat) = 2 ^ 8 from rfl, ← Nat.pow_mul, Int.natCast_pow]; rfl, ← Int.natCast_ediv, wrap_u8']
theorem put_list (n : Int) (w : Nat) : (List.range w).map (pb n) = le w (u64 n) := by
  rw [le_range]
  exact List.map_congr_left fun k _ => pb_eq n k
theorem fput_at (e : Bool) (b : List Int) (n : Int) (w : Nat) (hw : 0 < w ∧ w ≤ 8) (hb : b.length ≤ 1000000) : go_frame_put false e b n (w : Int) = some (false, false, b ++ le w (u64 n)) := by
  unfold go_frame_put
  rw [if_pos ⟨by omega, by omega, hb⟩, Int.toNat_natCast, put_list]
  rfl

/-! ### the document's bytes -/
theorem rbytes_loop : ∀ (d k N w : Nat) (b c : Bool) (l : List Int), k + d = w → w ≤ 8 → N < 18446744073709551616 → l.length + d ≤ 1000 → ∃ b' c',
    iterN (fun x => st_coupletref12_bytes_0 x.1 x.2.1 x.2.2.1 x.2.2.2.1 x.2.2.2.2.1 x.2.2.2.2.2) (d + 1) ((N : Int), (w : Int), (k : Int), b, c, l) = some (b', c', l ++ le d N)
  | 0, k, N, w, b, c, l, hk, hw, hN, hl => by
    obtain rfl : k = w := by omega
    have e : st_coupletref12_bytes_0 (N : Int) (k : Int) (k : Int) b c l = some (.inr (b, c, l)) := by
      unfold st_coupletref12_bytes_0
      rw [decide_eq_false (Int.lt_irrefl _)]
      rfl
    exact ⟨b, c, by simp only [iterN, e, le, List.append_nil]⟩
  | d + 1, k, N, w, b, c, l, hk, hw, hN, hl => by
    have e1 : IntKind.wrap .u64 (Int.tdiv (N : Int) 256) = ((N / 256 : Nat) : Int) := by
      rw [Int.tdiv_eq_ediv_of_nonneg (by omega), show (N : Int) / 256 = ((N / 256 : Nat) : Int) by omega]
      exact wrap_u64_nat (by omega)
    have e2 : IntKind.wrap .u8 (Int.tmod (N : Int) 256) = ((N % 256 : Nat) : Int) := by
      rw [Int.tmod_eq_emod_of_nonneg (by omega), show (N : Int) % 256 = ((N % 256 : Nat) : Int) by omega, wrap_u8']
      omega
    have e : st_coupletref12_bytes_0 (N : Int) (w : Int) (k : Int) b c l = some (.inl (((N / 256 : Nat) : Int), (w : Int), ((k + 1 : Nat) : Int), (b && false), false, l ++ [((N % 256 : Nat) : Int)])) := by
      unfold st_coupletref12_bytes_0
      rw [decide_eq_true (by omega), decide_eq_true (by omega), decide_eq_true (by omega), e1, e2, inc64 (by omega)]
      rfl
    obtain ⟨b', c', ih⟩ := rbytes_loop d (k + 1) (N / 256) w (b && false) false (l ++ [((N % 256 : Nat) : Int)]) (by omega) hw (by omega) (by simp only [List.length_append, List.length_cons, List.length_nil]; omega)
    refine ⟨b', c', ?_⟩
    rw [iterN]
    simp only [e]
    rw [ih, le, List.append_assoc]
    rfl
theorem rbytes_at (N w : Nat) (hw : w ≤ 8) (hN : N < 18446744073709551616) : ∃ b c, go_coupletref12_bytes (N : Int) (w : Int) = some (b, c, le w N) := by
  obtain ⟨b, c, h⟩ := rbytes_loop w 0 N w true true [] (by omega) hw hN (by simp only [List.length_nil]; omega)
  refine ⟨b, c, ?_⟩
  unfold go_coupletref12_bytes lp_coupletref12_bytes_0
  rw [show (0 : Int) = ((0 : Nat) : Int) from rfl, loopN_of (w + 1) (by omega) h]
  rfl

/-! ### a number of bytes -/
theorem fget_at (b0 b1 : Bool) (l : List Int) (hl : isB l) (h8 : l.length ≤ 8) : go_frame_get b0 b1 l = some (IntKind.wrap .i64 ((val l : Nat) : Int)) := if_pos ⟨hl, h8⟩

/-! ### whether one may not be -/
theorem fx_right (n : Int) : go_fx_Right n = some (decide (okF n)) := by
  unfold go_fx_Right
  by_cases h : n ≥ -1125899906842624
  · rw [decide_eq_true h, cond_true]
    by_cases h2 : n ≤ 1125899906842624
    · rw [decide_eq_true h2, decide_eq_true (show okF n from ⟨h, h2⟩)]
    · rw [decide_eq_false h2, decide_eq_false (fun x : okF n => h2 x.2)]
  · rw [decide_eq_false h, cond_false, decide_eq_false (fun x : okF n => h x.1)]
theorem bad_loop (b3 b4 : Bool) (l : List Int) (hb : l.length < 9223372036854775807) : ∀ (d k : Nat), k + d = l.length → ∃ y,
    iterN (fun x => st_slices_IndexFunc__int_int_0 x.1 x.2.1 x.2.2.1 x.2.2.2.1 x.2.2.2.2) (d + 1) (b3, b4, l, (l.length : Int), (k : Int)) = some y ∧
      ((y = .inl () ∧ ∀ x ∈ l.drop k, okF x) ∨ (∃ j : Nat, y = .inr (j : Int) ∧ ¬ ∀ x ∈ l.drop k, okF x))
  | 0, k, hk => by
    obtain rfl : k = l.length := by omega
    have e : st_slices_IndexFunc__int_int_0 b3 b4 l (l.length : Int) (l.length : Int) = some (.inr (.inl ())) := by
      unfold st_slices_IndexFunc__int_int_0
      rw [decide_eq_false (Int.lt_irrefl _)]
      rfl
    exact ⟨.inl (), by simp only [iterN, e], .inl ⟨rfl, by rw [List.drop_length]; exact fun x h => by cases h⟩⟩
  | d + 1, k, hk => by
    have hk' : k < l.length := by omega
    have r1 : go_frame_Right_1 l[k] = some (!decide (okF l[k])) := by
      unfold go_frame_Right_1
      rw [fx_right]
      rfl
    have e : st_slices_IndexFunc__int_int_0 b3 b4 l (l.length : Int) (k : Int) = if okF l[k] then some (.inl (b3, b4, l, (l.length : Int), ((k + 1 : Nat) : Int))) else some (.inr (.inr (k : Int))) := by
      unfold st_slices_IndexFunc__int_int_0
      rw [Int.toNat_natCast, getD_at hk', r1, decide_eq_true (by omega), decide_eq_true (by omega), decide_eq_true hk', inc64 (by omega)]
      by_cases h : okF l[k]
      · rw [if_pos h, decide_eq_true h]; rfl
      · rw [if_neg h, decide_eq_false h]; rfl
    rw [iterN]
    simp only [e]
    rw [List.drop_eq_getElem_cons hk']
    by_cases h : okF l[k]
    · rw [if_pos h]
      obtain ⟨y, h1, h2⟩ := bad_loop b3 b4 l hb d (k + 1) (by omega)
      refine ⟨y, h1, ?_⟩
      rcases h2 with ⟨h2, h3⟩ | ⟨j, h2, h3⟩
      · exact .inl ⟨h2, fun x hx => (List.mem_cons.1 hx).elim (fun e => e ▸ h) (h3 x)⟩
      · exact .inr ⟨j, h2, fun hx => h3 fun x hm => hx x (List.mem_cons_of_mem _ hm)⟩
    · rw [if_neg h]
      exact ⟨_, rfl, .inr ⟨k, rfl, fun hx => h (hx _ (List.mem_cons_self ..))⟩⟩
theorem bad_at (b0 b1 : Bool) (l : List Int) (hb : l.length < 9223372036854775807) : go_slices_ContainsFunc__int_int b0 b1 l = some (!decide (∀ x ∈ l, okF x)) := by
  obtain ⟨y, h1, h2⟩ := bad_loop b0 b1 l hb l.length 0 (by omega)
  rw [List.drop_zero] at h2
  unfold go_slices_ContainsFunc__int_int go_slices_IndexFunc__int_int lp_slices_IndexFunc__int_int_0
  rw [show (0 : Int) = ((0 : Nat) : Int) from rfl, loopN_of (l.length + 1) (by omega) h1, Option.bind_some]
  rcases h2 with ⟨rfl, h3⟩ | ⟨j, rfl, h3⟩
  · rw [decide_eq_true h3]; rfl
  · rw [decide_eq_false h3]
    show some (decide ((j : Int) ≥ ((0 : Nat) : Int))) = _
    rw [decide_eq_true (by omega)]
    rfl

/-! ### how many numbers there are -/
def M12 (k n : Int) : Int := if n < 1 ∨ 4 < n then 0 else if k = 1 then n + n * n else if k = 2 then 2 * n * n else if k = 3 then n + 2 else 0
theorem four {n : Int} (h1 : ¬ n < 1) (h2 : ¬ n > 4) : n = 1 ∨ n = 2 ∨ n = 3 ∨ n = 4 := by omega
theorem M12_b (k n : Int) : 0 ≤ M12 k n ∧ M12 k n ≤ 32 := by
  unfold M12
  split
  · omega
  · rename_i h
    rcases four (n := n) (by omega) (by omega) with rfl | rfl | rfl | rfl <;> (split <;> first | omega | (split <;> first | omega | (split <;> omega)))
theorem many_at (k n : Int) : go_frame_Many k n = some (M12 k n) := by
  unfold go_frame_Many M12
  by_cases h1 : n < 1
  · rw [decide_eq_true h1, if_pos (.inl h1)]; rfl
  by_cases h2 : n > 4
  · rw [decide_eq_false h1, decide_eq_true h2, if_pos (.inr h2)]; rfl
  rw [decide_eq_false h1, decide_eq_false h2, if_neg (by omega), ibeq, ibeq, ibeq]
  simp only [cond_false]
  by_cases k1 : k = 1
  · rw [decide_eq_true k1, if_pos k1, cond_true]
    rcases four h1 h2 with rfl | rfl | rfl | rfl <;> decide
  by_cases k2 : k = 2
  · rw [decide_eq_false k1, if_neg k1, decide_eq_true k2, if_pos k2, cond_false, cond_true]
    rcases four h1 h2 with rfl | rfl | rfl | rfl <;> decide
  by_cases k3 : k = 3
  · rw [decide_eq_false k1, if_neg k1, decide_eq_false k2, if_neg k2, decide_eq_true k3, if_pos k3, cond_false, cond_false, cond_true]
    rcases four h1 h2 with rfl | rfl | rfl | rfl <;> decide
  rw [decide_eq_false k1, if_neg k1, decide_eq_false k2, if_neg k2, decide_eq_false k3, if_neg k3]
  rfl
theorem rmany_at (k n : Int) : go_coupletref12_Many k n = some (M12 k n) := by
  unfold go_coupletref12_Many M12
  by_cases h1 : n < 1
  · rw [decide_eq_true h1, if_pos (.inl h1)]; rfl
  by_cases h2 : n > 4
  · rw [decide_eq_false h1, decide_eq_true h2, if_pos (.inr h2)]; rfl
  rw [decide_eq_false h1, decide_eq_false h2, if_neg (show ¬ (n < 1 ∨ 4 < n) by omega)]
  simp only [cond_false]
  by_cases h3 : k < 1
  · rw [decide_eq_true h3, if_neg (by omega), if_neg (by omega), if_neg (by omega)]; rfl
  by_cases h4 : k > 3
  · rw [decide_eq_false h3, decide_eq_true h4, if_neg (by omega), if_neg (by omega), if_neg (by omega)]; rfl
  rw [decide_eq_false h3, decide_eq_false h4]
  simp only [cond_false]
  have hk : k = 1 ∨ k = 2 ∨ k = 3 := by omega
  rcases hk with rfl | rfl | rfl <;> rcases four h1 h2 with rfl | rfl | rfl | rfl <;> decide
end Go.Proofs
