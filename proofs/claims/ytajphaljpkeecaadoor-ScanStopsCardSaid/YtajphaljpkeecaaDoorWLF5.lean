import Derived.Test.YtajphaljpkeecaaDoorWGC12
import Derived.Test.YtajphaljpkeecaaDoorWLW0
/-
  Frames: bytes put behind others, the document's bytes, whether a number may not be, how many numbers there are (plain).
-/
set_option linter.unusedSimpArgs false
set_option linter.unusedVariables false
set_option maxRecDepth 100000
namespace Go.Proofs
open Go Go.Fx

theorem pb_eq (n : Int) (k : Nat) : pb n k = (((u64 n / 256 ^ k % 256 : Nat)) : Int) := by
  unfold pb
  rw [wrap_u64', show (2 : Int) ^ (8 * k) = ((256 ^ k : Nat) : Int) by rw [show (256 : Nat) = 2 ^ 8 from rfl, ← Nat.pow_mul, Int.natCast_pow]; rfl, ← Int.natCast_ediv, wrap_u8']
theorem put_list (n : Int) (w : Nat) : (List.range w).map (pb n) = le w (u64 n) := by
  rw [le_range]
  exact List.map_congr_left fun k _ => pb_eq n k
theorem fput_at (e : Bool) (b : List Int) (n : Int) (w : Nat) (hw : 0 < w ∧ w ≤ 8) (hb : b.length ≤ 1000000) : go_frame_put false e b n (w : Int) = some (false, false, b ++ le w (u64 n)) := by
  unfold go_frame_put
  rw [if_pos ⟨by omega, by omega, hb⟩, Int.toNat_natCast, put_list]
  rfl

/-! ### the document's bytes -/
theorem rbytes_loop : ∀ (d k N w : Nat) (b c : Bool) (l : List Int), k + d = w → w ≤ 8 → N < 18446744073709551616 → l.length + d ≤ 1000 → ∃ b' c',
    iterN (fun x => st_coupletref12_bytes_0 x.1 x.2.1 x.2.2.1 x.2.2.2.1 x.2.2.2.2.1 x.2.2.2.2.2) (d + 1) ((N : Int), (w : Int), (k : Int), b, c, l) = some (b', c', l ++ le d N)
  | 0, k, N, w, b, c, l, hk, hw, hN, hl => by
    obtain rfl : k = w := by omega
    have e : st_coupletref12_bytes_0 (N : Int) (k : Int) (k : Int) b c l = some (.inr (b, c, l)) := by
      unfold st_coupletref12_bytes_0
      rw [decide_eq_false (Int.lt_irrefl _)]
      rfl
    exact ⟨b, c, by simp only [iterN, e, le, List.append_nil]⟩
  | d + 1, k, N, w, b, c, l, hk, hw, hN, hl => by
    have e1 : IntKind.wrap .u64 (Int.tdiv (N : Int) 256) = ((N / 256 : Nat) : Int) := by
      rw [Int.tdiv_eq_ediv_of_nonneg (by omega), show (N : Int) / 256 = ((N / 256 : Nat) : Int) by omega]
      exact wrap_u64_nat (by omega)
    have e2 : IntKind.wrap .u8 (Int.tmod (N : Int) 256) = ((N % 256 : Nat) : Int) := by
      rw [Int.tmod_eq_emod_of_nonneg (by omega), show (N : Int) % 256 = ((N % 256 : Nat) : Int) by omega, wrap_u8']
      omega
    have e : st_coupletref12_bytes_0 (N : Int) (w : Int) (k : Int) b c l = some (.inl (((N / 256 : Nat) : Int), (w : Int), ((k + 1 : Nat) : Int), (b && false), false, l ++ [((N % 256 : Nat) : Int)])) := by
      unfold st_coupletref12_bytes_0
      rw [decide_eq_true (by omega), decide_eq_true (by omega), decide_eq_true (by omega), e1, e2, inc64 (by omega)]
      rfl
    obtain ⟨b', c', ih⟩ := rbytes_loop d (k + 1) (N / 256) w (b && false) false (l ++ [((N % 256 : Nat) : Int)]) (by omega) hw (by omega) (by simp only [List.length_append, List.length_cons, List.length_nil]; omega)
    refine ⟨b', c', ?_⟩
    rw [iterN]
    simp only [e]
    rw [ih, le, List.append_assoc]
    rfl
theorem rbytes_at (N w : Nat) (hw : w ≤ 8) (hN : N < 18446744073709551616) : ∃ b c, go_coupletref12_bytes (N : Int) (w : Int) = some (b, c, le w N) := by
  obtain ⟨b, c, h⟩ := rbytes_loop w 0 N w true true [] (by omega) hw hN (by simp only [List.length_nil]; omega)
  refine ⟨b, c, ?_⟩
  unfold go_coupletref12_bytes lp_coupletref12_bytes_0
  rw [show (0 : Int) = ((0 : Nat) : Int) from rfl, loopN_of (w + 1) (by omega) h]
  rfl

/-! ### a number of bytes -/
theorem fget_at (b0 b1 : Bool) (l : List Int) (hl : isB l) (h8 : l.length ≤ 8) : go_frame_get b0 b1 l = some (IntKind.wrap .i64 ((val l : Nat) : Int)) := if_pos ⟨hl, h8⟩

/-! ### whether one may not be -/
theorem fx_right (n : Int) : go_fx_Right n = some (decide (okF n)) := by
  unfold go_fx_Right
  by_cases h : n ≥ -1125899906842624
  · rw [decide_eq_true h, cond_true]
    by_cases h2 : n ≤ 1125899906842624
    · rw [decide_eq_true h2, decide_eq_true (show okF n from ⟨h, h2⟩)]
    · rw [decide_eq_false h2, decide_eq_false (fun x : okF n => h2 x.2)]
  · rw [decide_eq_false h, cond_false, decide_eq_false (fun x : okF n => h x.1)]
theorem bad_loop (b3 b4 : Bool) (l : List Int) (hb : l.length < 9223372036854775807) : ∀ (d k : Nat), k + d = l.length → ∃ y,
    iterN (fun x => st_slices_IndexFunc__int_int_0 x.1 x.2.1 x.2.2.1 x.2.2.2.1 x.2.2.2.2) (d + 1) (b3, b4, l, (l.length : Int), (k : Int)) = some y ∧
      ((y = .inl () ∧ ∀ x ∈ l.drop k, okF x) ∨ (∃ j : Nat, y = .inr (j : Int) ∧ ¬ ∀ x ∈ l.drop k, okF x))
  | 0, k, hk => by
    obtain rfl : k = l.length := by omega
    have e : st_slices_IndexFunc__int_int_0 b3 b4 l (l.length : Int) (l.length : Int) = some (.inr (.inl ())) := by
      unfold st_slices_IndexFunc__int_int_0
      rw [decide_eq_false (Int.lt_irrefl _)]
      rfl
    exact ⟨.inl (), by simp only [iterN, e], .inl ⟨rfl, by rw [List.drop_length]; exact fun x h => by cases h⟩⟩
  | d + 1, k, hk => by
    have hk' : k < l.length := by omega
    have r1 : go_frame_Right_1 l[k] = some (!decide (okF l[k])) := by
      unfold go_frame_Right_1
      rw [fx_right]
      rfl
    have e : st_slices_IndexFunc__int_int_0 b3 b4 l (l.length : Int) (k : Int) = if okF l[k] then some (.inl (b3, b4, l, (l.length : Int), ((k + 1 : Nat) : Int))) else some (.inr (.inr (k : Int))) := by
      unfold st_slices_IndexFunc__int_int_0
      rw [Int.toNat_natCast, getD_at hk', r1, decide_eq_true (by omega), decide_eq_true (by omega), decide_eq_true hk', inc64 (by omega)]
      by_cases h : okF l[k]
      · rw [if_pos h, decide_eq_true h]; rfl
      · rw [if_neg h, decide_eq_false h]; rfl
    rw [iterN]
    simp only [e]
    rw [List.drop_eq_getElem_cons hk']
    by_cases h : okF l[k]
    · rw [if_pos h]
      obtain ⟨y, h1, h2⟩ := bad_loop b3 b4 l hb d (k + 1) (by omega)
      refine ⟨y, h1, ?_⟩
      rcases h2 with ⟨h2, h3⟩ | ⟨j, h2, h3⟩
      · exact .inl ⟨h2, fun x hx => (List.mem_cons.1 hx).elim (fun e => e ▸ h) (h3 x)⟩
      · exact .inr ⟨j, h2, fun hx => h3 fun x hm => hx x (List.mem_cons_of_mem _ hm)⟩
    · rw [if_neg h]
      exact ⟨_, rfl, .inr ⟨k, rfl, fun hx => h (hx _ (List.mem_cons_self ..))⟩⟩
theorem bad_at (b0 b1 : Bool) (l : List Int) (hb : l.length < 9223372036854775807) : go_slices_ContainsFunc__int_int b0 b1 l = some (!decide (∀ x ∈ l, okF x)) := by
  obtain ⟨y, h1, h2⟩ := bad_loop b0 b1 l hb l.length 0 (by omega)
  rw [List.drop_zero] at h2
  unfold go_slices_ContainsFunc__int_int go_slices_IndexFunc__int_int lp_slices_IndexFunc__int_int_0
  rw [show (0 : Int) = ((0 : Nat) : Int) from rfl, loopN_of (l.length + 1) (by omega) h1, Option.bind_some]
  rcases h2 with ⟨rfl, h3⟩ | ⟨j, rfl, h3⟩
  · rw [decide_eq_true h3]; rfl
  · rw [decide_eq_false h3]
    show some (decide ((j : Int) ≥ ((0 : Nat) : Int))) = _
    rw [decide_eq_true (by omega)]
    rfl

/-! ### how many numbers there are -/
def M12 (k n : Int) : Int := if n < 1 ∨ 4 < n then 0 else if k = 1 then n + n * n else if k = 2 then 2 * n * n else if k = 3 then n + 2 else 0
theorem four {n : Int} (h1 : ¬ n < 1) (h2 : ¬ n > 4) : n = 1 ∨ n = 2 ∨ n = 3 ∨ n = 4 := by omega
theorem M12_b (k n : Int) : 0 ≤ M12 k n ∧ M12 k n ≤ 32 := by
  unfold M12
  split
  · omega
  · rename_i h
    rcases four (n := n) (by omega) (by omega) with rfl | rfl | rfl | rfl <;> (split <;> first | omega | (split <;> first | omega | (split <;> omega)))
theorem many_at (k n : Int) : go_frame_Many k n = some (M12 k n) := by
  unfold go_frame_Many M12
  by_cases h1 : n < 1
  · rw [decide_eq_true h1, if_pos (.inl h1)]; rfl
  by_cases h2 : n > 4
  · rw [decide_eq_false h1, decide_eq_true h2, if_pos (.inr h2)]; rfl
  rw [decide_eq_false h1, decide_eq_false h2, if_neg (by omega), ibeq, ibeq, ibeq]
  simp only [cond_false]
  by_cases k1 : k = 1
  · rw [decide_eq_true k1, if_pos k1, cond_true]
    rcases four h1 h2 with rfl | rfl | rfl | rfl <;> decide
  by_cases k2 : k = 2
  · rw [decide_eq_false k1, if_neg k1, decide_eq_true k2, if_pos k2, cond_false, cond_true]
    rcases four h1 h2 with rfl | rfl | rfl | rfl <;> decide
  by_cases k3 : k = 3
  · rw [decide_eq_false k1, if_neg k1, decide_eq_false k2, if_neg k2, decide_eq_true k3, if_pos k3, cond_false, cond_false, cond_true]
    rcases four h1 h2 with rfl | rfl | rfl | rfl <;> decide
  rw [decide_eq_false k1, if_neg k1, decide_eq_false k2, if_neg k2, decide_eq_false k3, if_neg k3]
  rfl
theorem rmany_at (k n : Int) : go_coupletref12_Many k n = some (M12 k n) := by
  unfold go_coupletref12_Many M12
  by_cases h1 : n < 1
  · rw [decide_eq_true h1, if_pos (.inl h1)]; rfl
  by_cases h2 : n > 4
  · rw [decide_eq_false h1, decide_eq_true h2, if_pos (.inr h2)]; rfl
  rw [decide_eq_false h1, decide_eq_false h2, if_neg (show ¬ (n < 1 ∨ 4 < n) by omega)]
  simp only [cond_false]
  by_cases h3 : k < 1
  · rw [decide_eq_true h3, if_neg (by omega), if_neg (by omega), if_neg (by omega)]; rfl
  by_cases h4 : k > 3
  · rw [decide_eq_false h3, decide_eq_true h4, if_neg (by omega), if_neg (by omega), if_neg (by omega)]; rfl
  rw [decide_eq_false h3, decide_eq_false h4]
  simp only [cond_false]
  have hk : k = 1 ∨ k = 2 ∨ k = 3 := by omega
  rcases hk with rfl | rfl | rfl <;> rcases four h1 h2 with rfl | rfl | rfl | rfl <;> decide
end Go.Proofs

/-
  Frames: which may be, their bytes (plain).
-/
set_option linter.unusedSimpArgs false
set_option linter.unusedVariables false
set_option maxRecDepth 100000
namespace Go.Proofs
open Go Go.Fx

/-! ### bytes of numbers -/
def enc8 (L : List Int) : List Int := L.flatMap fun n => le 8 (u64 n)
theorem enc8_len : ∀ L : List Int, (enc8 L).length = 8 * L.length
  | [] => rfl
  | n :: L => by
    have := enc8_len L
    unfold enc8 at this ⊢
    rw [List.flatMap_cons, List.length_append, le_len, this, List.length_cons]; omega
theorem enc8_append (A B : List Int) : enc8 (A ++ B) = enc8 A ++ enc8 B := List.flatMap_append
theorem enc8_isB (L : List Int) : isB (enc8 L) := fun x hx => by
  obtain ⟨n, _, h⟩ := List.mem_flatMap.1 hx
  exact le_isB _ _ x h
/-- The number at a place. -/
def num (l : List Int) (k : Nat) : Int := IntKind.wrap .i64 ((val ((l.drop (8 + 8 * k)).take 8) : Nat) : Int)
def nums (l : List Int) (a d : Nat) : List Int := (List.range' a d).map (num l)
def seqN (l : List Int) : Int := ((val ((l.drop 4).take 4) : Nat) : Int)
theorem take2 {l : List Int} (h : 2 ≤ l.length) : l.take 2 = [l.getD 0 0, l.getD 1 0] := by
  match l, h with
  | a :: b :: r, _ => rfl
theorem bne_l (a b : Int) : (a != b) = !decide (a = b) := rfl
theorem lst_beq (a b : List Int) : (a == b) = decide (a = b) := by
  by_cases h : a = b
  · rw [decide_eq_true h, h]; exact beq_self_eq_true b
  · rw [decide_eq_false h]; exact beq_eq_false_iff_ne.2 h

theorem w4 {l : List Int} (hl : isB l) (h4 : l.length ≤ 4) : IntKind.wrap .i64 ((val l : Nat) : Int) = ((val l : Nat) : Int) := by
  have h1 := val_lt l hl
  have h2 : 256 ^ l.length ≤ 256 ^ 4 := Nat.pow_le_pow_right (by decide) h4
  exact w64 (by omega) (by omega)
theorem wf64b {n : Int} (h : (Lit.int .i64 n).wf = true) : -9223372036854775808 ≤ n ∧ n ≤ 9223372036854775807 := by
  simp only [Lit.wf, Bool.and_eq_true, decide_eq_true_eq] at h
  exact ⟨h.1, h.2⟩
theorem isB_wf {l : List Int} (h : ∀ x ∈ l, (Lit.int .u8 x).wf = true) : isB l := fun x hx => by
  have := h x hx
  simp only [Lit.wf, Bool.and_eq_true, decide_eq_true_eq] at this
  have h1 : 0 ≤ x := this.1
  have h2 : x ≤ 255 := this.2
  exact ⟨h1, by omega⟩
/-- A number among others, by its bytes. -/
theorem enc8_slice : ∀ (L : List Int) (t : List Int) (k : Nat) (hk : k < L.length), ((enc8 L ++ t).drop (8 * k)).take 8 = le 8 (u64 L[k])
  | n :: L, t, 0, _ => by
    unfold enc8
    rw [List.flatMap_cons, Nat.mul_zero, List.drop_zero, List.append_assoc, List.take_left' (le_len _ _)]
    rfl
  | n :: L, t, k + 1, hk => by
    have ih := enc8_slice L t k (by simpa using hk)
    unfold enc8 at ih ⊢
    rw [List.flatMap_cons, List.append_assoc, show 8 * (k + 1) = 8 + 8 * k by omega, ← List.drop_drop, List.drop_left' (le_len _ _), ih]
    rfl
def i64b (n : Int) : Prop := -9223372036854775808 ≤ n ∧ n ≤ 9223372036854775807
theorem okF_i64 {n : Int} (h : okF n) : i64b n := by unfold okF at h; unfold i64b; omega
theorem num_of {a t : List Int} (ha : a.length = 8) {L : List Int} {k : Nat} (hk : k < L.length) (hb : i64b L[k]) : num (a ++ (enc8 L ++ t)) k = L[k] := by
  unfold num
  rw [← List.drop_drop, List.drop_left' ha, enc8_slice L t k hk, val_le, Nat.mod_eq_of_lt (u64_lt _)]
  exact wrap_i64_u hb.1 hb.2
theorem nums_of {a t : List Int} (ha : a.length = 8) {L : List Int} (hb : ∀ x ∈ L, i64b x) (i d : Nat) (h : i + d ≤ L.length) : nums (a ++ (enc8 L ++ t)) i d = (L.drop i).take d := by
  unfold nums
  apply List.ext_getElem?
  intro j
  by_cases hj : j < d
  · rw [List.getElem?_map, List.getElem?_range' hj, List.getElem?_take_of_lt hj, List.getElem?_drop, List.getElem?_eq_getElem (by omega : i + j < L.length)]
    show some (num _ (i + 1 * j)) = _
    rw [Nat.one_mul, num_of ha (by omega) (hb _ (List.getElem_mem _))]
  · rw [List.getElem?_eq_none (by simp; omega), List.getElem?_eq_none (by simp; omega)]
theorem seq_u64 {q : Int} (h0 : 0 ≤ q) (h1 : q ≤ 4294967295) : ((u64 q % 256 ^ 4 : Nat) : Int) = q := by unfold u64; omega
theorem enc8_nums (l : List Int) (hl : isB l) : ∀ (d a : Nat), 8 + 8 * (a + d) ≤ l.length → enc8 (nums l a d) = (l.drop (8 + 8 * a)).take (8 * d)
  | 0, a, _ => by simp [nums, enc8]
  | d + 1, a, h => by
    have ih := enc8_nums l hl d (a + 1) (by omega)
    have e : le 8 (u64 (num l a)) = (l.drop (8 + 8 * a)).take 8 := by
      have hs : isB ((l.drop (8 + 8 * a)).take 8) := isB_take (isB_drop hl _) _
      have hlen : ((l.drop (8 + 8 * a)).take 8).length = 8 := by rw [List.length_take, List.length_drop]; omega
      have hv := val_lt _ hs
      rw [hlen] at hv
      unfold num
      rw [u64_wrap (by omega)]
      have := le_val _ hs
      rw [hlen] at this
      exact this
    unfold nums enc8 at ih ⊢
    rw [List.range'_succ, List.map_cons, List.flatMap_cons, ih, e, show 8 * (d + 1) = 8 + 8 * d by omega, List.take_add, List.drop_drop]
    rw [show 8 + 8 * (a + 1) = 8 + 8 * a + 8 by omega]

/-- Which frame may be. -/
def R12 (k q n : Int) (L : List Int) : Prop := 0 < M12 k n ∧ (L.length : Int) = M12 k n ∧ 0 ≤ q ∧ q ≤ 4294967295 ∧ ∀ x ∈ L, okF x
instance (k q n : Int) (L : List Int) : Decidable (R12 k q n L) := by unfold R12; infer_instance
theorem M12_pos {k n : Int} (h : M12 k n ≠ 0) : (1 ≤ k ∧ k ≤ 3) ∧ 1 ≤ n ∧ n ≤ 4 := by
  unfold M12 at h
  split at h
  · exact absurd rfl h
  · rename_i hn
    split at h
    · omega
    · split at h
      · omega
      · split at h
        · omega
        · exact absurd rfl h
theorem fright_at (k q n : Int) (b3 b4 : Bool) (L : List Int) (hL : L.length < 9223372036854775807) : go_frame_Right k q n b3 b4 L = some (decide (R12 k q n L)) := by
  unfold go_frame_Right
  rw [many_at, Option.bind_some]
  by_cases c1 : 0 < M12 k n
  case neg =>
    rw [show decide (M12 k n > 0) = false from decide_eq_false c1, cond_false, decide_eq_false (fun r : R12 k q n L => c1 r.1)]
  rw [show decide (M12 k n > 0) = true from decide_eq_true c1, cond_true, ibeq]
  by_cases c2 : (L.length : Int) = M12 k n
  case neg =>
    rw [decide_eq_false c2, cond_false, decide_eq_false (fun r : R12 k q n L => c2 r.2.1)]
  rw [decide_eq_true c2, cond_true]
  by_cases c3 : q ≥ 0
  case neg =>
    rw [decide_eq_false c3, cond_false, decide_eq_false (fun r : R12 k q n L => c3 r.2.2.1)]
  by_cases c4 : q ≤ 4294967295
  case neg =>
    rw [decide_eq_true c3, cond_true, decide_eq_false c4, cond_false, decide_eq_false (fun r : R12 k q n L => c4 r.2.2.2.1)]
  rw [decide_eq_true c3, cond_true, decide_eq_true c4, cond_true, bad_at _ _ _ hL, Option.bind_some, Bool.not_not]
  congr 1
  exact decide_eq_decide.2 ⟨fun r => ⟨c1, c2, c3, c4, r⟩, fun r => r.2.2.2.2⟩
theorem fr_loop (k q n : Int) (b12 b13 : Bool) (L : List Int) (hb : L.length < 9223372036854775807) : ∀ (d j : Nat), j + d = L.length →
    iterN (fun x => st_coupletref12_Right_0 x.1 x.2.1 x.2.2.1 x.2.2.2.1 x.2.2.2.2.1 x.2.2.2.2.2.1 x.2.2.2.2.2.2) (d + 1) ((j : Int), k, q, n, b12, b13, L) = some (if ∀ x ∈ L.drop j, okF x then .inl () else .inr false)
  | 0, j, hj => by
    obtain rfl : j = L.length := by omega
    have e : st_coupletref12_Right_0 (L.length : Int) k q n b12 b13 L = some (.inr (.inl ())) := by
      unfold st_coupletref12_Right_0
      rw [decide_eq_false (Int.lt_irrefl _)]
      rfl
    simp only [iterN, e]
    rw [List.drop_length, if_pos (by simp)]
  | d + 1, j, hj => by
    have h1 : j < L.length := by omega
    have e : st_coupletref12_Right_0 (j : Int) k q n b12 b13 L = if okF L[j] then some (.inl (((j + 1 : Nat) : Int), k, q, n, b12, b13, L)) else some (.inr (.inr false)) := by
      unfold st_coupletref12_Right_0
      rw [Int.toNat_natCast, getD_at h1, ref02_right, show decide ((j : Int) < (L.length : Int)) = true from decide_eq_true (by omega), show decide (0 ≤ (j : Int)) = true from decide_eq_true (by omega), show decide (j < L.length) = true from decide_eq_true h1, inc64 (by omega)]
      by_cases x1 : okF L[j]
      · rw [if_pos x1, decide_eq_true x1]; rfl
      · rw [if_neg x1, decide_eq_false x1]; rfl
    rw [iterN]
    simp only [e]
    rw [List.drop_eq_getElem_cons h1]
    by_cases hx : okF L[j]
    · rw [if_pos hx]
      dsimp only
      rw [fr_loop k q n b12 b13 L hb d (j + 1) (by omega)]
      by_cases hr : ∀ x ∈ L.drop (j + 1), okF x
      · rw [if_pos hr, if_pos (fun x hm => (List.mem_cons.1 hm).elim (fun e => e ▸ hx) (hr x))]
      · rw [if_neg hr, if_neg (fun hm => hr fun x h => hm x (List.mem_cons_of_mem _ h))]
    · rw [if_neg hx, if_neg (fun hm => hx (hm L[j] (List.mem_cons_self ..)))]
theorem rfright_at (k q n : Int) (b3 b4 : Bool) (L : List Int) (hL : L.length < 9223372036854775807) : go_coupletref12_Right k q n b3 b4 L = some (decide (R12 k q n L)) := by
  have hb := M12_b k n
  unfold go_coupletref12_Right
  rw [rmany_at, Option.bind_some, ibeq]
  by_cases c0 : M12 k n = 0
  · rw [decide_eq_true c0, decide_eq_false (fun r : R12 k q n L => by have := r.1; omega)]; rfl
  rw [decide_eq_false c0, cond_false, Option.bind_some, ibne]
  by_cases c2 : M12 k n = (L.length : Int)
  case neg =>
    rw [decide_eq_false c2, decide_eq_false (fun r : R12 k q n L => c2 r.2.1.symm)]; rfl
  rw [decide_eq_true c2]
  simp only [Bool.not_true, cond_false]
  by_cases c3 : q < 0
  · rw [decide_eq_true c3, decide_eq_false (fun r : R12 k q n L => by have := r.2.2.1; omega)]; rfl
  by_cases c4 : q > 4294967295
  · rw [decide_eq_false c3, decide_eq_true c4, decide_eq_false (fun r : R12 k q n L => by have := r.2.2.2.1; omega)]; rfl
  unfold lp_coupletref12_Right_0
  rw [decide_eq_false c3, cond_false, decide_eq_false c4, cond_false, show (0 : Int) = ((0 : Nat) : Int) from rfl, loopN_of (L.length + 1) (by omega) (fr_loop k q n b3 b4 L hL L.length 0 (by omega)), Option.bind_some, List.drop_zero]
  by_cases c5 : ∀ x ∈ L, okF x
  · rw [if_pos c5, decide_eq_true (show R12 k q n L from ⟨by omega, c2.symm, by omega, by omega, c5⟩)]; rfl
  · rw [if_neg c5, decide_eq_false (fun r : R12 k q n L => c5 r.2.2.2.2)]; rfl

/-! ### bytes of a frame -/
def body12 (k q n : Int) (L : List Int) : List Int := [78, 86, k, n] ++ le 4 (u64 q) ++ enc8 L
def bytes12 (k q n : Int) (L : List Int) : List Int := body12 k q n L ++ le 4 (crcV (body12 k q n L))
theorem body12_len (k q n : Int) (L : List Int) : (body12 k q n L).length = 8 + 8 * L.length := by
  unfold body12
  simp only [List.length_append, List.length_cons, List.length_nil, le_len, enc8_len]
theorem body12_isB {k q n : Int} {L : List Int} (h0 : 0 ≤ k ∧ k < 256) (h1 : 0 ≤ n ∧ n < 256) : isB (body12 k q n L) := by
  unfold body12
  rw [isB_append, isB_append]
  refine ⟨⟨?_, le_isB _ _⟩, enc8_isB _⟩
  simp only [isB_cons]
  exact ⟨⟨by decide, by decide⟩, ⟨by decide, by decide⟩, h0, h1, isB_nil⟩
theorem bytes12_isB {k q n : Int} {L : List Int} (h0 : 0 ≤ k ∧ k < 256) (h1 : 0 ≤ n ∧ n < 256) : isB (bytes12 k q n L) := isB_append.2 ⟨body12_isB h0 h1, le_isB _ _⟩
theorem bytes12_len (k q n : Int) (L : List Int) : (bytes12 k q n L).length = 12 + 8 * L.length := by
  unfold bytes12
  rw [List.length_append, body12_len, le_len]; omega
theorem wu8 {h : Int} (h0 : 0 ≤ h) (h1 : h ≤ 255) : IntKind.wrap .u8 h = h := by rw [IntKind.wrap_u8]; omega
theorem enc_loop (b11 b12 : Bool) (L : List Int) (hL : L.length ≤ 100) : ∀ (d k : Nat) (acc : List Int), k + d = L.length → acc.length + 8 * d ≤ 10000 →
    iterN (fun x => st_new_frame_Encode_0 x.1 x.2.1 x.2.2.1 x.2.2.2.1 x.2.2.2.2.1 x.2.2.2.2.2.1 x.2.2.2.2.2.2.1 x.2.2.2.2.2.2.2) (d + 1) (b11, b12, L, (L.length : Int), (k : Int), false, false, acc) = some (false, false, acc ++ enc8 (L.drop k))
  | 0, k, acc, hk, hb => by
    obtain rfl : k = L.length := by omega
    have e : st_new_frame_Encode_0 b11 b12 L (L.length : Int) (L.length : Int) false false acc = some (.inr (false, false, acc)) := by
      unfold st_new_frame_Encode_0
      rw [decide_eq_false (Int.lt_irrefl _)]
      rfl
    simp only [iterN, e]
    rw [List.drop_length]
    simp [enc8]
  | d + 1, k, acc, hk, hb => by
    have hk' : k < L.length := by omega
    have hp := fput_at false acc L[k] 8 (by decide) (by omega)
    have e : st_new_frame_Encode_0 b11 b12 L (L.length : Int) (k : Int) false false acc = some (.inl (b11, b12, L, (L.length : Int), ((k + 1 : Nat) : Int), false, false, acc ++ le 8 (u64 L[k]))) := by
      unfold st_new_frame_Encode_0
      rw [Int.toNat_natCast, getD_at hk', show (8 : Int) = ((8 : Nat) : Int) from rfl, hp, decide_eq_true (by omega), decide_eq_true (by omega), decide_eq_true hk', inc64 (by omega)]
      rfl
    rw [iterN]
    simp only [e]
    rw [enc_loop b11 b12 L hL d (k + 1) _ (by omega) (by rw [List.length_append, le_len]; omega), List.drop_eq_getElem_cons hk', List.append_assoc]
    rfl
theorem encode_at {k q n : Int} {L : List Int} (b3 b4 : Bool) (hr : R12 k q n L) : go_new_frame_Encode k q n b3 b4 L = some (false, false, bytes12 k q n L, 0) := by
  have hmb := M12_b k n
  obtain ⟨hk, hn⟩ := M12_pos (k := k) (n := n) (by have := hr.1; omega)
  have hlen := hr.2.1
  have hp := fput_at true [78, 86, k, n] q 4 (by decide) (by simp)
  have hl := enc_loop b3 b4 L (by omega) L.length 0 ([78, 86, k, n] ++ le 4 (u64 q)) (by omega) (by simp only [List.length_append, le_len, List.length_cons, List.length_nil]; omega)
  rw [List.drop_zero] at hl
  have hB := body12_isB (k := k) (n := n) (q := q) (L := L) (by omega) (by omega)
  have hbl := body12_len k q n L
  have hs := sum_at false false (body12 k q n L) hB (by omega)
  have hq := fput_at false (body12 k q n L) (IntKind.wrap .i64 ((crcV (body12 k q n L) : Nat) : Int)) 4 (by decide) (by omega)
  have hcr := crcV_lt hB
  rw [u64_wrap (by omega)] at hq
  unfold go_new_frame_Encode
  rw [fright_at _ _ _ _ _ _ (by omega), decide_eq_true hr, Option.bind_some, Bool.not_true, cond_false, wu8 (by omega) (by omega), wu8 (by omega) (by omega), show (4 : Int) = ((4 : Nat) : Int) from rfl, hp, Option.bind_some]
  dsimp only
  unfold lp_new_frame_Encode_0
  rw [show (0 : Int) = ((0 : Nat) : Int) from rfl, loopN_of (L.length + 1) (by omega) hl, Option.bind_some]
  dsimp only
  rw [show [78, 86, k, n] ++ le 4 (u64 q) ++ enc8 L = body12 k q n L from rfl, hs, Option.bind_some, hq, Option.bind_some]
  rfl
theorem encode_not {k q n : Int} {L : List Int} (b3 b4 : Bool) (hL : L.length < 9223372036854775807) (hr : ¬ R12 k q n L) : go_new_frame_Encode k q n b3 b4 L = some (true, true, [], 1) := by
  unfold go_new_frame_Encode
  rw [fright_at _ _ _ _ _ _ hL, decide_eq_false hr]
  rfl
theorem renc_loop (k q n : Int) (b11 b12 : Bool) (X : List Int) (hL : X.length ≤ 100) : ∀ (d j : Nat) (acc : List Int), j + d = X.length → acc.length + 8 * d ≤ 10000 →
    iterN (fun x => st_coupletref12_Encode_0 x.1 x.2.1 x.2.2.1 x.2.2.2.1 x.2.2.2.2.1 x.2.2.2.2.2.1 x.2.2.2.2.2.2.1 x.2.2.2.2.2.2.2.1 x.2.2.2.2.2.2.2.2.1 x.2.2.2.2.2.2.2.2.2) (d + 1) ((j : Int), k, q, n, b11, b12, X, false, false, acc) =
      some (false, false, acc ++ enc8 (X.drop j))
  | 0, j, acc, hk, hb => by
    obtain rfl : j = X.length := by omega
    have e : st_coupletref12_Encode_0 (X.length : Int) k q n b11 b12 X false false acc = some (.inr (false, false, acc)) := by
      unfold st_coupletref12_Encode_0
      rw [decide_eq_false (Int.lt_irrefl _)]
      rfl
    simp only [iterN, e]
    rw [List.drop_length]
    simp [enc8]
  | d + 1, j, acc, hk, hb => by
    have hk' : j < X.length := by omega
    obtain ⟨b, c, hp⟩ := rbytes_at (u64 X[j]) 8 (by decide) (u64_lt _)
    have e : st_coupletref12_Encode_0 (j : Int) k q n b11 b12 X false false acc = some (.inl (((j + 1 : Nat) : Int), k, q, n, b11, b12, X, false, false, acc ++ le 8 (u64 X[j]))) := by
      unfold st_coupletref12_Encode_0
      rw [Int.toNat_natCast, getD_at hk', wrap_u64', show (8 : Int) = ((8 : Nat) : Int) from rfl, hp, decide_eq_true (by omega), decide_eq_true (by omega), decide_eq_true hk', inc64 (by omega)]
      simp only [cond_true, Option.bind_some, le_len]
      rw [decide_eq_true (by omega), decide_eq_true (by omega)]
      rfl
    rw [iterN]
    simp only [e]
    rw [renc_loop k q n b11 b12 X hL d (j + 1) _ (by omega) (by rw [List.length_append, le_len]; omega), List.drop_eq_getElem_cons hk', List.append_assoc]
    rfl
theorem rencode_at {k q n : Int} {L : List Int} (b3 b4 : Bool) (h0 : 0 ≤ k ∧ k < 256) (h1 : 0 ≤ n ∧ n < 256) (hL : L.length ≤ 100) : go_coupletref12_Encode k q n b3 b4 L = some (false, false, bytes12 k q n L) := by
  obtain ⟨b, c, hp⟩ := rbytes_at (u64 q) 4 (by decide) (u64_lt _)
  have l0 := renc_loop k q n b3 b4 L (by omega) L.length 0 ([78, 86, k, n] ++ le 4 (u64 q)) (by omega) (by simp only [List.length_append, le_len, List.length_cons, List.length_nil]; omega)
  rw [List.drop_zero] at l0
  have hB := body12_isB (k := k) (n := n) (q := q) (L := L) h0 h1
  have hlen := body12_len k q n L
  have hs := ref_sum_at false false (body12 k q n L) hB (by omega)
  have hcr := crcV_lt hB
  obtain ⟨b', c', hq⟩ := rbytes_at (crcV (body12 k q n L)) 4 (by decide) (by omega)
  unfold go_coupletref12_Encode lp_coupletref12_Encode_0
  rw [wu8 h0.1 (by omega), wu8 h1.1 (by omega), wrap_u64', show (4 : Int) = ((4 : Nat) : Int) from rfl, hp, Option.bind_some]
  simp only [le_len, Bool.false_and]
  rw [decide_eq_true (by decide), cond_true, decide_eq_true (by decide), cond_true, show (0 : Int) = ((0 : Nat) : Int) from rfl]
  rw [show (78 :: 86 :: k :: n :: le 4 (u64 q)) = [78, 86, k, n] ++ le 4 (u64 q) from rfl, loopN_of (L.length + 1) (by omega) l0, Option.bind_some]
  dsimp only
  rw [show [78, 86, k, n] ++ le 4 (u64 q) ++ enc8 L = body12 k q n L from rfl, hs, Option.bind_some, wrap_u64_nat (by omega), hq, Option.bind_some]
  simp only [le_len, Bool.false_and]
  rw [decide_eq_true (by omega), decide_eq_true (by omega)]
  rfl
theorem same_at (n0 n1 n2 : Int) (b3 b4 : Bool) (L : List Int) (n6 n7 n8 : Int) (b9 b10 : Bool) (M : List Int) (hL : L.length < 9223372036854775807) :
    go_frame_Same n0 n1 n2 b3 b4 L n6 n7 n8 b9 b10 M = some (decide (n0 = n6 ∧ n1 = n7 ∧ n2 = n8 ∧ L = M)) := by
  unfold go_frame_Same
  rw [ibeq, ibeq, ibeq, equal_at _ _ _ _ L M hL]
  by_cases h1 : n0 = n6
  · by_cases h2 : n1 = n7
    · by_cases h3 : n2 = n8
      · by_cases h4 : L = M
        · simp [h1, h2, h3, h4]
        · simp [h1, h2, h3, h4]
      · simp [h1, h2, h3]
    · simp [h1, h2]
  · simp [h1]
end Go.Proofs

/-
  Frames: what bytes are read as; the laws of layer 12 (plain).
-/
set_option linter.unusedSimpArgs false
set_option linter.unusedVariables false
set_option maxRecDepth 100000
namespace Go.Proofs
open Go Go.Fx

def kd (l : List Int) : Int := l.getD 2 0
def nn (l : List Int) : Int := l.getD 3 0
def mm (l : List Int) : Nat := (M12 (kd l) (nn l)).toNat
open Classical in
/-- What is amiss with bytes. -/
noncomputable def why12 (l : List Int) : Int :=
  if l.length < 12 then 2
  else if ¬ l.take 2 = [78, 86] ∨ mm l = 0 then 4
  else if l.length < 12 + 8 * mm l then 2
  else if 12 + 8 * mm l < l.length then 5
  else if le 4 (crcV (l.take (l.length - 4))) = l.drop (l.length - 4) then 0 else 6
theorem kd_int {l : List Int} (hl : isB l) : IntKind.wrap .i64 (l.getD 2 0) = kd l := by
  have := isB_getD hl 2
  exact w64 (by omega) (by omega)
theorem nn_int {l : List Int} (hl : isB l) : IntKind.wrap .i64 (l.getD 3 0) = nn l := by
  have := isB_getD hl 3
  exact w64 (by omega) (by omega)
theorem mm_int (l : List Int) : M12 (kd l) (nn l) = (mm l : Int) := by
  have := M12_b (kd l) (nn l)
  unfold mm; omega
theorem mm_le (l : List Int) : mm l ≤ 32 := by
  have := M12_b (kd l) (nn l)
  unfold mm; omega

theorem rwhy_at (b0 b1 : Bool) (l : List Int) (hl : isB l) (hn : l.length ≤ 10000) : go_coupletref12_Why b0 b1 l = some (why12 l) := by
  have hm := mm_le l
  unfold go_coupletref12_Why why12
  by_cases c0 : l.length < 12
  · rw [show decide (((l.length : Nat) : Int) < 12) = true from decide_eq_true (by omega), if_pos c0]; rfl
  rw [show decide (((l.length : Nat) : Int) < 12) = false from decide_eq_false (by omega), cond_false, if_neg c0, kd_int hl, nn_int hl, rmany_at, mm_int]
  rw [show decide (3 < ((l.length : Nat) : Int)) = true from decide_eq_true (by omega), show decide (3 < l.length) = true from decide_eq_true (by omega), show decide (0 < ((l.length : Nat) : Int)) = true from decide_eq_true (by omega), show decide (0 < l.length) = true from decide_eq_true (by omega),
    show decide (1 < ((l.length : Nat) : Int)) = true from decide_eq_true (by omega), show decide (1 < l.length) = true from decide_eq_true (by omega), show decide (2 < ((l.length : Nat) : Int)) = true from decide_eq_true (by omega), show decide (2 < l.length) = true from decide_eq_true (by omega)]
  simp only [cond_true, Option.bind_some]
  have h2 := take2 (l := l) (by omega)
  rw [bne_l, bne_l, ibeq]
  by_cases d0 : l.getD 0 0 = 78
  case neg =>
    rw [decide_eq_false d0, if_pos (.inl (by rw [h2]; exact fun h => d0 (List.cons.inj h).1))]; rfl
  by_cases d1 : l.getD 1 0 = 86
  case neg =>
    rw [decide_eq_true d0, decide_eq_false d1, if_pos (.inl (by rw [h2]; exact fun h => d1 (List.cons.inj (List.cons.inj h).2).1))]; rfl
  have d2 : l.take 2 = [78, 86] := by rw [h2, d0, d1]
  rw [decide_eq_true d0, decide_eq_true d1]
  by_cases d3 : mm l = 0
  · rw [show decide (((mm l : Nat) : Int) = 0) = true from decide_eq_true (by omega), if_pos (.inr d3)]; rfl
  rw [show decide (((mm l : Nat) : Int) = 0) = false from decide_eq_false (by omega), if_neg (fun h => h.elim (fun x => x d2) d3)]
  have e16 : IntKind.wrap .i64 (12 + IntKind.wrap .i64 (8 * ((mm l : Nat) : Int))) = ((12 + 8 * mm l : Nat) : Int) := by
    rw [w64 (a := 8 * ((mm l : Nat) : Int)) (by omega) (by omega), w64 (by omega) (by omega)]; omega
  rw [e16]
  simp only [Bool.not_true, cond_false]
  by_cases d5 : l.length < 12 + 8 * mm l
  · rw [show decide (((l.length : Nat) : Int) < ((12 + 8 * mm l : Nat) : Int)) = true from decide_eq_true (by omega), if_pos d5]; rfl
  rw [show decide (((l.length : Nat) : Int) < ((12 + 8 * mm l : Nat) : Int)) = false from decide_eq_false (by omega), if_neg d5, cond_false]
  by_cases d6 : 12 + 8 * mm l < l.length
  · rw [show decide (((l.length : Nat) : Int) > ((12 + 8 * mm l : Nat) : Int)) = true from decide_eq_true (by omega), if_pos d6]; rfl
  have e4 : IntKind.wrap .i64 (((l.length : Nat) : Int) - 4) = ((l.length - 4 : Nat) : Int) := by rw [w64 (by omega) (by omega)]; omega
  have hB := isB_take hl (l.length - 4)
  have hcr := crcV_lt hB
  obtain ⟨b, c, hq⟩ := rbytes_at (crcV (l.take (l.length - 4))) 4 (by decide) (by omega)
  rw [show decide (((l.length : Nat) : Int) > ((12 + 8 * mm l : Nat) : Int)) = false from decide_eq_false (by omega), if_neg d6, cond_false, e4, show decide ((0 : Int) ≤ ((l.length - 4 : Nat) : Int)) = true from decide_eq_true (by omega), cond_true,
    show decide (((l.length - 4 : Nat) : Int) ≤ ((l.length : Nat) : Int)) = true from decide_eq_true (by omega), cond_true, List.drop_zero, show (((l.length - 4 : Nat) : Int) - 0).toNat = l.length - 4 by omega, ref_sum_at b0 false _ hB (by rw [List.length_take]; omega), Option.bind_some,
    wrap_u64_nat (by omega), show (4 : Int) = ((4 : Nat) : Int) from rfl, hq, Option.bind_some]
  dsimp only
  rw [isB_all (le_isB _ _), cond_true, show decide (((l.length : Nat) : Int) ≤ ((l.length : Nat) : Int)) = true from decide_eq_true (by omega), Int.toNat_natCast, show (((l.length : Nat) : Int) - ((l.length - 4 : Nat) : Int)).toNat = 4 by omega]
  rw [List.take_of_length_le (l := l.drop (l.length - 4)) (by rw [List.length_drop]; omega), isB_all (isB_drop hl _), lst_beq]
  simp only [cond_true]
  by_cases d7 : le 4 (crcV (l.take (l.length - 4))) = l.drop (l.length - 4)
  · rw [decide_eq_true d7, if_pos d7]; rfl
  · rw [decide_eq_false d7, if_neg d7]; rfl

theorem dec_loop (b7 b8 : Bool) (l : List Int) (hl : isB l) (m : Nat) (hm : m ≤ 32) (hn : l.length = 12 + 8 * m) (n12 n13 n14 : Int) (b15 b16 : Bool) (l17 : List Int) (n18 n19 n20 : Int) :
    ∀ (d k : Nat) (u v : Bool) (X : List Int), k + d = m → X.length + d ≤ 100 → ∃ w x,
    iterN (fun x => st_frame_Decode_0 x.1 x.2.1 x.2.2.1 x.2.2.2.1 x.2.2.2.2.1 x.2.2.2.2.2.1 x.2.2.2.2.2.2.1 x.2.2.2.2.2.2.2.1 x.2.2.2.2.2.2.2.2.1 x.2.2.2.2.2.2.2.2.2.1 x.2.2.2.2.2.2.2.2.2.2.1 x.2.2.2.2.2.2.2.2.2.2.2.1 x.2.2.2.2.2.2.2.2.2.2.2.2.1 x.2.2.2.2.2.2.2.2.2.2.2.2.2.1 x.2.2.2.2.2.2.2.2.2.2.2.2.2.2.1 x.2.2.2.2.2.2.2.2.2.2.2.2.2.2.2.1 x.2.2.2.2.2.2.2.2.2.2.2.2.2.2.2.2) (d + 1)
      (b7, b8, l, ((8 + 8 * m : Nat) : Int), ((8 + 8 * k : Nat) : Int), n12, n13, n14, b15, b16, l17, n18, n19, n20, u, v, X) =
      some (n12, n13, n14, b15, b16, l17, n18, n19, n20, w, x, X ++ nums l k d)
  | 0, k, u, v, X, hk, hX => by
    obtain rfl : k = m := by omega
    have e : st_frame_Decode_0 b7 b8 l ((8 + 8 * k : Nat) : Int) ((8 + 8 * k : Nat) : Int) n12 n13 n14 b15 b16 l17 n18 n19 n20 u v X = some (.inr (n12, n13, n14, b15, b16, l17, n18, n19, n20, u, v, X)) := by
      unfold st_frame_Decode_0
      rw [decide_eq_false (Int.lt_irrefl _)]
      rfl
    exact ⟨u, v, by simp only [iterN, e, nums, List.range'_zero, List.map_nil, List.append_nil]⟩
  | d + 1, k, u, v, X, hk, hX => by
    have e1 : IntKind.wrap .i64 (((8 + 8 * k : Nat) : Int) + 8) = ((8 + 8 * (k + 1) : Nat) : Int) := by rw [w64 (by omega) (by omega)]; omega
    have t1 : (((8 + 8 * (k + 1) : Nat) : Int) - ((8 + 8 * k : Nat) : Int)).toNat = 8 := by omega
    have g1 := fget_at b7 false ((l.drop (8 + 8 * k)).take 8) (isB_take (isB_drop hl _) _) (by rw [List.length_take]; omega)
    have e : st_frame_Decode_0 b7 b8 l ((8 + 8 * m : Nat) : Int) ((8 + 8 * k : Nat) : Int) n12 n13 n14 b15 b16 l17 n18 n19 n20 u v X =
        some (.inl (b7, b8, l, ((8 + 8 * m : Nat) : Int), ((8 + 8 * (k + 1) : Nat) : Int), n12, n13, n14, b15, b16, l17, n18, n19, n20, (u && false), false, X ++ [num l k])) := by
      unfold st_frame_Decode_0
      rw [e1, t1, Int.toNat_natCast, g1]
      simp only [Option.bind_some]
      rw [show decide (((8 + 8 * k : Nat) : Int) < ((8 + 8 * m : Nat) : Int)) = true from decide_eq_true (by omega), show decide ((0 : Int) ≤ ((8 + 8 * k : Nat) : Int)) = true from decide_eq_true (by omega), show decide (((8 + 8 * k : Nat) : Int) ≤ ((8 + 8 * (k + 1) : Nat) : Int)) = true from decide_eq_true (by omega),
        show decide (((8 + 8 * (k + 1) : Nat) : Int) ≤ ((l.length : Nat) : Int)) = true from decide_eq_true (by omega), show decide ((X.length + 1) * 8 ≤ 140737488355328) = true from decide_eq_true (by omega), show decide (X.length + 1 ≤ 4611686018427387904) = true from decide_eq_true (by omega)]
      rfl
    obtain ⟨w, x, ih⟩ := dec_loop b7 b8 l hl m hm hn n12 n13 n14 b15 b16 l17 n18 n19 n20 d (k + 1) (u && false) false (X ++ [num l k]) (by omega) (by simp; omega)
    refine ⟨w, x, ?_⟩
    rw [iterN]
    simp only [e]
    rw [ih]
    simp only [nums, List.range'_succ, List.map_cons, List.append_assoc, List.singleton_append]
/-- What bytes are read as. -/
theorem decode_at (b0 b1 : Bool) (l : List Int) (hl : isB l) (hn : l.length ≤ 10000) : (why12 l ≠ 0 ∧ go_frame_Decode b0 b1 l = some (0, 0, 0, true, true, [], why12 l)) ∨
    (why12 l = 0 ∧ ((R12 (kd l) (seqN l) (nn l) (nums l 0 (mm l)) ∧ ∃ u v, go_frame_Decode b0 b1 l = some (kd l, seqN l, nn l, u, v, nums l 0 (mm l), 0)) ∨
      (¬ R12 (kd l) (seqN l) (nn l) (nums l 0 (mm l)) ∧ go_frame_Decode b0 b1 l = some (0, 0, 0, true, true, [], 3)))) := by
  have hm := mm_le l
  unfold go_frame_Decode why12
  by_cases c0 : l.length < 12
  · rw [show decide (((l.length : Nat) : Int) < 12) = true from decide_eq_true (by omega), if_pos c0]
    exact .inl ⟨by decide, rfl⟩
  have g4 := fget_at b0 false ((l.drop 4).take 4) (isB_take (isB_drop hl _) _) (by rw [List.length_take]; omega)
  rw [w4 (isB_take (isB_drop hl _) _) (by rw [List.length_take]; omega)] at g4
  have g4 : go_frame_get b0 false ((l.drop 4).take 4) = some (seqN l) := g4
  rw [show decide (((l.length : Nat) : Int) < 12) = false from decide_eq_false (by omega), cond_false, if_neg c0, kd_int hl, nn_int hl, many_at, mm_int]
  rw [show decide (2 < ((l.length : Nat) : Int)) = true from decide_eq_true (by omega), show decide (2 < l.length) = true from decide_eq_true (by omega), show decide (8 ≤ ((l.length : Nat) : Int)) = true from decide_eq_true (by omega), g4,
    show decide (3 < ((l.length : Nat) : Int)) = true from decide_eq_true (by omega), show decide (3 < l.length) = true from decide_eq_true (by omega), show decide (2 ≤ ((l.length : Nat) : Int)) = true from decide_eq_true (by omega), List.drop_zero, isB_all (isB_take hl 2), lst_beq]
  simp only [cond_true, Option.bind_some]
  rw [ibeq]
  by_cases d2 : l.take 2 = [78, 86]
  case neg =>
    rw [decide_eq_false d2, if_pos (.inl d2)]
    exact .inl ⟨by decide, rfl⟩
  rw [decide_eq_true d2, Bool.not_true, cond_false]
  by_cases d3 : mm l = 0
  · rw [show decide (((mm l : Nat) : Int) = 0) = true from decide_eq_true (by omega), if_pos (.inr d3)]
    exact .inl ⟨by decide, rfl⟩
  rw [show decide (((mm l : Nat) : Int) = 0) = false from decide_eq_false (by omega), cond_false, if_neg (fun h => h.elim (fun x => x d2) d3)]
  have e16 : IntKind.wrap .i64 (8 + IntKind.wrap .i64 (8 * ((mm l : Nat) : Int))) = ((8 + 8 * mm l : Nat) : Int) := by
    rw [w64 (a := 8 * ((mm l : Nat) : Int)) (by omega) (by omega), w64 (by omega) (by omega)]; omega
  have e12 : IntKind.wrap .i64 (((8 + 8 * mm l : Nat) : Int) + 4) = ((12 + 8 * mm l : Nat) : Int) := by rw [w64 (by omega) (by omega)]; omega
  rw [e16, e12]
  by_cases d5 : l.length < 12 + 8 * mm l
  · rw [show decide (((l.length : Nat) : Int) < ((12 + 8 * mm l : Nat) : Int)) = true from decide_eq_true (by omega), if_pos d5]
    exact .inl ⟨by decide, rfl⟩
  rw [show decide (((l.length : Nat) : Int) < ((12 + 8 * mm l : Nat) : Int)) = false from decide_eq_false (by omega), if_neg d5, cond_false]
  by_cases d6 : 12 + 8 * mm l < l.length
  · rw [show decide (((l.length : Nat) : Int) > ((12 + 8 * mm l : Nat) : Int)) = true from decide_eq_true (by omega), if_pos d6]
    exact .inl ⟨by decide, rfl⟩
  have hlen : l.length = 12 + 8 * mm l := by omega
  have hB := isB_take hl (8 + 8 * mm l)
  have hD4 : (l.drop (8 + 8 * mm l)).length = 4 := by rw [List.length_drop]; omega
  have hcr := crcV_lt hB
  have gd := fget_at b0 b1 (l.drop (8 + 8 * mm l)) (isB_drop hl _) (by omega)
  rw [w4 (isB_drop hl _) (by omega)] at gd
  have hs := sum_at b0 false (l.take (8 + 8 * mm l)) hB (by rw [List.length_take]; omega)
  rw [show decide (((l.length : Nat) : Int) > ((12 + 8 * mm l : Nat) : Int)) = false from decide_eq_false (by omega), if_neg d6, cond_false, show decide ((0 : Int) ≤ ((8 + 8 * mm l : Nat) : Int)) = true from decide_eq_true (by omega),
    show decide (((8 + 8 * mm l : Nat) : Int) ≤ ((l.length : Nat) : Int)) = true from decide_eq_true (by omega), show decide (((l.length : Nat) : Int) ≤ ((l.length : Nat) : Int)) = true from decide_eq_true (by omega), Int.toNat_natCast,
    show (((l.length : Nat) : Int) - ((8 + 8 * mm l : Nat) : Int)).toNat = 4 by omega, List.take_of_length_le (l := l.drop (8 + 8 * mm l)) (by omega), gd, show (((8 + 8 * mm l : Nat) : Int) - 0).toNat = 8 + 8 * mm l by omega, hs]
  simp only [cond_true, Option.bind_some]
  rw [w64 (a := ((crcV (l.take (8 + 8 * mm l)) : Nat) : Int)) (by omega) (by omega), bne_l]
  have hiff : ((val (l.drop (8 + 8 * mm l)) : Nat) : Int) = ((crcV (l.take (8 + 8 * mm l)) : Nat) : Int) ↔ le 4 (crcV (l.take (l.length - 4))) = l.drop (l.length - 4) := by
    rw [show l.length - 4 = 8 + 8 * mm l by omega]
    constructor
    · intro h
      refine val_inj (le_isB _ _) (isB_drop hl _) (by rw [le_len, hD4]) ?_
      rw [val_le]
      omega
    · intro h
      rw [← h, val_le]
      omega
  by_cases d7 : ((val (l.drop (8 + 8 * mm l)) : Nat) : Int) = ((crcV (l.take (8 + 8 * mm l)) : Nat) : Int)
  case neg =>
    rw [decide_eq_false d7, if_neg (mt hiff.2 d7)]
    exact .inl ⟨by decide, rfl⟩
  rw [decide_eq_true d7, if_pos (hiff.1 d7), Bool.not_true, cond_false]
  refine .inr ⟨rfl, ?_⟩
  obtain ⟨w, x, hL⟩ := dec_loop b0 b1 l hl (mm l) (by omega) hlen 0 0 0 true true [] (kd l) (seqN l) (nn l) (mm l) 0 true true [] (by omega) (by simp; omega)
  rw [List.nil_append, show ((8 + 8 * 0 : Nat) : Int) = 8 from rfl] at hL
  unfold lp_frame_Decode_0
  rw [loopN_of (mm l + 1) (by omega) hL, Option.bind_some]
  dsimp only
  rw [fright_at _ _ _ _ _ _ (by simp [nums]; omega), Option.bind_some]
  by_cases hR : R12 (kd l) (seqN l) (nn l) (nums l 0 (mm l))
  · rw [decide_eq_true hR]
    exact .inl ⟨hR, w, x, rfl⟩
  · rw [decide_eq_false hR]
    exact .inr ⟨hR, rfl⟩

/-- The bytes of a frame, read. -/
theorem bytes_read {k q n : Int} {L : List Int} (hM : 0 < M12 k n) (hL : (L.length : Int) = M12 k n) (q0 : 0 ≤ q) (q1 : q ≤ 4294967295) (hb : ∀ x ∈ L, i64b x) : why12 (bytes12 k q n L) = 0 ∧ kd (bytes12 k q n L) = k ∧ nn (bytes12 k q n L) = n ∧ seqN (bytes12 k q n L) = q ∧
    mm (bytes12 k q n L) = L.length ∧ nums (bytes12 k q n L) 0 L.length = L := by
  have hmb := M12_b k n
  have e : bytes12 k q n L = ([78, 86, k, n] ++ le 4 (u64 q)) ++ (enc8 L ++ le 4 (crcV (body12 k q n L))) := by
    unfold bytes12 body12
    rw [List.append_assoc]
  have ha : ([78, 86, k, n] ++ le 4 (u64 q)).length = 8 := by rw [List.length_append, le_len]; rfl
  have eh : kd (bytes12 k q n L) = k := by rw [e]; rfl
  have ec : nn (bytes12 k q n L) = n := by rw [e]; rfl
  have em : mm (bytes12 k q n L) = L.length := by unfold mm; rw [eh, ec]; omega
  have es : seqN (bytes12 k q n L) = q := by
    rw [e]
    unfold seqN
    rw [List.append_assoc, show ([78, 86, k, n] ++ (le 4 (u64 q) ++ (enc8 L ++ le 4 (crcV (body12 k q n L))))).drop 4 = le 4 (u64 q) ++ (enc8 L ++ le 4 (crcV (body12 k q n L))) from rfl,
      List.take_left' (le_len _ _), val_le, seq_u64 q0 q1]
  have eX : nums (bytes12 k q n L) 0 L.length = L := by
    rw [e, nums_of ha hb 0 L.length (by omega), List.drop_zero, List.take_of_length_le (by omega)]
  refine ⟨?_, eh, ec, es, em, eX⟩
  have hl := bytes12_len k q n L
  have hbl := body12_len k q n L
  unfold why12
  rw [if_neg (by omega), em, if_neg, if_neg (by omega), if_neg (by omega), if_pos]
  · unfold bytes12
    rw [show (body12 k q n L ++ le 4 (crcV (body12 k q n L))).length - 4 = (body12 k q n L).length by rw [List.length_append, le_len]; omega, List.take_left, List.drop_left]
  · rintro (h | h)
    · exact h (by rw [e]; rfl)
    · omega
theorem read12 {k q n : Int} {L : List Int} (hr : R12 k q n L) : why12 (bytes12 k q n L) = 0 ∧ kd (bytes12 k q n L) = k ∧ nn (bytes12 k q n L) = n ∧ seqN (bytes12 k q n L) = q ∧ mm (bytes12 k q n L) = L.length ∧ nums (bytes12 k q n L) 0 L.length = L :=
  bytes_read hr.1 hr.2.1 hr.2.2.1 hr.2.2.2.1 fun x hx => okF_i64 (hr.2.2.2.2 x hx)
theorem take4_of {l : List Int} (h : 4 ≤ l.length) (h2 : [78, 86] = [l.getD 0 0, l.getD 1 0]) : l.take 4 = [78, 86, l.getD 2 0, l.getD 3 0] := by
  match l, h with
  | a :: b :: c :: d :: r, _ =>
    have e1 : (78 : Int) = a := (List.cons.inj h2).1
    have e2 : (86 : Int) = b := (List.cons.inj (List.cons.inj h2).2).1
    rw [e1, e2]
    rfl
theorem read_bytes {l : List Int} (hl : isB l) (h0 : why12 l = 0) : bytes12 (kd l) (seqN l) (nn l) (nums l 0 (mm l)) = l := by
  unfold why12 at h0
  by_cases c0 : l.length < 12
  · rw [if_pos c0] at h0; exact absurd h0 (by decide)
  rw [if_neg c0] at h0
  split at h0
  · exact absurd h0 (by decide)
  rename_i c1
  split at h0
  · exact absurd h0 (by decide)
  split at h0
  · exact absurd h0 (by decide)
  split at h0
  case isFalse => exact absurd h0 (by decide)
  rename_i c2 c3 c4
  have hlen : l.length = 12 + 8 * mm l := by omega
  have d2 : l.take 2 = [78, 86] := Classical.byContradiction fun h => c1 (.inl h)
  have h2 := take2 (l := l) (by omega)
  rw [d2] at h2
  have e4 : l.take 4 = [78, 86, kd l, nn l] := take4_of (by omega) h2
  have hs : isB ((l.drop 4).take 4) := isB_take (isB_drop hl _) _
  have hsl : ((l.drop 4).take 4).length = 4 := by rw [List.length_take, List.length_drop]; omega
  have hv := val_lt _ hs
  rw [hsl] at hv
  have eq4 : le 4 (u64 (seqN l)) = (l.drop 4).take 4 := by
    have hu : u64 (seqN l) = val ((l.drop 4).take 4) := by unfold seqN u64; omega
    rw [hu]
    have := le_val _ hs
    rw [hsl] at this
    exact this
  have hbody : body12 (kd l) (seqN l) (nn l) (nums l 0 (mm l)) = l.take (l.length - 4) := by
    unfold body12
    rw [← e4, eq4, enc8_nums l hl _ 0 (by omega), ← List.take_add, Nat.mul_zero]
    rw [show l.length - 4 = (4 + 4) + 8 * mm l by omega, List.take_add (i := 4 + 4)]
  unfold bytes12
  rw [hbody, c4, List.take_append_drop]
theorem awake12 : go_coupletlaw12_awake = some true := by
  have hr : R12 3 7 1 [1, 2, -3] := by decide
  have hb := read12 hr
  have hB := bytes12_isB (k := 3) (q := 7) (n := 1) (L := [1, 2, -3]) (by decide) (by decide)
  have hl := bytes12_len 3 7 1 [1, 2, -3]
  unfold go_coupletlaw12_awake
  rw [encode_at _ _ hr, Option.bind_some]
  dsimp only
  rcases decode_at false false (bytes12 3 7 1 [1, 2, -3]) hB (by rw [hl]; simp) with ⟨h1, _⟩ | ⟨_, h1⟩
  · exact absurd hb.1 h1
  rw [hb.2.1, hb.2.2.1, hb.2.2.2.1, hb.2.2.2.2.1, hb.2.2.2.2.2] at h1
  rcases h1 with ⟨_, u, v, h1⟩ | ⟨h1, _⟩
  case inr => exact absurd hr h1
  rw [h1, Option.bind_some]
  simp only [beq_self_eq_true, cond_true]
  rw [same_at _ _ _ _ _ _ _ _ _ _ _ _ (by decide), Option.bind_some, many_at, Option.bind_some, fright_at _ _ _ _ _ _ (by decide), Option.bind_some, decide_eq_true hr, hl]
  rfl
end Go.Proofs

/-
  Laws of layer 12 (plain).
-/
set_option linter.unusedSimpArgs false
set_option linter.unusedVariables false
set_option maxRecDepth 100000
namespace Go.Proofs
open Go Go.Fx

theorem M12_out {k n : Int} (h : k < 1 ∨ k > 3 ∨ n < 1 ∨ n > 4) : M12 k n = 0 := by
  by_cases h0 : M12 k n = 0
  · exact h0
  · have := M12_pos h0
    omega
theorem M12_in {k n : Int} (h : ¬ (k < 1 ∨ k > 3 ∨ n < 1 ∨ n > 4)) : 2 ≤ M12 k n := by
  have hk : k = 1 ∨ k = 2 ∨ k = 3 := by omega
  rcases hk with rfl | rfl | rfl <;> rcases four (n := n) (by omega) (by omega) with rfl | rfl | rfl | rfl <;> decide
theorem law_FrameMany {n0 n1 : Int} (w0 : (Lit.int .i64 n0).wf = true) (w1 : (Lit.int .i64 n1).wf = true) : go_coupletlaw12_FrameMany n0 n1 = some true := by
  unfold go_coupletlaw12_FrameMany
  rw [many_at, awake12, rmany_at, Option.bind_some]
  simp only [Option.bind_some]
  have hb := M12_b n0 n1
  by_cases s1 : n0 < 1
  · rw [decide_eq_true s1, M12_out (.inl s1)]; rfl
  by_cases s2 : n0 > 3
  · rw [decide_eq_false s1, decide_eq_true s2, M12_out (.inr (.inl s2))]; rfl
  by_cases s3 : n1 < 1
  · rw [decide_eq_false s1, decide_eq_false s2, decide_eq_true s3, M12_out (.inr (.inr (.inl s3)))]; rfl
  by_cases s4 : n1 > 4
  · rw [decide_eq_false s1, decide_eq_false s2, decide_eq_false s3, decide_eq_true s4, M12_out (.inr (.inr (.inr s4)))]; rfl
  have h2 := M12_in (k := n0) (n := n1) (by omega)
  rw [decide_eq_false s1, decide_eq_false s2, decide_eq_false s3, decide_eq_false s4, decide_eq_true (show M12 n0 n1 ≥ 2 from h2), decide_eq_true hb.2, beq_self_eq_true]
  rfl
theorem encode_not' {k q n : Int} {L : List Int} (b3 b4 : Bool) (hr : ¬ R12 k q n L) : go_new_frame_Encode k q n b3 b4 L = some (true, true, [], 1) := by
  have hb := M12_b k n
  by_cases c2 : (L.length : Int) = M12 k n
  · exact encode_not b3 b4 (by omega) hr
  · unfold go_new_frame_Encode go_frame_Right
    rw [many_at, Option.bind_some, ibeq, decide_eq_false c2]
    cases decide (M12 k n > 0) <;> rfl
theorem R12_b {k q n : Int} {L : List Int} (hr : R12 k q n L) : (0 ≤ k ∧ k < 256) ∧ (0 ≤ n ∧ n < 256) ∧ L.length ≤ 32 := by
  have h1 := hr.1
  have h2 := hr.2.1
  have h3 := M12_b k n
  have := M12_pos (k := k) (n := n) (by omega)
  omega
theorem law_FrameEncodes {n0 n1 n2 : Int} {b3 b4 : Bool} {l5 : List Int} (w0 : (Lit.int .i64 n0).wf = true) (w1 : (Lit.int .i64 n1).wf = true) (w2 : (Lit.int .i64 n2).wf = true) (w3 : l5.length ≤ maxLen) (c3 : ∀ x ∈ l5, (Lit.int .i64 x).wf = true) (g3 : b3 = true → l5 = []) :
    go_coupletlaw12_FrameEncodes n0 n1 n2 b3 b4 l5 = some true := by
  unfold go_coupletlaw12_FrameEncodes
  rw [awake12]
  by_cases s1 : ((l5.length : Nat) : Int) > 40
  · rw [decide_eq_true s1]; rfl
  rw [decide_eq_false s1, cond_false, many_at, rmany_at]
  have hle : l5.length < 9223372036854775807 := by omega
  by_cases hr : R12 n0 n1 n2 l5
  · obtain ⟨hk, hn, hm⟩ := R12_b hr
    have hB := bytes12_isB (q := n1) (L := l5) hk hn
    have hb := read12 hr
    have hl := bytes12_len n0 n1 n2 l5
    rw [encode_at _ _ hr, Option.bind_some]
    unfold go_coupletlaw12_Given
    simp only [Option.bind_some, bne_self_eq_false, cond_false]
    rw [rfright_at _ _ _ _ _ _ hle, decide_eq_true hr, Option.bind_some, Bool.not_true, cond_false]
    rcases decode_at false false (bytes12 n0 n1 n2 l5) hB (by omega) with ⟨h1, _⟩ | ⟨_, h1⟩
    · exact absurd hb.1 h1
    rw [hb.2.1, hb.2.2.1, hb.2.2.2.1, hb.2.2.2.2.1, hb.2.2.2.2.2] at h1
    rcases h1 with ⟨_, u, v, h1⟩ | ⟨h1, _⟩
    case inr => exact absurd hr h1
    rw [h1, Option.bind_some, isB_all hB, cond_true, rencode_at _ _ hk hn (by omega), Option.bind_some]
    dsimp only
    rw [isB_all hB, cond_true]
    simp only [beq_self_eq_true, cond_true]
    rw [same_at _ _ _ _ _ _ _ _ _ _ _ _ hle, Option.bind_some, decide_eq_true ⟨rfl, rfl, rfl, rfl⟩, cond_true, fright_at _ _ _ _ _ _ hle, decide_eq_true hr]
    rfl
  · rw [encode_not _ _ hle hr, Option.bind_some]
    unfold go_coupletlaw12_Given
    simp only [Option.bind_some, bne_self_eq_false, cond_false]
    rw [rfright_at _ _ _ _ _ _ hle, decide_eq_false hr, Option.bind_some, fright_at _ _ _ _ _ _ hle, decide_eq_false hr]
    rfl
theorem law_FrameDecodes {b0 b1 : Bool} {l2 : List Int} (w0 : l2.length ≤ maxLen) (c0 : ∀ x ∈ l2, (Lit.int .u8 x).wf = true) (g0 : b0 = true → l2 = []) : go_coupletlaw12_FrameDecodes b0 b1 l2 = some true := by
  unfold go_coupletlaw12_FrameDecodes
  rw [awake12]
  by_cases s1 : ((l2.length : Nat) : Int) > 600
  · rw [decide_eq_true s1]; rfl
  have hl := isB_wf c0
  rw [decide_eq_false s1, cond_false]
  rcases decode_at b0 b1 l2 hl (by omega) with ⟨h1, h2⟩ | ⟨h1, ⟨hr, u, v, h2⟩ | ⟨hr, h2⟩⟩
  · rw [h2, Option.bind_some, rwhy_at b0 b1 l2 hl (by omega), Option.bind_some, bne_l, decide_eq_false h1, Bool.not_false, cond_true]
    simp only [beq_self_eq_true, cond_true]
    rw [same_at _ _ _ _ _ _ _ _ _ _ _ _ (by decide)]
    rfl
  · obtain ⟨hk, hn, hm⟩ := R12_b hr
    have hB := bytes12_isB (q := seqN l2) (L := nums l2 0 (mm l2)) hk hn
    have he := read_bytes hl h1
    rw [h2, Option.bind_some, rwhy_at b0 b1 l2 hl (by omega), Option.bind_some, h1]
    unfold go_coupletlaw12_Given
    simp only [bne_self_eq_false, cond_false, beq_self_eq_true, cond_true, Option.bind_some]
    rw [rfright_at _ _ _ _ _ _ (by omega), decide_eq_true hr, Option.bind_some, cond_true, rencode_at _ _ hk hn (by omega), Option.bind_some]
    dsimp only
    rw [isB_all hB, isB_all hl, he]
    simp only [beq_self_eq_true, cond_true]
  · rw [h2, Option.bind_some, rwhy_at b0 b1 l2 hl (by omega), Option.bind_some, h1]
    rw [show ((0 : Int) != 0) = false from rfl, cond_false, show ((3 : Int) == 0) = false from rfl, cond_false, show ((3 : Int) == 3) = true from rfl, cond_true, same_at _ _ _ _ _ _ _ _ _ _ _ _ (by decide)]
    rfl
theorem bytes_same {k q n k' q' n' : Int} {L L' : List Int} (hr : R12 k q n L) (hr' : R12 k' q' n' L') : bytes12 k q n L = bytes12 k' q' n' L' ↔ (k = k' ∧ q = q' ∧ n = n' ∧ L = L') := by
  constructor
  · intro e
    have a := read12 hr
    have b := read12 hr'
    rw [e] at a
    have e3 : L.length = L'.length := a.2.2.2.2.1.symm.trans b.2.2.2.2.1
    have e4 := a.2.2.2.2.2
    rw [e3] at e4
    exact ⟨a.2.1.symm.trans b.2.1, a.2.2.2.1.symm.trans b.2.2.2.1, a.2.2.1.symm.trans b.2.2.1, e4.symm.trans b.2.2.2.2.2⟩
  · rintro ⟨rfl, rfl, rfl, rfl⟩
    rfl
theorem law_FrameLong {n0 n1 n2 : Int} {b3 b4 : Bool} {l5 : List Int} {n6 n7 n8 : Int} {b9 b10 : Bool} {l11 : List Int} (w0 : (Lit.int .i64 n0).wf = true) (w1 : (Lit.int .i64 n1).wf = true) (w2 : (Lit.int .i64 n2).wf = true) (w3 : l5.length ≤ maxLen) (c3 : ∀ x ∈ l5, (Lit.int .i64 x).wf = true) (g3 : b3 = true → l5 = [])
    (w5 : (Lit.int .i64 n6).wf = true) (w6 : (Lit.int .i64 n7).wf = true) (w7 : (Lit.int .i64 n8).wf = true) (w8 : l11.length ≤ maxLen) (c8 : ∀ x ∈ l11, (Lit.int .i64 x).wf = true) (g8 : b9 = true → l11 = []) :
    go_coupletlaw12_FrameLong n0 n1 n2 b3 b4 l5 n6 n7 n8 b9 b10 l11 = some true := by
  unfold go_coupletlaw12_FrameLong
  rw [awake12]
  by_cases hr : R12 n0 n1 n2 l5
  case neg =>
    rw [encode_not' _ _ hr, Option.bind_some]
    by_cases hr' : R12 n6 n7 n8 l11
    · rw [encode_at _ _ hr', Option.bind_some]
      cases decide (((l5.length : Nat) : Int) > 40) <;> cases decide (((l11.length : Nat) : Int) > 40) <;> rfl
    · rw [encode_not' _ _ hr', Option.bind_some]
      cases decide (((l5.length : Nat) : Int) > 40) <;> cases decide (((l11.length : Nat) : Int) > 40) <;> rfl
  rw [encode_at _ _ hr, Option.bind_some]
  by_cases hr' : R12 n6 n7 n8 l11
  case neg =>
    rw [encode_not' _ _ hr', Option.bind_some]
    cases decide (((l5.length : Nat) : Int) > 40) <;> cases decide (((l11.length : Nat) : Int) > 40) <;> rfl
  obtain ⟨k1, k2, k3⟩ := R12_b hr
  obtain ⟨k4, k5, k6⟩ := R12_b hr'
  have hB := bytes12_isB (q := n1) (L := l5) k1 k2
  have hB' := bytes12_isB (q := n7) (L := l11) k4 k5
  rw [encode_at _ _ hr', Option.bind_some, decide_eq_false (by omega), cond_false, decide_eq_false (by omega), cond_false]
  simp only [bne_self_eq_false, cond_false]
  have e16 : IntKind.wrap .i64 (12 + IntKind.wrap .i64 (8 * ((l5.length : Nat) : Int))) = ((12 + 8 * l5.length : Nat) : Int) := by
    rw [w64 (a := 8 * ((l5.length : Nat) : Int)) (by omega) (by omega), w64 (by omega) (by omega)]; omega
  rw [e16, bytes12_len, beq_self_eq_true, cond_true, isB_all hB, cond_true, isB_all hB', cond_true,
    same_at _ _ _ _ _ _ _ _ _ _ _ _ (by omega), Option.bind_some, lst_beq]
  rw [show decide (bytes12 n0 n1 n2 l5 = bytes12 n6 n7 n8 l11) = decide (n0 = n6 ∧ n1 = n7 ∧ n2 = n8 ∧ l5 = l11) from decide_eq_decide.2 (bytes_same hr hr'), beq_self_eq_true]
  rfl

theorem R12_set {k q n v : Int} {L : List Int} {i : Nat} (hi : i < L.length) (hr : R12 k q n L) : R12 k q n (L.set i v) ↔ okF v := by
  constructor
  · intro h
    exact h.2.2.2.2 v (List.mem_iff_getElem?.2 ⟨i, List.getElem?_set_self hi⟩)
  · intro h
    refine ⟨hr.1, by rw [List.length_set]; exact hr.2.1, hr.2.2.1, hr.2.2.2.1, fun x hx => ?_⟩
    rcases List.mem_or_eq_of_mem_set hx with h1 | h1
    · exact hr.2.2.2.2 x h1
    · exact h1 ▸ h
theorem set_i64 {v : Int} {L : List Int} {i : Nat} (hL : ∀ x ∈ L, okF x) (hv : i64b v) : ∀ x ∈ L.set i v, i64b x := fun x hx => by
  rcases List.mem_or_eq_of_mem_set hx with h1 | h1
  · exact okF_i64 (hL x h1)
  · exact h1 ▸ hv
theorem getD_set {L : List Int} {i : Nat} (v : Int) (hi : i < L.length) : (L.set i v).getD i 0 = v := by
  rw [List.getD_eq_getElem?_getD, List.getElem?_set_self hi]; rfl
theorem law_FrameRange {n0 n1 n2 : Int} {b3 b4 : Bool} {l5 : List Int} {n6 n7 : Int} (w0 : (Lit.int .i64 n0).wf = true) (w1 : (Lit.int .i64 n1).wf = true) (w2 : (Lit.int .i64 n2).wf = true) (w3 : l5.length ≤ maxLen) (c3 : ∀ x ∈ l5, (Lit.int .i64 x).wf = true) (g3 : b3 = true → l5 = [])
    (w4 : (Lit.int .i64 n6).wf = true) (w5 : (Lit.int .i64 n7).wf = true) : go_coupletlaw12_FrameRange n0 n1 n2 b3 b4 l5 n6 n7 = some true := by
  unfold go_coupletlaw12_FrameRange
  rw [awake12]
  by_cases s1 : ((l5.length : Nat) : Int) > 40
  · rw [decide_eq_true s1]; rfl
  rw [decide_eq_false s1, cond_false]
  have hle : l5.length < 9223372036854775807 := by omega
  unfold go_coupletlaw12_Given
  simp only [Option.bind_some]
  rw [rfright_at _ _ _ _ _ _ hle, Option.bind_some]
  by_cases hr : R12 n0 n1 n2 l5
  case neg => rw [decide_eq_false hr]; rfl
  rw [decide_eq_true hr, Bool.not_true, cond_false]
  by_cases s2 : n6 < 0
  · rw [decide_eq_true s2]; rfl
  rw [decide_eq_false s2, cond_false]
  by_cases s3 : n6 ≥ ((l5.length : Nat) : Int)
  · rw [decide_eq_true s3]; rfl
  obtain ⟨i, rfl⟩ : ∃ i : Nat, n6 = (i : Int) := ⟨n6.toNat, by omega⟩
  have hi : i < l5.length := by omega
  obtain ⟨k1, k2, k3⟩ := R12_b hr
  have hls : (l5.set i n7).length = l5.length := List.length_set ..
  have hb := bytes_read (k := n0) (q := n1) (n := n2) (L := l5.set i n7) hr.1 (by rw [hls]; exact hr.2.1) hr.2.2.1 hr.2.2.2.1 (set_i64 hr.2.2.2.2 (wf64b w5))
  have hB := bytes12_isB (q := n1) (L := l5.set i n7) k1 k2
  have hl := bytes12_len n0 n1 n2 (l5.set i n7)
  rw [hls] at hl
  rw [decide_eq_false s3, cond_false, List.nil_append, Int.toNat_natCast, rencode_at _ _ k1 k2 (by rw [hls]; omega), Option.bind_some,
    show decide ((0 + l5.length) * 8 ≤ 140737488355328) = true from decide_eq_true (by omega), show decide (0 + l5.length ≤ 4611686018427387904) = true from decide_eq_true (by omega), show decide ((0 : Int) ≤ (i : Int)) = true from decide_eq_true (by omega),
    show decide ((i : Int) < ((l5.length : Nat) : Int)) = true from decide_eq_true (by omega), show decide (i < l5.length) = true from decide_eq_true hi]
  simp only [cond_true]
  rcases decode_at false false (bytes12 n0 n1 n2 (l5.set i n7)) hB (by omega) with ⟨h1, _⟩ | ⟨_, h1⟩
  · exact absurd hb.1 h1
  rw [hb.2.1, hb.2.2.1, hb.2.2.2.1, hb.2.2.2.2.1, hb.2.2.2.2.2, R12_set hi hr] at h1
  rcases h1 with ⟨ho, u, v, h1⟩ | ⟨ho, h1⟩
  · rw [h1, Option.bind_some]
    dsimp only
    rw [hls, getD_set n7 hi, show decide (n7 ≥ -1125899906842624) = true from decide_eq_true ho.1, show decide (n7 ≤ 1125899906842624) = true from decide_eq_true ho.2]
    simp only [cond_true, beq_self_eq_true]
    rw [show decide ((i : Int) < ((l5.length : Nat) : Int)) = true from decide_eq_true (by omega), show decide (i < l5.length) = true from decide_eq_true hi]
    rfl
  · rw [h1, Option.bind_some]
    dsimp only
    rw [show ((3 : Int) == 0) = false from rfl, show ((3 : Int) == 3) = true from rfl, same_at _ _ _ _ _ _ _ _ _ _ _ _ (by decide)]
    by_cases s5 : n7 ≥ -1125899906842624
    · have s6 : ¬ n7 ≤ 1125899906842624 := fun h => ho ⟨s5, h⟩
      rw [decide_eq_true s5, decide_eq_false s6]; rfl
    · rw [decide_eq_false s5]; rfl

end Go.Proofs

/-
  A byte of bytes that were told as sound, turned (plain).
-/
set_option linter.unusedSimpArgs false
set_option linter.unusedVariables false
set_option maxRecDepth 100000
namespace Go.Proofs
open Go Go.Fx

theorem crc_set {l : List Int} (hl : isB l) {n c : Nat} (hc : c < l.length) {y : Int} (hy : 0 ≤ y ∧ y < 256) (h1 : le 4 (crcV (l.take n)) = l.drop n) (h2 : le 4 (crcV ((l.set c y).take n)) = (l.set c y).drop n) : y = l[c] := by
  have hx := hl _ (List.getElem_mem hc)
  have hs : isB (l.set c y) := fun z hz => by
    rcases List.mem_or_eq_of_mem_set hz with h | h
    · exact hl z h
    · exact h ▸ hy
  by_cases hcn : c < n
  · rw [List.drop_set_of_lt hcn, ← h1] at h2
    have e1 := congrArg val h2
    have k1 := crcV_lt (isB_take hs n)
    have k2 := crcV_lt (isB_take hl n)
    rw [val_le, val_le, Nat.mod_eq_of_lt k1, Nat.mod_eq_of_lt k2, List.take_set] at e1
    have hct : c < (l.take n).length := by rw [List.length_take]; omega
    have e2 : l.take n = (l.take n).take c ++ (l.take n)[c] :: (l.take n).drop (c + 1) := by
      rw [← List.drop_eq_getElem_cons hct, List.take_append_drop]
    rw [List.set_eq_take_append_cons_drop, if_pos hct] at e1
    conv at e1 => rhs; rw [e2]
    have := crc_turned (isB_take (isB_take hl n) c) (isB_drop (isB_take hl n) (c + 1)) hy (by rw [List.getElem_take]; exact hx) e1
    rw [this, List.getElem_take]
  · rw [List.take_set_of_le (by omega), h1] at h2
    have := congrArg (fun z => z[c - n]?) h2
    simp only [List.getElem?_drop] at this
    rw [show n + (c - n) = c by omega, List.getElem?_eq_getElem hc, List.getElem?_set_self hc] at this
    exact (Option.some.inj this).symm
theorem bXor8 {a b : Nat} (ha : a < 256) (hb : b < 256) : IntKind.wrap .u8 (bXor .u8 (a : Int) (b : Int)) = ((a ^^^ b : Nat) : Int) := by
  have e : bXor .u8 (a : Int) (b : Int) = ((a ^^^ b : Nat) : Int) := by
    unfold bXor
    show (((BitVec.ofInt 8 (a : Int) ^^^ BitVec.ofInt 8 (b : Int)).toNat : Nat) : Int) = _
    rw [BitVec.toNat_xor, BitVec.toNat_ofInt, BitVec.toNat_ofInt]
    congr 2 <;> omega
  have h := Nat.xor_lt_two_pow (n := 8) (x := a) (y := b) ha hb
  rw [e, IntKind.wrap_u8]; omega
/-- A byte with bits turned is another byte. -/
theorem turned_byte {x b : Int} (hx : 0 ≤ x ∧ x < 256) (hb : 0 ≤ b ∧ b < 256) (h0 : b ≠ 0) : (0 ≤ IntKind.wrap .u8 (bXor .u8 x b) ∧ IntKind.wrap .u8 (bXor .u8 x b) < 256) ∧ IntKind.wrap .u8 (bXor .u8 x b) ≠ x := by
  obtain ⟨a, rfl⟩ : ∃ a : Nat, x = (a : Int) := ⟨x.toNat, by omega⟩
  obtain ⟨c, rfl⟩ : ∃ c : Nat, b = (c : Int) := ⟨b.toNat, by omega⟩
  rw [bXor8 (by omega) (by omega)]
  have h := Nat.xor_lt_two_pow (n := 8) (x := a) (y := c) (by omega) (by omega)
  refine ⟨⟨by omega, by omega⟩, fun e => ?_⟩
  have e : a ^^^ c = a ^^^ 0 := by rw [Nat.xor_zero]; omega
  have := xor_cancel ((Nat.xor_comm c a).trans (e.trans (Nat.xor_comm a 0)))
  omega
theorem why12_crc {l : List Int} (h0 : why12 l = 0) : 12 ≤ l.length ∧ le 4 (crcV (l.take (l.length - 4))) = l.drop (l.length - 4) := by
  unfold why12 at h0
  by_cases c0 : l.length < 12
  · rw [if_pos c0] at h0; exact absurd h0 (by decide)
  rw [if_neg c0] at h0
  split at h0
  · exact absurd h0 (by decide)
  split at h0
  · exact absurd h0 (by decide)
  split at h0
  · exact absurd h0 (by decide)
  split at h0
  case isFalse => exact absurd h0 (by decide)
  rename_i c4
  exact ⟨by omega, c4⟩
theorem law_FrameTurned {n0 n1 n2 : Int} {b3 b4 : Bool} {l5 : List Int} {n6 n7 : Int} (w0 : (Lit.int .i64 n0).wf = true) (w1 : (Lit.int .i64 n1).wf = true) (w2 : (Lit.int .i64 n2).wf = true) (w3 : l5.length ≤ maxLen) (c3 : ∀ x ∈ l5, (Lit.int .i64 x).wf = true) (g3 : b3 = true → l5 = [])
    (w4 : (Lit.int .i64 n6).wf = true) (w5 : (Lit.int .u8 n7).wf = true) : go_coupletlaw12_FrameTurned n0 n1 n2 b3 b4 l5 n6 n7 = some true := by
  unfold go_coupletlaw12_FrameTurned
  rw [awake12]
  by_cases hr : R12 n0 n1 n2 l5
  case neg =>
    rw [encode_not' _ _ hr, Option.bind_some]
    cases decide (((l5.length : Nat) : Int) > 40) <;> rfl
  obtain ⟨k1, k2, k3⟩ := R12_b hr
  have hB := bytes12_isB (q := n1) (L := l5) k1 k2
  have hl := bytes12_len n0 n1 n2 l5
  have hb := read12 hr
  rw [encode_at _ _ hr, Option.bind_some, decide_eq_false (by omega), cond_false]
  dsimp only
  rw [bne_self_eq_false, cond_false]
  by_cases s2 : n6 < 0
  · rw [decide_eq_true s2]; rfl
  by_cases s3 : n6 ≥ (((bytes12 n0 n1 n2 l5).length : Nat) : Int)
  · rw [decide_eq_false s2, decide_eq_true s3]; rfl
  rw [decide_eq_false s2, decide_eq_false s3, cond_false, cond_false, ibeq]
  by_cases s4 : n7 = 0
  · rw [decide_eq_true s4]; rfl
  rw [decide_eq_false s4, cond_false]
  obtain ⟨c, rfl⟩ : ∃ c : Nat, n6 = (c : Int) := ⟨n6.toNat, by omega⟩
  have hc : c < (bytes12 n0 n1 n2 l5).length := by omega
  have hx := hB _ (List.getElem_mem hc)
  have hn7 : 0 ≤ n7 ∧ n7 < 256 := isB_wf (l := [n7]) (fun x hx => by rw [List.mem_singleton.1 hx]; exact w5) n7 (List.mem_singleton.2 rfl)
  obtain ⟨hy, hne⟩ := turned_byte hx hn7 s4
  have hB' : isB ((bytes12 n0 n1 n2 l5).set c (IntKind.wrap .u8 (bXor .u8 (bytes12 n0 n1 n2 l5)[c] n7))) := fun z hz => by
    rcases List.mem_or_eq_of_mem_set hz with h | h
    · exact hB z h
    · exact h ▸ hy
  have hl' : ((bytes12 n0 n1 n2 l5).set c (IntKind.wrap .u8 (bXor .u8 (bytes12 n0 n1 n2 l5)[c] n7))).length = (bytes12 n0 n1 n2 l5).length := List.length_set ..
  rw [show decide ((0 : Int) ≤ (c : Int)) = true from decide_eq_true (by omega), show decide ((c : Int) < (((bytes12 n0 n1 n2 l5).length : Nat) : Int)) = true from decide_eq_true (by omega), Int.toNat_natCast, decide_eq_true hc, getD_at hc]
  simp only [cond_true]
  rcases decode_at false false _ hB' (by rw [hl']; omega) with ⟨h1, h2⟩ | ⟨h1, _⟩
  · rw [h2, Option.bind_some]
    dsimp only
    rw [bne_l, decide_eq_false h1, same_at _ _ _ _ _ _ _ _ _ _ _ _ (by decide)]
    rfl
  · have e1 := (why12_crc hb.1).2
    have e2 := (why12_crc h1).2
    rw [hl'] at e2
    exact absurd (crc_set hB hc hy e1 e2) hne
end Go.Proofs

