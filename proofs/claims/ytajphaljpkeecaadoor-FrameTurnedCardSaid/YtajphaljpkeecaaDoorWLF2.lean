/-
  Frames: which may be, their bytes (plain).
-/
import Derived.Test.YtajphaljpkeecaaDoorWLF1
set_option linter.unusedSimpArgs false
set_option linter.unusedVariables false
set_option maxRecDepth 100000
namespace Go.Proofs
open Go Go.Fx

/-! ### bytes of numbers -/
def enc8 (L : List Int) : List Int := L.flatMap fun n => le 8 (u64 n)
theorem enc8_len : ∀ L : List Int, (enc8 L).length = 8 * L.length
  | [] => rfl
  | n :: L => by
    have := enc8_len L
    unfold enc8 at this ⊢
    rw [List.flatMap_cons, List.length_append, le_len, this, List.length_cons]; omega
theorem enc8_append (A B : List Int) : enc8 (A ++ B) = enc8 A ++ enc8 B := List.flatMap_append
theorem enc8_isB (L : List Int) : isB (enc8 L) := fun x hx => by
  obtain ⟨n, _, h⟩ := List.mem_flatMap.1 hx
  exact le_isB _ _ x h
/-- The number at a place. -/
def num (l : List Int) (k : Nat) : Int := IntKind.wrap .i64 ((val ((l.drop (8 + 8 * k)).take 8) : Nat) : Int)
def nums (l : List Int) (a d : Nat) : List Int := (List.range' a d).map (num l)
def seqN (l : List Int) : Int := ((val ((l.drop 4).take 4) : Nat) : Int)
theorem take2 {l : List Int} (h : 2 ≤ l.length) : l.take 2 = [l.getD 0 0, l.getD 1 0] := by
  match l, h with
  | a :: b :: r, _ => rfl
theorem bne_l (a b : Int) : (a != b) = !decide (a = b) := rfl
theorem lst_beq (a b : List Int) : (a == b) = decide (a = b) := by
  by_cases h : a = b
  · rw [decide_eq_true h, h]; exact beq_self_eq_true b
  · rw [decide_eq_false h]; exact beq_eq_false_iff_ne.2 h

theorem w4 {l : List Int} (hl : isB l) (h4 : l.length ≤ 4) : IntKind.wrap .i64 ((val l : Nat) : Int) = ((val l : Nat) : Int) := by
  have h1 := val_lt l hl
  have h2 : 256 ^ l.length ≤ 256 ^ 4 := Nat.pow_le_pow_right (by decide) h4
  exact w64 (by omega) (by omega)
theorem wf64b {n : Int} (h : (Lit.int .i64 n).wf = true) : -9223372036854775808 ≤ n ∧ n ≤ 9223372036854775807 := by
  simp only [Lit.wf, Bool.and_eq_true, decide_eq_true_eq] at h
  exact ⟨h.1, h.2⟩
theorem isB_wf {l : List Int} (h : ∀ x ∈ l, (Lit.int .u8 x).wf = true) : isB l := fun x hx => by
  have := h x hx
  simp only [Lit.wf, Bool.and_eq_true, decide_eq_true_eq] at this
  have h1 : 0 ≤ x := this.1
  have h2 : x ≤ 255 := this.2
  exact ⟨h1, by omega⟩
/-- A number among others, by its bytes. -/
theorem enc8_slice : ∀ (L : List Int) (t : List Int) (k : Nat) (hk : k < L.length), ((enc8 L ++ t).drop (8 * k)).take 8 = le 8 (u64 L[k])
  | n :: L, t, 0, _ => by
    unfold enc8
    rw [List.flatMap_cons, Nat.mul_zero, List.drop_zero, List.append_assoc, List.take_left' (le_len _ _)]
    rfl
  | n :: L, t, k + 1, hk => by
    have ih := enc8_slice L t k (by simpa using hk)
    unfold enc8 at ih ⊢
    rw [List.flatMap_cons, List.append_assoc, show 8 * (k + 1) = 8 + 8 * k by omega, ← List.drop_drop, List.drop_left' (le_len _ _), ih]
    rfl
def i64b (n : Int) : Prop := -9223372036854775808 ≤ n ∧ n ≤ 9223372036854775807
theorem okF_i64 {n : Int} (h : okF n) : i64b n := by unfold okF at h; unfold i64b; omega
theorem num_of {a t : List Int} (ha : a.length = 8) {L : List Int} {k : Nat} (hk : k < L.length) (hb : i64b L[k]) : num (a ++ (enc8 L ++ t)) k = L[k] := by
  unfold num
  rw [← List.drop_drop, List.drop_left' ha, enc8_slice L t k hk, val_le, Nat.mod_eq_of_lt (u64_lt _)]
  exact wrap_i64_u hb.1 hb.2
theorem nums_of {a t : List Int} (ha : a.length = 8) {L : List Int} (hb : ∀ x ∈ L, i64b x) (i d : Nat) (h : i + d ≤ L.length) : nums (a ++ (enc8 L ++ t)) i d = (L.drop i).take d := by
  unfold nums
  apply List.ext_getElem?
  intro j
  by_cases hj : j < d
  · rw [List.getElem?_map, List.getElem?_range' hj, List.getElem?_take_of_lt hj, List.getElem?_drop, List.getElem?_eq_getElem (by omega : i + j < L.length)]
    show some (num _ (i + 1 * j)) = _
    rw [Nat.one_mul, num_of ha (by omega) (hb _ (List.getElem_mem _))]
  · rw [List.getElem?_eq_none (by simp; omega), List.getElem?_eq_none (by simp; omega)]
theorem seq_u64 {q : Int} (h0 : 0 ≤ q) (h1 : q ≤ 4294967295) : ((u64 q % 256 ^ 4 : Nat) : Int) = q := by unfold u64; omega
theorem enc8_nums (l : List Int) (hl : isB l) : ∀ (d a : Nat), 8 + 8 * (a + d) ≤ l.length → enc8 (nums l a d) = (l.drop (8 + 8 * a)).take (8 * d)
  | 0, a, _ => by simp [nums, enc8]
  | d + 1, a, h => by
    have ih := enc8_nums l hl d (a + 1) (by omega)
    have e : le 8 (u64 (num l a)) = (l.drop (8 + 8 * a)).take 8 := by
      have hs : isB ((l.drop (8 + 8 * a)).take 8) := isB_take (isB_drop hl _) _
      have hlen : ((l.drop (8 + 8 * a)).take 8).length = 8 := by rw [List.length_take, List.length_drop]; omega
      have hv := val_lt _ hs
      rw [hlen] at hv
      unfold num
      rw [u64_wrap (by omega)]
      have := le_val _ hs
      rw [hlen] at this
      exact this
    unfold nums enc8 at ih ⊢
    rw [List.range'_succ, List.map_cons, List.flatMap_cons, ih, e, show 8 * (d + 1) = 8 + 8 * d by omega, List.take_add, List.drop_drop]
    rw [show 8 + 8 * (a + 1) = 8 + 8 * a + 8 by omega]

/-- Which frame may be. -/
def R12 (k q n : Int) (L : List Int) : Prop := 0 < M12 k n ∧ (L.length : Int) = M12 k n ∧ 0 ≤ q ∧ q ≤ 4294967295 ∧ ∀ x ∈ L, okF x
instance (k q n : Int) (L : List Int) : Decidable (R12 k q n L) := by unfold R12; infer_instance
theorem M12_pos {k n : Int} (h : M12 k n ≠ 0) : (1 ≤ k ∧ k ≤ 3) ∧ 1 ≤ n ∧ n ≤ 4 := by
  unfold M12 at h
  split at h
  · exact absurd rfl h
  · rename_i hn
    split at h
    · omega
    · split at h
      · omega
      · split at h
        · omega
        · exact absurd rfl h
theorem fright_at (k q n : Int) (b3 b4 : Bool) (L : List Int) (hL : L.length < 9223372036854775807) : go_frame_Right k q n b3 b4 L = some (decide (R12 k q n L)) := by
  unfold go_frame_Right
  rw [many_at, Option.bind_some]
  by_cases c1 : 0 < M12 k n
  case neg =>
    rw [show decide (M12 k n > 0) = false from decide_eq_false c1, cond_false, decide_eq_false (fun r : R12 k q n L => c1 r.1)]
  rw [show decide (M12 k n > 0) = true from decide_eq_true c1, cond_true, ibeq]
  by_cases c2 : (L.length : Int) = M12 k n
  case neg =>
    rw [decide_eq_false c2, cond_false, decide_eq_false (fun r : R12 k q n L => c2 r.2.1)]
  rw [decide_eq_true c2, cond_true]
  by_cases c3 : q ≥ 0
  case neg =>
    rw [decide_eq_false c3, cond_false, decide_eq_false (fun r : R12 k q n L => c3 r.2.2.1)]
  by_cases c4 : q ≤ 4294967295
  case neg =>
    rw [decide_eq_true c3, cond_true, decide_eq_false c4, cond_false, decide_eq_false (fun r : R12 k q n L => c4 r.2.2.2.1)]
  rw [decide_eq_true c3, cond_true, decide_eq_true c4, cond_true, bad_at _ _ _ hL, Option.bind_some, Bool.not_not]
  congr 1
  exact decide_eq_decide.2 ⟨fun r => ⟨c1, c2, c3, c4, r⟩, fun r => r.2.2.2.2⟩
theorem fr_loop (k q n : Int) (b12 b13 : Bool) (L : List Int) (hb : L.length < 9223372036854775807) : ∀ (d j : Nat), j + d = L.length →
    iterN (fun x => st_coupletref12_Right_0 x.1 x.2.1 x.2.2.1 x.2.2.2.1 x.2.2.2.2.1 x.2.2.2.2.2.1 x.2.2.2.2.2.2) (d + 1) ((j : Int), k, q, n, b12, b13, L) = some (if ∀ x ∈ L.drop j, okF x then .inl () else .inr false)
  | 0, j, hj => by
    obtain rfl : j = L.length := by omega
    have e : st_coupletref12_Right_0 (L.length : Int) k q n b12 b13 L = some (.inr (.inl ())) := by
      unfold st_coupletref12_Right_0
      rw [decide_eq_false (Int.lt_irrefl _)]
      rfl
    simp only [iterN, e]
    rw [List.drop_length, if_pos (by simp)]
  | d + 1, j, hj => by
    have h1 : j < L.length := by omega
    have e : st_coupletref12_Right_0 (j : Int) k q n b12 b13 L = if okF L[j] then some (.inl (((j + 1 : Nat) : Int), k, q, n, b12, b13, L)) else some (.inr (.inr false)) := by
      unfold st_coupletref12_Right_0
      rw [Int.toNat_natCast, getD_at h1, ref02_right, show decide ((j : Int) < (L.length : Int)) = true from decide_eq_true (by omega), show decide (0 ≤ (j : Int)) = true from decide_eq_true (by omega), show decide (j < L.length) = true from decide_eq_true h1, inc64 (by omega)]
      by_cases x1 : okF L[j]
      · rw [if_pos x1, decide_eq_true x1]; rfl
      · rw [if_neg x1, decide_eq_false x1]; rfl
    rw [iterN]
    simp only [e]
    rw [List.drop_eq_getElem_cons h1]
    by_cases hx : okF L[j]
    · rw [if_pos hx]
      dsimp only
      rw [fr_loop k q n b12 b13 L hb d (j + 1) (by omega)]
      by_cases hr : ∀ x ∈ L.drop (j + 1), okF x
      · rw [if_pos hr, if_pos (fun x hm => (List.mem_cons.1 hm).elim (fun e => e ▸ hx) (hr x))]
      · rw [if_neg hr, if_neg (fun hm => hr fun x h => hm x (List.mem_cons_of_mem _ h))]
    · rw [if_neg hx, if_neg (fun hm => hx (hm L[j] (List.mem_cons_self ..)))]
theorem rfright_at (k q n : Int) (b3 b4 : Bool) (L : List Int) (hL : L.length < 9223372036854775807) : go_coupletref12_Right k q n b3 b4 L = some (decide (R12 k q n L)) := by
  have hb := M12_b k n
  unfold go_coupletref12_Right
  rw [rmany_at, Option.bind_some, ibeq]
  by_cases c0 : M12 k n = 0
  · rw [decide_eq_true c0, decide_eq_false (fun r : R12 k q n L => by have := r.1; omega)]; rfl
  rw [decide_eq_false c0, cond_false, Option.bind_some, ibne]
  by_cases c2 : M12 k n = (L.length : Int)
  case neg =>
    rw [decide_eq_false c2, decide_eq_false (fun r : R12 k q n L => c2 r.2.1.symm)]; rfl
  rw [decide_eq_true c2]
  simp only [Bool.not_true, cond_false]
  by_cases c3 : q < 0
  · rw [decide_eq_true c3, decide_eq_false (fun r : R12 k q n L => by have := r.2.2.1; omega)]; rfl
  by_cases c4 : q > 4294967295
  · rw [decide_eq_false c3, decide_eq_true c4, decide_eq_false (fun r : R12 k q n L => by have := r.2.2.2.1; omega)]; rfl
  unfold lp_coupletref12_Right_0
  rw [decide_eq_false c3, cond_false, decide_eq_false c4, cond_false, show (0 : Int) = ((0 : Nat) : Int) from rfl, loopN_of (L.length + 1) (by omega) (fr_loop k q n b3 b4 L hL L.length 0 (by omega)), Option.bind_some, List.drop_zero]
  by_cases c5 : ∀ x ∈ L, okF x
  · rw [if_pos c5, decide_eq_true (show R12 k q n L from ⟨by omega, c2.symm, by omega, by omega, c5⟩)]; rfl
  · rw [if_neg c5, decide_eq_false (fun r : R12 k q n L => c5 r.2.2.2.2)]; rfl

/-! ### bytes of a frame -/
def body12 (k q n : Int) (L : List Int) : List Int := [78, 86, k, n] ++ le 4 (u64 q) ++ enc8 L
def bytes12 (k q n : Int) (L : List Int) : List Int := body12 k q n L ++ le 4 (crcV (body12 k q n L))
theorem body12_len (k q n : Int) (L : List Int) : (body12 k q n L).length = 8 + 8 * L.length := by
  unfold body12
  simp only [List.length_append, List.length_cons, List.length_nil, le_len, enc8_len]
theorem body12_isB {k q n : Int} {L : List Int} (h0 : 0 ≤ k ∧ k < 256) (h1 : 0 ≤ n ∧ n < 256) : isB (body12 k q n L) := by
  unfold body12
  rw [isB_append, isB_append]
  refine ⟨⟨?_, le_isB _ _⟩, enc8_isB _⟩
  simp only [isB_cons]
  exact ⟨⟨by decide, by decide⟩, ⟨by decide, by decide⟩, h0, h1, isB_nil⟩
theorem bytes12_isB {k q n : Int} {L : List Int} (h0 : 0 ≤ k ∧ k < 256) (h1 : 0 ≤ n ∧ n < 256) : isB (bytes12 k q n L) := isB_append.2 ⟨body12_isB h0 h1, le_isB _ _⟩
theorem bytes12_len (k q n : Int) (L : List Int) : (bytes12 k q n L).length = 12 + 8 * L.length := by
  unfold bytes12
  rw [List.length_append, body12_len, le_len]; omega
theorem wu8 {h : Int} (h0 : 0 ≤ h) (h1 : h ≤ 255) : IntKind.wrap .u8 h = h := by rw [IntKind.wrap_u8]; omega
theorem enc_loop (b11 b12 : Bool) (L : List Int) (hL : L.length ≤ 100) : ∀ (d k : Nat) (acc : List Int), k + d = L.length → acc.length + 8 * d ≤ 10000 →
    iterN (fun x => st_new_frame_Encode_0 x.1 x.2.1 x.2.2.1 x.2.2.2.1 x.2.2.2.2.1 x.2.2.2.2.2.1 x.2.2.2.2.2.2.1 x.2.2.2.2.2.2.2) (d + 1) (b11, b12, L, (L.length : Int), (k : Int), false, false, acc) = some (false, false, acc ++ enc8 (L.drop k))
  | 0, k, acc, hk, hb => by
    obtain rfl : k = L.length := by omega
    have e : st_new_frame_Encode_0 b11 b12 L (L.length : Int) (L.length : Int) false false acc = some (.inr (false, false, acc)) := by
      unfold st_new_frame_Encode_0
      rw [decide_eq_false (Int.lt_irrefl _)]
      rfl
    simp only [iterN, e]
    rw [List.drop_length]
    simp [enc8]
  | d + 1, k, acc, hk, hb => by
    have hk' : k < L.length := by omega
    have hp := fput_at false acc L[k] 8 (by decide) (by omega)
    have e : st_new_frame_Encode_0 b11 b12 L (L.length : Int) (k : Int) false false acc = some (.inl (b11, b12, L, (L.length : Int), ((k + 1 : Nat) : Int), false, false, acc ++ le 8 (u64 L[k]))) := by
      unfold st_new_frame_Encode_0
      rw [Int.toNat_natCast, getD_at hk', show (8 : Int) = ((8 : Nat) : Int) from rfl, hp, decide_eq_true (by omega), decide_eq_true (by omega), decide_eq_true hk', inc64 (by omega)]
      rfl
    rw [iterN]
    simp only [e]
    rw [enc_loop b11 b12 L hL d (k + 1) _ (by omega) (by rw [List.length_append, le_len]; omega), List.drop_eq_getElem_cons hk', List.append_assoc]
    rfl
theorem encode_at {k q n : Int} {L : List Int} (b3 b4 : Bool) (hr : R12 k q n L) : go_new_frame_Encode k q n b3 b4 L = some (false, false, bytes12 k q n L, 0) := by
  have hmb := M12_b k n
  obtain ⟨hk, hn⟩ := M12_pos (k := k) (n := n) (by have := hr.1; omega)
  have hlen := hr.2.1
  have hp := fput_at true [78, 86, k, n] q 4 (by decide) (by simp)
  have hl := enc_loop b3 b4 L (by omega) L.length 0 ([78, 86, k, n] ++ le 4 (u64 q)) (by omega) (by simp only [List.length_append, le_len, List.length_cons, List.length_nil]; omega)
  rw [List.drop_zero] at hl
  have hB := body12_isB (k := k) (n := n) (q := q) (L := L) (by omega) (by omega)
  have hbl := body12_len k q n L
  have hs := sum_at false false (body12 k q n L) hB (by omega)
  have hq := fput_at false (body12 k q n L) (IntKind.wrap .i64 ((crcV (body12 k q n L) : Nat) : Int)) 4 (by decide) (by omega)
  have hcr := crcV_lt hB
  rw [u64_wrap (by omega)] at hq
  unfold go_new_frame_Encode
  rw [fright_at _ _ _ _ _ _ (by omega), decide_eq_true hr, Option.bind_some, Bool.not_true, cond_false, wu8 (by omega) (by omega), wu8 (by omega) (by omega), show (4 : Int) = ((4 : Nat) : Int) from rfl, hp, Option.bind_some]
  dsimp only
  unfold lp_new_frame_Encode_0
  rw [show (0 : Int) = ((0 : Nat) : Int) from rfl, loopN_of (L.length + 1) (by omega) hl, Option.bind_some]
  dsimp only
  rw [show [78, 86, k, n] ++ le 4 (u64 q) ++ enc8 L = body12 k q n L from rfl, hs, Option.bind_some, hq, Option.bind_some]
  rfl
theorem encode_not {k q n : Int} {L : List Int} (b3 b4 : Bool) (hL : L.length < 9223372036854775807) (hr : ¬ R12 k q n L) : go_new_frame_Encode k q n b3 b4 L = some (true, true, [], 1) := by
  unfold go_new_frame_Encode
  rw [fright_at _ _ _ _ _ _ hL, decide_eq_false hr]
  rfl
theorem renc_loop (k q n : Int) (b11 b12 : Bool) (X : List Int) (hL : X.length ≤ 100) : ∀ (d j : Nat) (acc : List Int), j + d = X.length → acc.length + 8 * d ≤ 10000 →
    iterN (fun x => st_coupletref12_Encode_0 x.1 x.2.1 x.2.2.1 x.2.2.2.1 x.2.2.2.2.1 x.2.2.2.2.2.1 x.2.2.2.2.2.2.1 x.2.2.2.2.2.2.2.1 x.2.2.2.2.2.2.2.2.1 x.2.2.2.2.2.2.2.2.2) (d + 1) ((j : Int), k, q, n, b11, b12, X, false, false, acc) =
      some (false, false, acc ++ enc8 (X.drop j))
  | 0, j, acc, hk, hb => by
    obtain rfl : j = X.length := by omega
    have e : st_coupletref12_Encode_0 (X.length : Int) k q n b11 b12 X false false acc = some (.inr (false, false, acc)) := by
      unfold st_coupletref12_Encode_0
      rw [decide_eq_false (Int.lt_irrefl _)]
      rfl
    simp only [iterN, e]
    rw [List.drop_length]
    simp [enc8]
  | d + 1, j, acc, hk, hb => by
    have hk' : j < X.length := by omega
    obtain ⟨b, c, hp⟩ := rbytes_at (u64 X[j]) 8 (by decide) (u64_lt _)
    have e : st_coupletref12_Encode_0 (j : Int) k q n b11 b12 X false false acc = some (.inl (((j + 1 : Nat) : Int), k, q, n, b11, b12, X, false, false, acc ++ le 8 (u64 X[j]))) := by
      unfold st_coupletref12_Encode_0
      rw [Int.toNat_natCast, getD_at hk', wrap_u64', show (8 : Int) = ((8 : Nat) : Int) from rfl, hp, decide_eq_true (by omega), decide_eq_true (by omega), decide_eq_true hk', inc64 (by omega)]
      simp only [cond_true, Option.bind_some, le_len]
      rw [decide_eq_true (by omega), decide_eq_true (by omega)]
      rfl
    rw [iterN]
    simp only [e]
    rw [renc_loop k q n b11 b12 X hL d (j + 1) _ (by omega) (by rw [List.length_append, le_len]; omega), List.drop_eq_getElem_cons hk', List.append_assoc]
    rfl
theorem rencode_at {k q n : Int} {L : List Int} (b3 b4 : Bool) (h0 : 0 ≤ k ∧ k < 256) (h1 : 0 ≤ n ∧ n < 256) (hL : L.length ≤ 100) : go_coupletref12_Encode k q n b3 b4 L = some (false, false, bytes12 k q n L) := by
  obtain ⟨b, c, hp⟩ := rbytes_at (u64 q) 4 (by decide) (u64_lt _)
  have l0 := renc_loop k q n b3 b4 L (by omega) L.length 0 ([78, 86, k, n] ++ le 4 (u64 q)) (by omega) (by simp only [List.length_append, le_len, List.length_cons, List.length_nil]; omega)
  rw [List.drop_zero] at l0
  have hB := body12_isB (k := k) (n := n) (q := q) (L := L) h0 h1
  have hlen := body12_len k q n L
  have hs := ref_sum_at false false (body12 k q n L) hB (by omega)
  have hcr := crcV_lt hB
  obtain ⟨b', c', hq⟩ := rbytes_at (crcV (body12 k q n L)) 4 (by decide) (by omega)
  unfold go_coupletref12_Encode lp_coupletref12_Encode_0
  rw [wu8 h0.1 (by omega), wu8 h1.1 (by omega), wrap_u64', show (4 : Int) = ((4 : Nat) : Int) from rfl, hp, Option.bind_some]
  simp only [le_len, Bool.false_and]
  rw [decide_eq_true (by decide), cond_true, decide_eq_true (by decide), cond_true, show (0 : Int) = ((0 : Nat) : Int) from rfl]
  rw [show (78 :: 86 :: k :: n :: le 4 (u64 q)) = [78, 86, k, n] ++ le 4 (u64 q) from rfl, loopN_of (L.length + 1) (by omega) l0, Option.bind_some]
  dsimp only
  rw [show [78, 86, k, n] ++ le 4 (u64 q) ++ enc8 L = body12 k q n L from rfl, hs, Option.bind_some, wrap_u64_nat (by omega), hq, Option.bind_some]
  simp only [le_len, Bool.false_and]
  rw [decide_eq_true (by omega), decide_eq_true (by omega)]
  rfl
theorem same_at (n0 n1 n2 : Int) (b3 b4 : Bool) (L : List Int) (n6 n7 n8 : Int) (b9 b10 : Bool) (M : List Int) (hL : L.length < 9223372036854775807) :
    go_frame_Same n0 n1 n2 b3 b4 L n6 n7 n8 b9 b10 M = some (decide (n0 = n6 ∧ n1 = n7 ∧ n2 = n8 ∧ L = M)) := by
  unfold go_frame_Same
  rw [ibeq, ibeq, ibeq, equal_at _ _ _ _ L M hL]
  by_cases h1 : n0 = n6
  · by_cases h2 : n1 = n7
    · by_cases h3 : n2 = n8
      · by_cases h4 : L = M
        · simp [h1, h2, h3, h4]
        · simp [h1, h2, h3, h4]
      · simp [h1, h2, h3]
    · simp [h1, h2]
  · simp [h1]
end Go.Proofs
