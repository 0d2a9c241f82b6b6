/-
  Frames: which may be, their bytes (plain).
-/
import Derived.Test.YtajphaljpkeecaaDoorFxRow
import Derived.Test.YtajphaljpkeecaaDoorWGC0
import Derived.Test.YtajphaljpkeecaaDoorWWire
import Derived.Test.YtajphaljpkeecaaDoorWGC12
set_option linter.unusedSimpArgs false
set_option linter.unusedVariables false
namespace Go.Proofs
open Go Go.Fx
theorem iterN_mono {X Y : Type} {step : X → Option (X ⊕ Y)} : ∀ {n : Nat} {x : X} {y : Y}, iterN step n x = some y → ∀ m, n ≤ m → iterN step m x = some y
  | 0, x, y, h, m, _ => by cases h
  | n + 1, x, y, h, m, hm => by
    obtain ⟨m, rfl⟩ : ∃ k, m = k + 1 := ⟨m - 1, by omega⟩
    simp only [iterN] at h ⊢
    split at h
    · cases h
    · exact iterN_mono h m (by omega)
    · exact h
theorem loopN_of {X Y : Type} {step : X → Option (X ⊕ Y)} {x : X} {y : Y} (n : Nat) (hn : n ≤ 18446744073709551616) (h : iterN step n x = some y) : loopN step x = some y := iterN_mono h _ hn
theorem w64 {a : Int} (h1 : -9223372036854775808 ≤ a) (h2 : a ≤ 9223372036854775807) : IntKind.wrap .i64 a = a := by
  rw [IntKind.wrap_i64]; omega
theorem ibeq (a b : Int) : (a == b) = decide (a = b) := rfl
theorem ibne (a b : Int) : (a != b) = !decide (a = b) := rfl
end Go.Proofs
set_option linter.unusedSimpArgs false
set_option linter.unusedVariables false
namespace Go.Proofs
open Go Go.Fx
def okF (n : Int) : Prop := -1125899906842624 ≤ n ∧ n ≤ 1125899906842624
instance (n : Int) : Decidable (okF n) := by unfold okF; infer_instance
theorem ref02_right (n : Int) : go_coupletref02_Right n = some (decide (okF n)) := by
  unfold go_coupletref02_Right
  by_cases h : n ≥ -1125899906842624
  · rw [decide_eq_true h, cond_true]
    by_cases h2 : n ≤ 1125899906842624
    · rw [decide_eq_true h2, decide_eq_true (show okF n from ⟨h, h2⟩)]
    · rw [decide_eq_false h2, decide_eq_false (fun x : okF n => h2 x.2)]
  · rw [decide_eq_false h, cond_false, decide_eq_false (fun x : okF n => h x.1)]
theorem inc64 {k : Nat} (h : k < 9223372036854775807) : IntKind.wrap .i64 ((k : Int) + 1) = ((k + 1 : Nat) : Int) := by
  rw [w64 (by omega) (by omega)]; rfl
theorem getD_at {l : List Int} {k : Nat} (h : k < l.length) : l.getD k 0 = l[k] := by
  rw [List.getD_eq_getElem?_getD, List.getElem?_eq_getElem h]; rfl
theorem b_nat {x : Int} (h : 0 ≤ x ∧ x < 256) : x = ((x.toNat : Nat) : Int) := by omega
theorem upd_step (s k : Nat) (b5 b6 : Bool) (l : List Int) (hs : s < 4294967296) (hl : isB l) (hk : k < l.length) (hb : l.length < 9223372036854775807) :
    st_sum_Update_0 (s : Int) b5 b6 l (l.length : Int) (k : Int) = some (.inl (((byteS (s ^^^ l[k].toNat) : Nat) : Int), b5, b6, l, (l.length : Int), ((k + 1 : Nat) : Int))) := by
  have hx := hl _ (List.getElem_mem hk)
  have e0 : IntKind.wrap .u32 l[k] = ((l[k].toNat : Nat) : Int) := by
    conv => lhs; rw [b_nat hx]
    exact wrap_u32_nat (by omega)
  have e1 : IntKind.wrap .u32 (bXor .u32 (s : Int) ((l[k].toNat : Nat) : Int)) = ((s ^^^ l[k].toNat : Nat) : Int) := bXor32 hs (by omega)
  have hx1 := xor_b_lt hs hx.2
  have tabm : ∀ j : Nat, j < 16 → ∃ t : Nat, List.getD [(0 : Int), 498536548, 997073096, 651767980, 1994146192, 1802195444, 1303535960, 1342533948, 3988292384, 4027552580, 3604390888, 3412177804, 2607071920, 2262029012, 2685067896, 3183342108] j 0 = (t : Int) ∧ t < 4294967296 ∧ t = [0, 498536548, 997073096, 651767980, 1994146192, 1802195444, 1303535960, 1342533948, 3988292384, 4027552580, 3604390888, 3412177804, 2607071920, 2262029012, 2685067896, 3183342108].getD j 0 := by
    intro j hj
    refine ⟨_, ?_, ?_, rfl⟩
    · revert j; decide
    · revert j; decide
  have nibI : ∀ x : Nat, x < 4294967296 → IntKind.wrap .u32 (bXor .u32 (List.getD [(0 : Int), 498536548, 997073096, 651767980, 1994146192, 1802195444, 1303535960, 1342533948, 3988292384, 4027552580, 3604390888, 3412177804, 2607071920, 2262029012, 2685067896, 3183342108] (0 + Int.toNat (IntKind.wrap .u32 (bAnd .u32 (x : Int) 15))) 0) ((x : Int) / 16)) = ((nib x : Nat) : Int) := by
    intro x hx
    rw [bAnd15, Int.toNat_natCast, Nat.zero_add]
    obtain ⟨t, t1, t2, t3⟩ := tabm (x % 16) (Nat.mod_lt _ (by decide))
    rw [t1, show (x : Int) / 16 = ((x / 16 : Nat) : Int) by omega, bXor32 t2 (by omega), t3]
    rfl
  have hn : nib (s ^^^ l[k].toNat) < 4294967296 := by rw [nib_eq]; exact bitN_lt 4 hx1
  unfold st_sum_Update_0
  rw [Int.toNat_natCast, getD_at hk, e0, e1, nibI _ hx1, nibI _ hn, ← byteS_nib, bAnd15, bAnd15, Int.toNat_natCast, Int.toNat_natCast, decide_eq_true (by omega), decide_eq_true (by omega), decide_eq_true hk,
    decide_eq_true (by omega), decide_eq_true (by omega), decide_eq_true (by omega), decide_eq_true (by omega), inc64 (by omega)]
  rfl
theorem upd_loop (b5 b6 : Bool) (l : List Int) (hl : isB l) (hb : l.length < 9223372036854775807) : ∀ (d k s : Nat), k + d = l.length → s < 4294967296 →
    iterN (fun x => st_sum_Update_0 x.1 x.2.1 x.2.2.1 x.2.2.2.1 x.2.2.2.2.1 x.2.2.2.2.2) (d + 1) ((s : Int), b5, b6, l, (l.length : Int), (k : Int)) = some ((crcF s (l.drop k) : Nat) : Int)
  | 0, k, s, hk, hs => by
    obtain rfl : k = l.length := by omega
    have e : st_sum_Update_0 (s : Int) b5 b6 l (l.length : Int) (l.length : Int) = some (.inr (s : Int)) := by
      unfold st_sum_Update_0
      rw [decide_eq_false (Int.lt_irrefl _)]
      rfl
    simp only [iterN, e, List.drop_length, crcF]
  | d + 1, k, s, hk, hs => by
    have hk' : k < l.length := by omega
    rw [iterN]
    simp only [upd_step s k b5 b6 l hs hl hk' hb]
    rw [upd_loop b5 b6 l hl hb d (k + 1) _ (by omega) (byteS_lt (xor_b_lt hs (hl _ (List.getElem_mem hk')).2)), List.drop_eq_getElem_cons hk']
    rfl
theorem sum_at (b0 b1 : Bool) (l : List Int) (hl : isB l) (hb : l.length ≤ 1000000) : go_sum_Of b0 b1 l = some ((crcV l : Nat) : Int) := by
  have h := upd_loop b0 b1 l hl (by omega) l.length 0 4294967295 (by omega) (by decide)
  unfold go_sum_Of go_sum_Update lp_sum_Update_0
  rw [show IntKind.wrap .u32 (bXor .u32 4294967295 0) = ((4294967295 : Nat) : Int) by decide]
  rw [show (0 : Int) = ((0 : Nat) : Int) from rfl, loopN_of (l.length + 1) (by omega) h, Option.bind_some, Option.bind_some, List.drop_zero]
  have := crcF_lt (s := 4294967295) (by decide) hl
  rw [show (4294967295 : Int) = ((4294967295 : Nat) : Int) from rfl, bXor32 (by decide) this, Nat.xor_comm]
  rfl
theorem bit_step (b8 b9 : Bool) (l : List Int) (x k : Nat) (m : Int) (hx : x < 4294967296) (hk : k < 8) :
    st_coupletref11_Of_1 b8 b9 l (x : Int) m (k : Int) = some (.inl (b8, b9, l, ((bitS x : Nat) : Int), m, ((k + 1 : Nat) : Int))) := by
  have e1 : Int.tmod (x : Int) 2 = ((x % 2 : Nat) : Int) := by rw [Int.tmod_eq_emod_of_nonneg (by omega)]; omega
  have e2 : IntKind.wrap .u32 (Int.tdiv (x : Int) 2) = ((x / 2 : Nat) : Int) := by
    rw [Int.tdiv_eq_ediv_of_nonneg (by omega), show (x : Int) / 2 = ((x / 2 : Nat) : Int) by omega]
    exact wrap_u32_nat (by omega)
  have e3 : IntKind.wrap .u32 (bXor .u32 ((x / 2 : Nat) : Int) 3988292384) = ((x / 2 ^^^ 3988292384 : Nat) : Int) := bXor32 (a := x / 2) (b := 3988292384) (by omega) (by decide)
  unfold st_coupletref11_Of_1
  rw [decide_eq_true (by omega), cond_true, e1, e2, e3, inc64 (by omega)]
  unfold bitS
  by_cases h : x % 2 = 1
  · rw [h, if_pos rfl]; rfl
  · have h0 : x % 2 = 0 := by omega
    rw [h0, if_neg (by decide), Nat.xor_zero]; rfl
theorem bit_loop (b8 b9 : Bool) (l : List Int) (m : Int) : ∀ (d k x : Nat), k + d = 8 → x < 4294967296 →
    iterN (fun x => st_coupletref11_Of_1 x.1 x.2.1 x.2.2.1 x.2.2.2.1 x.2.2.2.2.1 x.2.2.2.2.2) (d + 1) (b8, b9, l, (x : Int), m, (k : Int)) = some (b8, b9, l, ((bitN d x : Nat) : Int), m)
  | 0, k, x, hk, hx => by
    obtain rfl : k = 8 := by omega
    rfl
  | d + 1, k, x, hk, hx => by
    rw [iterN]
    simp only [bit_step b8 b9 l x k m hx (by omega)]
    rw [bit_loop b8 b9 l m d (k + 1) _ (by omega) (bitS_lt hx)]
    rfl
theorem ref_loop (b5 b6 : Bool) (l : List Int) (hl : isB l) (hb : l.length < 9223372036854775807) : ∀ (d k s : Nat), k + d = l.length → s < 4294967296 →
    iterN (fun x => st_coupletref11_Of_0 x.1 x.2.1 x.2.2.1 x.2.2.2.1 x.2.2.2.2) (d + 1) (b5, b6, l, (s : Int), (k : Int)) = some ((crcF s (l.drop k) : Nat) : Int)
  | 0, k, s, hk, hs => by
    obtain rfl : k = l.length := by omega
    have e : st_coupletref11_Of_0 b5 b6 l (s : Int) (l.length : Int) = some (.inr (s : Int)) := by
      unfold st_coupletref11_Of_0
      rw [decide_eq_false (Int.lt_irrefl _)]
      rfl
    simp only [iterN, e, List.drop_length, crcF]
  | d + 1, k, s, hk, hs => by
    have hk' : k < l.length := by omega
    have hx := hl _ (List.getElem_mem hk')
    have e0 : IntKind.wrap .u32 l[k] = ((l[k].toNat : Nat) : Int) := by
      conv => lhs; rw [b_nat hx]
      exact wrap_u32_nat (by omega)
    have e1 : IntKind.wrap .u32 (bXor .u32 (s : Int) ((l[k].toNat : Nat) : Int)) = ((s ^^^ l[k].toNat : Nat) : Int) := bXor32 hs (by omega)
    have hx1 := xor_b_lt hs hx.2
    have e : st_coupletref11_Of_0 b5 b6 l (s : Int) (k : Int) = some (.inl (b5, b6, l, ((byteS (s ^^^ l[k].toNat) : Nat) : Int), ((k + 1 : Nat) : Int))) := by
      unfold st_coupletref11_Of_0 lp_coupletref11_Of_1
      rw [Int.toNat_natCast, getD_at hk', e0, e1, decide_eq_true (by omega), decide_eq_true (by omega), decide_eq_true hk', show (0 : Int) = ((0 : Nat) : Int) from rfl,
        loopN_of 9 (by decide) (bit_loop b5 b6 l (k : Int) 8 0 _ rfl hx1)]
      simp only [cond_true, Option.bind_some]
      rw [inc64 (by omega)]
      rfl
    rw [iterN]
    simp only [e]
    rw [ref_loop b5 b6 l hl hb d (k + 1) _ (by omega) (byteS_lt hx1), List.drop_eq_getElem_cons hk']
    rfl
theorem ref_sum_at (b0 b1 : Bool) (l : List Int) (hl : isB l) (hb : l.length ≤ 1000000) : go_coupletref11_Of b0 b1 l = some ((crcV l : Nat) : Int) := by
  have h := ref_loop b0 b1 l hl (by omega) l.length 0 4294967295 (by omega) (by decide)
  unfold go_coupletref11_Of lp_coupletref11_Of_0
  rw [show (0 : Int) = ((0 : Nat) : Int) from rfl, show (4294967295 : Int) = ((4294967295 : Nat) : Int) from rfl, loopN_of (l.length + 1) (by omega) h, Option.bind_some, List.drop_zero]
  have := crcF_lt (s := 4294967295) (by decide) hl
  rw [bXor32 this (by decide)]
  rfl
theorem eq_loop (b6 b7 b9 b10 : Bool) (a b : List Int) (h : a.length = b.length) (hb : a.length < 9223372036854775807) : ∀ (d k : Nat), k + d = a.length →
    iterN (fun x => st_slices_Equal__int_int_0 x.1 x.2.1 x.2.2.1 x.2.2.2.1 x.2.2.2.2.1 x.2.2.2.2.2.1 x.2.2.2.2.2.2.1 x.2.2.2.2.2.2.2) (d + 1) (b6, b7, a, b9, b10, b, (a.length : Int), (k : Int)) =
      some (if a.drop k = b.drop k then .inl () else .inr false)
  | 0, k, hk => by
    obtain rfl : k = a.length := by omega
    have e : st_slices_Equal__int_int_0 b6 b7 a b9 b10 b (a.length : Int) (a.length : Int) = some (.inr (.inl ())) := by
      unfold st_slices_Equal__int_int_0
      rw [decide_eq_false (Int.lt_irrefl _)]
      rfl
    simp only [iterN, e]
    rw [List.drop_length, h, List.drop_length, if_pos rfl]
  | d + 1, k, hk => by
    have h1 : k < a.length := by omega
    have h2 : k < b.length := by omega
    have e : st_slices_Equal__int_int_0 b6 b7 a b9 b10 b (a.length : Int) (k : Int) = if a[k] = b[k] then some (.inl (b6, b7, a, b9, b10, b, (a.length : Int), ((k + 1 : Nat) : Int))) else some (.inr (.inr false)) := by
      unfold st_slices_Equal__int_int_0
      rw [Int.toNat_natCast, getD_at h1, getD_at h2, decide_eq_true (by omega), decide_eq_true (by omega), decide_eq_true h1, decide_eq_true (by omega), decide_eq_true h2, inc64 (by omega), ibne]
      by_cases hx : a[k] = b[k]
      · rw [if_pos hx, decide_eq_true hx]; rfl
      · rw [if_neg hx, decide_eq_false hx]; rfl
    rw [iterN]
    simp only [e]
    rw [List.drop_eq_getElem_cons h1, List.drop_eq_getElem_cons h2]
    by_cases hx : a[k] = b[k]
    · rw [if_pos hx]
      dsimp only
      rw [eq_loop b6 b7 b9 b10 a b h hb d (k + 1) (by omega)]
      by_cases hr : a.drop (k + 1) = b.drop (k + 1)
      · rw [if_pos hr, if_pos (by rw [hx, hr])]
      · rw [if_neg hr, if_neg (fun x => hr (List.cons.inj x).2)]
    · rw [if_neg hx, if_neg (fun x => hx (List.cons.inj x).1)]
theorem equal_at (b0 b1 b3 b4 : Bool) (a b : List Int) (hb : a.length < 9223372036854775807) : go_slices_Equal__int_int b0 b1 a b3 b4 b = some (decide (a = b)) := by
  unfold go_slices_Equal__int_int lp_slices_Equal__int_int_0
  by_cases h : a.length = b.length
  · rw [show (((a.length : Nat) : Int) != ((b.length : Nat) : Int)) = false by rw [ibne, decide_eq_true (by omega)]; rfl, cond_false, show (0 : Int) = ((0 : Nat) : Int) from rfl,
      loopN_of (a.length + 1) (by omega) (eq_loop b0 b1 b3 b4 a b h hb a.length 0 (by omega)), Option.bind_some, List.drop_zero, List.drop_zero]
    by_cases hx : a = b
    · rw [if_pos hx, decide_eq_true hx]; rfl
    · rw [if_neg hx, decide_eq_false hx]; rfl
  · rw [show (((a.length : Nat) : Int) != ((b.length : Nat) : Int)) = true by rw [ibne, decide_eq_false (by omega)]; rfl, cond_true, decide_eq_false (fun x => h (by rw [x]))]
end Go.Proofs
set_option linter.unusedSimpArgs false
set_option linter.unusedVariables false
set_option maxRecDepth 100000
namespace Go.Proofs
open Go Go.Fx
theorem pb_eq (n : Int) (k : Nat) : pb n k = (((u64 n / 256 ^ k % 256 : Nat)) : Int) := by
  unfold pb
  rw [wrap_u64', show (2 : Int) ^ (8 * k) = ((256 ^ k : Nat) : Int) by rw [show (256 : Nat) = 2 ^ 8 from rfl, ← Nat.pow_mul, Int.natCast_pow]; rfl, ← Int.natCast_ediv, wrap_u8']
theorem put_list (n : Int) (w : Nat) : (List.range w).map (pb n) = le w (u64 n) := by
  rw [le_range]
  exact List.map_congr_left fun k _ => pb_eq n k
theorem fput_at (e : Bool) (b : List Int) (n : Int) (w : Nat) (hw : 0 < w ∧ w ≤ 8) (hb : b.length ≤ 1000000) : go_frame_put false e b n (w : Int) = some (false, false, b ++ le w (u64 n)) := by
  unfold go_frame_put
  rw [if_pos ⟨by omega, by omega, hb⟩, Int.toNat_natCast, put_list]
  rfl
theorem rbytes_loop : ∀ (d k N w : Nat) (b c : Bool) (l : List Int), k + d = w → w ≤ 8 → N < 18446744073709551616 → l.length + d ≤ 1000 → ∃ b' c',
    iterN (fun x => st_coupletref12_bytes_0 x.1 x.2.1 x.2.2.1 x.2.2.2.1 x.2.2.2.2.1 x.2.2.2.2.2) (d + 1) ((N : Int), (w : Int), (k : Int), b, c, l) = some (b', c', l ++ le d N)
  | 0, k, N, w, b, c, l, hk, hw, hN, hl => by
    obtain rfl : k = w := by omega
    have e : st_coupletref12_bytes_0 (N : Int) (k : Int) (k : Int) b c l = some (.inr (b, c, l)) := by
      unfold st_coupletref12_bytes_0
      rw [decide_eq_false (Int.lt_irrefl _)]
      rfl
    exact ⟨b, c, by simp only [iterN, e, le, List.append_nil]⟩
  | d + 1, k, N, w, b, c, l, hk, hw, hN, hl => by
    have e1 : IntKind.wrap .u64 (Int.tdiv (N : Int) 256) = ((N / 256 : Nat) : Int) := by
      rw [Int.tdiv_eq_ediv_of_nonneg (by omega), show (N : Int) / 256 = ((N / 256 : Nat) : Int) by omega]
      exact wrap_u64_nat (by omega)
    have e2 : IntKind.wrap .u8 (Int.tmod (N : Int) 256) = ((N % 256 : Nat) : Int) := by
      rw [Int.tmod_eq_emod_of_nonneg (by omega), show (N : Int) % 256 = ((N % 256 : Nat) : Int) by omega, wrap_u8']
      omega
    have e : st_coupletref12_bytes_0 (N : Int) (w : Int) (k : Int) b c l = some (.inl (((N / 256 : Nat) : Int), (w : Int), ((k + 1 : Nat) : Int), (b && false), false, l ++ [((N % 256 : Nat) : Int)])) := by
      unfold st_coupletref12_bytes_0
      rw [decide_eq_true (by omega), decide_eq_true (by omega), decide_eq_true (by omega), e1, e2, inc64 (by omega)]
      rfl
    obtain ⟨b', c', ih⟩ := rbytes_loop d (k + 1) (N / 256) w (b && false) false (l ++ [((N % 256 : Nat) : Int)]) (by omega) hw (by omega) (by simp only [List.length_append, List.length_cons, List.length_nil]; omega)
    refine ⟨b', c', ?_⟩
    rw [iterN]
    simp only [e]
    rw [ih, le, List.append_assoc]
    rfl
theorem rbytes_at (N w : Nat) (hw : w ≤ 8) (hN : N < 18446744073709551616) : ∃ b c, go_coupletref12_bytes (N : Int) (w : Int) = some (b, c, le w N) := by
  obtain ⟨b, c, h⟩ := rbytes_loop w 0 N w true true [] (by omega) hw hN (by simp only [List.length_nil]; omega)
  refine ⟨b, c, ?_⟩
  unfold go_coupletref12_bytes lp_coupletref12_bytes_0
  rw [show (0 : Int) = ((0 : Nat) : Int) from rfl, loopN_of (w + 1) (by omega) h]
  rfl
theorem fget_at (b0 b1 : Bool) (l : List Int) (hl : isB l) (h8 : l.length ≤ 8) : go_frame_get b0 b1 l = some (IntKind.wrap .i64 ((val l : Nat) : Int)) := if_pos ⟨hl, h8⟩
theorem fx_right (n : Int) : go_fx_Right n = some (decide (okF n)) := by
  unfold go_fx_Right
  by_cases h : n ≥ -1125899906842624
  · rw [decide_eq_true h, cond_true]
    by_cases h2 : n ≤ 1125899906842624
    · rw [decide_eq_true h2, decide_eq_true (show okF n from ⟨h, h2⟩)]
    · rw [decide_eq_false h2, decide_eq_false (fun x : okF n => h2 x.2)]
  · rw [decide_eq_false h, cond_false, decide_eq_false (fun x : okF n => h x.1)]
theorem bad_loop (b3 b4 : Bool) (l : List Int) (hb : l.length < 9223372036854775807) : ∀ (d k : Nat), k + d = l.length → ∃ y,
    iterN (fun x => st_slices_IndexFunc__int_int_0 x.1 x.2.1 x.2.2.1 x.2.2.2.1 x.2.2.2.2) (d + 1) (b3, b4, l, (l.length : Int), (k : Int)) = some y ∧
      ((y = .inl () ∧ ∀ x ∈ l.drop k, okF x) ∨ (∃ j : Nat, y = .inr (j : Int) ∧ ¬ ∀ x ∈ l.drop k, okF x))
  | 0, k, hk => by
    obtain rfl : k = l.length := by omega
    have e : st_slices_IndexFunc__int_int_0 b3 b4 l (l.length : Int) (l.length : Int) = some (.inr (.inl ())) := by
      unfold st_slices_IndexFunc__int_int_0
      rw [decide_eq_false (Int.lt_irrefl _)]
      rfl
    exact ⟨.inl (), by simp only [iterN, e], .inl ⟨rfl, by rw [List.drop_length]; exact fun x h => by cases h⟩⟩
  | d + 1, k, hk => by
    have hk' : k < l.length := by omega
    have r1 : go_frame_Right_1 l[k] = some (!decide (okF l[k])) := by
      unfold go_frame_Right_1
      rw [fx_right]
      rfl
    have e : st_slices_IndexFunc__int_int_0 b3 b4 l (l.length : Int) (k : Int) = if okF l[k] then some (.inl (b3, b4, l, (l.length : Int), ((k + 1 : Nat) : Int))) else some (.inr (.inr (k : Int))) := by
      unfold st_slices_IndexFunc__int_int_0
      rw [Int.toNat_natCast, getD_at hk', r1, decide_eq_true (by omega), decide_eq_true (by omega), decide_eq_true hk', inc64 (by omega)]
      by_cases h : okF l[k]
      · rw [if_pos h, decide_eq_true h]; rfl
      · rw [if_neg h, decide_eq_false h]; rfl
    rw [iterN]
    simp only [e]
    rw [List.drop_eq_getElem_cons hk']
    by_cases h : okF l[k]
    · rw [if_pos h]
      obtain ⟨y, h1, h2⟩ := bad_loop b3 b4 l hb d (k + 1) (by omega)
      refine ⟨y, h1, ?_⟩
      rcases h2 with ⟨h2, h3⟩ | ⟨j, h2, h3⟩
      · exact .inl ⟨h2, fun x hx => (List.mem_cons.1 hx).elim (fun e => e ▸ h) (h3 x)⟩
      · exact .inr ⟨j, h2, fun hx => h3 fun x hm => hx x (List.mem_cons_of_mem _ hm)⟩
    · rw [if_neg h]
      exact ⟨_, rfl, .inr ⟨k, rfl, fun hx => h (hx _ (List.mem_cons_self ..))⟩⟩
theorem bad_at (b0 b1 : Bool) (l : List Int) (hb : l.length < 9223372036854775807) : go_slices_ContainsFunc__int_int b0 b1 l = some (!decide (∀ x ∈ l, okF x)) := by
  obtain ⟨y, h1, h2⟩ := bad_loop b0 b1 l hb l.length 0 (by omega)
  rw [List.drop_zero] at h2
  unfold go_slices_ContainsFunc__int_int go_slices_IndexFunc__int_int lp_slices_IndexFunc__int_int_0
  rw [show (0 : Int) = ((0 : Nat) : Int) from rfl, loopN_of (l.length + 1) (by omega) h1, Option.bind_some]
  rcases h2 with ⟨rfl, h3⟩ | ⟨j, rfl, h3⟩
  · rw [decide_eq_true h3]; rfl
  · rw [decide_eq_false h3]
    show some (decide ((j : Int) ≥ ((0 : Nat) : Int))) = _
    rw [decide_eq_true (by omega)]
    rfl
def M12 (k n : Int) : Int := if n < 1 ∨ 4 < n then 0 else if k = 1 then n + n * n else if k = 2 then 2 * n * n else if k = 3 then n + 2 else 0
theorem four {n : Int} (h1 : ¬ n < 1) (h2 : ¬ n > 4) : n = 1 ∨ n = 2 ∨ n = 3 ∨ n = 4 := by omega
theorem M12_b (k n : Int) : 0 ≤ M12 k n ∧ M12 k n ≤ 32 := by
  unfold M12
  split
  · omega
  · rename_i h
    rcases four (n := n) (by omega) (by omega) with rfl | rfl | rfl | rfl <;> (split <;> first | omega | (split <;> first | omega | (split <;> omega)))
theorem many_at (k n : Int) : go_frame_Many k n = some (M12 k n) := by
  unfold go_frame_Many M12
  by_cases h1 : n < 1
  · rw [decide_eq_true h1, if_pos (.inl h1)]; rfl
  by_cases h2 : n > 4
  · rw [decide_eq_false h1, decide_eq_true h2, if_pos (.inr h2)]; rfl
  rw [decide_eq_false h1, decide_eq_false h2, if_neg (by omega), ibeq, ibeq, ibeq]
  simp only [cond_false]
  by_cases k1 : k = 1
  · rw [decide_eq_true k1, if_pos k1, cond_true]
    rcases four h1 h2 with rfl | rfl | rfl | rfl <;> decide
  by_cases k2 : k = 2
  · rw [decide_eq_false k1, if_neg k1, decide_eq_true k2, if_pos k2, cond_false, cond_true]
    rcases four h1 h2 with rfl | rfl | rfl | rfl <;> decide
  by_cases k3 : k = 3
  · rw [decide_eq_false k1, if_neg k1, decide_eq_false k2, if_neg k2, decide_eq_true k3, if_pos k3, cond_false, cond_false, cond_true]
    rcases four h1 h2 with rfl | rfl | rfl | rfl <;> decide
  rw [decide_eq_false k1, if_neg k1, decide_eq_false k2, if_neg k2, decide_eq_false k3, if_neg k3]
  rfl
theorem rmany_at (k n : Int) : go_coupletref12_Many k n = some (M12 k n) := by
  unfold go_coupletref12_Many M12
  by_cases h1 : n < 1
  · rw [decide_eq_true h1, if_pos (.inl h1)]; rfl
  by_cases h2 : n > 4
  · rw [decide_eq_false h1, decide_eq_true h2, if_pos (.inr h2)]; rfl
  rw [decide_eq_false h1, decide_eq_false h2, if_neg (show ¬ (n < 1 ∨ 4 < n) by omega)]
  simp only [cond_false]
  by_cases h3 : k < 1
  · rw [decide_eq_true h3, if_neg (by omega), if_neg (by omega), if_neg (by omega)]; rfl
  by_cases h4 : k > 3
  · rw [decide_eq_false h3, decide_eq_true h4, if_neg (by omega), if_neg (by omega), if_neg (by omega)]; rfl
  rw [decide_eq_false h3, decide_eq_false h4]
  simp only [cond_false]
  have hk : k = 1 ∨ k = 2 ∨ k = 3 := by omega
  rcases hk with rfl | rfl | rfl <;> rcases four h1 h2 with rfl | rfl | rfl | rfl <;> decide
end Go.Proofs
set_option linter.unusedSimpArgs false
set_option linter.unusedVariables false
set_option maxRecDepth 100000
namespace Go.Proofs
open Go Go.Fx
def enc8 (L : List Int) : List Int := L.flatMap fun n => le 8 (u64 n)
theorem enc8_len : ∀ L : List Int, (enc8 L).length = 8 * L.length
  | [] => rfl
  | n :: L => by
    have := enc8_len L
    unfold enc8 at this ⊢
    rw [List.flatMap_cons, List.length_append, le_len, this, List.length_cons]; omega
theorem enc8_isB (L : List Int) : isB (enc8 L) := fun x hx => by
  obtain ⟨n, _, h⟩ := List.mem_flatMap.1 hx
  exact le_isB _ _ x h
def num (l : List Int) (k : Nat) : Int := IntKind.wrap .i64 ((val ((l.drop (8 + 8 * k)).take 8) : Nat) : Int)
def nums (l : List Int) (a d : Nat) : List Int := (List.range' a d).map (num l)
def seqN (l : List Int) : Int := ((val ((l.drop 4).take 4) : Nat) : Int)
theorem take2 {l : List Int} (h : 2 ≤ l.length) : l.take 2 = [l.getD 0 0, l.getD 1 0] := by
  match l, h with
  | a :: b :: r, _ => rfl
theorem bne_l (a b : Int) : (a != b) = !decide (a = b) := rfl
theorem lst_beq (a b : List Int) : (a == b) = decide (a = b) := by
  by_cases h : a = b
  · rw [decide_eq_true h, h]; exact beq_self_eq_true b
  · rw [decide_eq_false h]; exact beq_eq_false_iff_ne.2 h
theorem w4 {l : List Int} (hl : isB l) (h4 : l.length ≤ 4) : IntKind.wrap .i64 ((val l : Nat) : Int) = ((val l : Nat) : Int) := by
  have h1 := val_lt l hl
  have h2 : 256 ^ l.length ≤ 256 ^ 4 := Nat.pow_le_pow_right (by decide) h4
  exact w64 (by omega) (by omega)
theorem isB_wf {l : List Int} (h : ∀ x ∈ l, (Lit.int .u8 x).wf = true) : isB l := fun x hx => by
  have := h x hx
  simp only [Lit.wf, Bool.and_eq_true, decide_eq_true_eq] at this
  have h1 : 0 ≤ x := this.1
  have h2 : x ≤ 255 := this.2
  exact ⟨h1, by omega⟩
theorem enc8_slice : ∀ (L : List Int) (t : List Int) (k : Nat) (hk : k < L.length), ((enc8 L ++ t).drop (8 * k)).take 8 = le 8 (u64 L[k])
  | n :: L, t, 0, _ => by
    unfold enc8
    rw [List.flatMap_cons, Nat.mul_zero, List.drop_zero, List.append_assoc, List.take_left' (le_len _ _)]
    rfl
  | n :: L, t, k + 1, hk => by
    have ih := enc8_slice L t k (by simpa using hk)
    unfold enc8 at ih ⊢
    rw [List.flatMap_cons, List.append_assoc, show 8 * (k + 1) = 8 + 8 * k by omega, ← List.drop_drop, List.drop_left' (le_len _ _), ih]
    rfl
def i64b (n : Int) : Prop := -9223372036854775808 ≤ n ∧ n ≤ 9223372036854775807
theorem okF_i64 {n : Int} (h : okF n) : i64b n := by unfold okF at h; unfold i64b; omega
theorem num_of {a t : List Int} (ha : a.length = 8) {L : List Int} {k : Nat} (hk : k < L.length) (hb : i64b L[k]) : num (a ++ (enc8 L ++ t)) k = L[k] := by
  unfold num
  rw [← List.drop_drop, List.drop_left' ha, enc8_slice L t k hk, val_le, Nat.mod_eq_of_lt (u64_lt _)]
  exact wrap_i64_u hb.1 hb.2
theorem nums_of {a t : List Int} (ha : a.length = 8) {L : List Int} (hb : ∀ x ∈ L, i64b x) (i d : Nat) (h : i + d ≤ L.length) : nums (a ++ (enc8 L ++ t)) i d = (L.drop i).take d := by
  unfold nums
  apply List.ext_getElem?
  intro j
  by_cases hj : j < d
  · rw [List.getElem?_map, List.getElem?_range' hj, List.getElem?_take_of_lt hj, List.getElem?_drop, List.getElem?_eq_getElem (by omega : i + j < L.length)]
    show some (num _ (i + 1 * j)) = _
    rw [Nat.one_mul, num_of ha (by omega) (hb _ (List.getElem_mem _))]
  · rw [List.getElem?_eq_none (by simp; omega), List.getElem?_eq_none (by simp; omega)]
theorem seq_u64 {q : Int} (h0 : 0 ≤ q) (h1 : q ≤ 4294967295) : ((u64 q % 256 ^ 4 : Nat) : Int) = q := by unfold u64; omega
theorem enc8_nums (l : List Int) (hl : isB l) : ∀ (d a : Nat), 8 + 8 * (a + d) ≤ l.length → enc8 (nums l a d) = (l.drop (8 + 8 * a)).take (8 * d)
  | 0, a, _ => by simp [nums, enc8]
  | d + 1, a, h => by
    have ih := enc8_nums l hl d (a + 1) (by omega)
    have e : le 8 (u64 (num l a)) = (l.drop (8 + 8 * a)).take 8 := by
      have hs : isB ((l.drop (8 + 8 * a)).take 8) := isB_take (isB_drop hl _) _
      have hlen : ((l.drop (8 + 8 * a)).take 8).length = 8 := by rw [List.length_take, List.length_drop]; omega
      have hv := val_lt _ hs
      rw [hlen] at hv
      unfold num
      rw [u64_wrap (by omega)]
      have := le_val _ hs
      rw [hlen] at this
      exact this
    unfold nums enc8 at ih ⊢
    rw [List.range'_succ, List.map_cons, List.flatMap_cons, ih, e, show 8 * (d + 1) = 8 + 8 * d by omega, List.take_add, List.drop_drop]
    rw [show 8 + 8 * (a + 1) = 8 + 8 * a + 8 by omega]
def R12 (k q n : Int) (L : List Int) : Prop := 0 < M12 k n ∧ (L.length : Int) = M12 k n ∧ 0 ≤ q ∧ q ≤ 4294967295 ∧ ∀ x ∈ L, okF x
instance (k q n : Int) (L : List Int) : Decidable (R12 k q n L) := by unfold R12; infer_instance
theorem M12_pos {k n : Int} (h : M12 k n ≠ 0) : (1 ≤ k ∧ k ≤ 3) ∧ 1 ≤ n ∧ n ≤ 4 := by
  unfold M12 at h
  split at h
  · exact absurd rfl h
  · rename_i hn
    split at h
    · omega
    · split at h
      · omega
      · split at h
        · omega
        · exact absurd rfl h
theorem fright_at (k q n : Int) (b3 b4 : Bool) (L : List Int) (hL : L.length < 9223372036854775807) : go_frame_Right k q n b3 b4 L = some (decide (R12 k q n L)) := by
  unfold go_frame_Right
  rw [many_at, Option.bind_some]
  by_cases c1 : 0 < M12 k n
  case neg =>
    rw [show decide (M12 k n > 0) = false from decide_eq_false c1, cond_false, decide_eq_false (fun r : R12 k q n L => c1 r.1)]
  rw [show decide (M12 k n > 0) = true from decide_eq_true c1, cond_true, ibeq]
  by_cases c2 : (L.length : Int) = M12 k n
  case neg =>
    rw [decide_eq_false c2, cond_false, decide_eq_false (fun r : R12 k q n L => c2 r.2.1)]
  rw [decide_eq_true c2, cond_true]
  by_cases c3 : q ≥ 0
  case neg =>
    rw [decide_eq_false c3, cond_false, decide_eq_false (fun r : R12 k q n L => c3 r.2.2.1)]
  by_cases c4 : q ≤ 4294967295
  case neg =>
    rw [decide_eq_true c3, cond_true, decide_eq_false c4, cond_false, decide_eq_false (fun r : R12 k q n L => c4 r.2.2.2.1)]
  rw [decide_eq_true c3, cond_true, decide_eq_true c4, cond_true, bad_at _ _ _ hL, Option.bind_some, Bool.not_not]
  congr 1
  exact decide_eq_decide.2 ⟨fun r => ⟨c1, c2, c3, c4, r⟩, fun r => r.2.2.2.2⟩
theorem fr_loop (k q n : Int) (b12 b13 : Bool) (L : List Int) (hb : L.length < 9223372036854775807) : ∀ (d j : Nat), j + d = L.length →
    iterN (fun x => st_coupletref12_Right_0 x.1 x.2.1 x.2.2.1 x.2.2.2.1 x.2.2.2.2.1 x.2.2.2.2.2.1 x.2.2.2.2.2.2) (d + 1) ((j : Int), k, q, n, b12, b13, L) = some (if ∀ x ∈ L.drop j, okF x then .inl () else .inr false)
  | 0, j, hj => by
    obtain rfl : j = L.length := by omega
    have e : st_coupletref12_Right_0 (L.length : Int) k q n b12 b13 L = some (.inr (.inl ())) := by
      unfold st_coupletref12_Right_0
      rw [decide_eq_false (Int.lt_irrefl _)]
      rfl
    simp only [iterN, e]
    rw [List.drop_length, if_pos (by simp)]
  | d + 1, j, hj => by
    have h1 : j < L.length := by omega
    have e : st_coupletref12_Right_0 (j : Int) k q n b12 b13 L = if okF L[j] then some (.inl (((j + 1 : Nat) : Int), k, q, n, b12, b13, L)) else some (.inr (.inr false)) := by
      unfold st_coupletref12_Right_0
      rw [Int.toNat_natCast, getD_at h1, ref02_right, show decide ((j : Int) < (L.length : Int)) = true from decide_eq_true (by omega), show decide (0 ≤ (j : Int)) = true from decide_eq_true (by omega), show decide (j < L.length) = true from decide_eq_true h1, inc64 (by omega)]
      by_cases x1 : okF L[j]
      · rw [if_pos x1, decide_eq_true x1]; rfl
      · rw [if_neg x1, decide_eq_false x1]; rfl
    rw [iterN]
    simp only [e]
    rw [List.drop_eq_getElem_cons h1]
    by_cases hx : okF L[j]
    · rw [if_pos hx]
      dsimp only
      rw [fr_loop k q n b12 b13 L hb d (j + 1) (by omega)]
      by_cases hr : ∀ x ∈ L.drop (j + 1), okF x
      · rw [if_pos hr, if_pos (fun x hm => (List.mem_cons.1 hm).elim (fun e => e ▸ hx) (hr x))]
      · rw [if_neg hr, if_neg (fun hm => hr fun x h => hm x (List.mem_cons_of_mem _ h))]
    · rw [if_neg hx, if_neg (fun hm => hx (hm L[j] (List.mem_cons_self ..)))]
theorem rfright_at (k q n : Int) (b3 b4 : Bool) (L : List Int) (hL : L.length < 9223372036854775807) : go_coupletref12_Right k q n b3 b4 L = some (decide (R12 k q n L)) := by
  have hb := M12_b k n
  unfold go_coupletref12_Right
  rw [rmany_at, Option.bind_some, ibeq]
  by_cases c0 : M12 k n = 0
  · rw [decide_eq_true c0, decide_eq_false (fun r : R12 k q n L => by have := r.1; omega)]; rfl
  rw [decide_eq_false c0, cond_false, Option.bind_some, ibne]
  by_cases c2 : M12 k n = (L.length : Int)
  case neg =>
    rw [decide_eq_false c2, decide_eq_false (fun r : R12 k q n L => c2 r.2.1.symm)]; rfl
  rw [decide_eq_true c2]
  simp only [Bool.not_true, cond_false]
  by_cases c3 : q < 0
  · rw [decide_eq_true c3, decide_eq_false (fun r : R12 k q n L => by have := r.2.2.1; omega)]; rfl
  by_cases c4 : q > 4294967295
  · rw [decide_eq_false c3, decide_eq_true c4, decide_eq_false (fun r : R12 k q n L => by have := r.2.2.2.1; omega)]; rfl
  unfold lp_coupletref12_Right_0
  rw [decide_eq_false c3, cond_false, decide_eq_false c4, cond_false, show (0 : Int) = ((0 : Nat) : Int) from rfl, loopN_of (L.length + 1) (by omega) (fr_loop k q n b3 b4 L hL L.length 0 (by omega)), Option.bind_some, List.drop_zero]
  by_cases c5 : ∀ x ∈ L, okF x
  · rw [if_pos c5, decide_eq_true (show R12 k q n L from ⟨by omega, c2.symm, by omega, by omega, c5⟩)]; rfl
  · rw [if_neg c5, decide_eq_false (fun r : R12 k q n L => c5 r.2.2.2.2)]; rfl
def body12 (k q n : Int) (L : List Int) : List Int := [78, 86, k, n] ++ le 4 (u64 q) ++ enc8 L
def bytes12 (k q n : Int) (L : List Int) : List Int := body12 k q n L ++ le 4 (crcV (body12 k q n L))
theorem body12_len (k q n : Int) (L : List Int) : (body12 k q n L).length = 8 + 8 * L.length := by
  unfold body12
  simp only [List.length_append, List.length_cons, List.length_nil, le_len, enc8_len]
theorem body12_isB {k q n : Int} {L : List Int} (h0 : 0 ≤ k ∧ k < 256) (h1 : 0 ≤ n ∧ n < 256) : isB (body12 k q n L) := by
  unfold body12
  rw [isB_append, isB_append]
  refine ⟨⟨?_, le_isB _ _⟩, enc8_isB _⟩
  simp only [isB_cons]
  exact ⟨⟨by decide, by decide⟩, ⟨by decide, by decide⟩, h0, h1, isB_nil⟩
theorem bytes12_isB {k q n : Int} {L : List Int} (h0 : 0 ≤ k ∧ k < 256) (h1 : 0 ≤ n ∧ n < 256) : isB (bytes12 k q n L) := isB_append.2 ⟨body12_isB h0 h1, le_isB _ _⟩
theorem bytes12_len (k q n : Int) (L : List Int) : (bytes12 k q n L).length = 12 + 8 * L.length := by
  unfold bytes12
  rw [List.length_append, body12_len, le_len]; omega
theorem wu8 {h : Int} (h0 : 0 ≤ h) (h1 : h ≤ 255) : IntKind.wrap .u8 h = h := by rw [IntKind.wrap_u8]; omega
theorem enc_loop (b11 b12 : Bool) (L : List Int) (hL : L.length ≤ 100) : ∀ (d k : Nat) (acc : List Int), k + d = L.length → acc.length + 8 * d ≤ 10000 →
    iterN (fun x => st_new_frame_Encode_0 x.1 x.2.1 x.2.2.1 x.2.2.2.1 x.2.2.2.2.1 x.2.2.2.2.2.1 x.2.2.2.2.2.2.1 x.2.2.2.2.2.2.2) (d + 1) (b11, b12, L, (L.length : Int), (k : Int), false, false, acc) = some (false, false, acc ++ enc8 (L.drop k))
  | 0, k, acc, hk, hb => by
    obtain rfl : k = L.length := by omega
    have e : st_new_frame_Encode_0 b11 b12 L (L.length : Int) (L.length : Int) false false acc = some (.inr (false, false, acc)) := by
      unfold st_new_frame_Encode_0
      rw [decide_eq_false (Int.lt_irrefl _)]
      rfl
    simp only [iterN, e]
    rw [List.drop_length]
    simp [enc8]
  | d + 1, k, acc, hk, hb => by
    have hk' : k < L.length := by omega
    have hp := fput_at false acc L[k] 8 (by decide) (by omega)
    have e : st_new_frame_Encode_0 b11 b12 L (L.length : Int) (k : Int) false false acc = some (.inl (b11, b12, L, (L.length : Int), ((k + 1 : Nat) : Int), false, false, acc ++ le 8 (u64 L[k]))) := by
      unfold st_new_frame_Encode_0
      rw [Int.toNat_natCast, getD_at hk', show (8 : Int) = ((8 : Nat) : Int) from rfl, hp, decide_eq_true (by omega), decide_eq_true (by omega), decide_eq_true hk', inc64 (by omega)]
      rfl
    rw [iterN]
    simp only [e]
    rw [enc_loop b11 b12 L hL d (k + 1) _ (by omega) (by rw [List.length_append, le_len]; omega), List.drop_eq_getElem_cons hk', List.append_assoc]
    rfl
theorem encode_at {k q n : Int} {L : List Int} (b3 b4 : Bool) (hr : R12 k q n L) : go_new_frame_Encode k q n b3 b4 L = some (false, false, bytes12 k q n L, 0) := by
  have hmb := M12_b k n
  obtain ⟨hk, hn⟩ := M12_pos (k := k) (n := n) (by have := hr.1; omega)
  have hlen := hr.2.1
  have hp := fput_at true [78, 86, k, n] q 4 (by decide) (by simp)
  have hl := enc_loop b3 b4 L (by omega) L.length 0 ([78, 86, k, n] ++ le 4 (u64 q)) (by omega) (by simp only [List.length_append, le_len, List.length_cons, List.length_nil]; omega)
  rw [List.drop_zero] at hl
  have hB := body12_isB (k := k) (n := n) (q := q) (L := L) (by omega) (by omega)
  have hbl := body12_len k q n L
  have hs := sum_at false false (body12 k q n L) hB (by omega)
  have hq := fput_at false (body12 k q n L) (IntKind.wrap .i64 ((crcV (body12 k q n L) : Nat) : Int)) 4 (by decide) (by omega)
  have hcr := crcV_lt hB
  rw [u64_wrap (by omega)] at hq
  unfold go_new_frame_Encode
  rw [fright_at _ _ _ _ _ _ (by omega), decide_eq_true hr, Option.bind_some, Bool.not_true, cond_false, wu8 (by omega) (by omega), wu8 (by omega) (by omega), show (4 : Int) = ((4 : Nat) : Int) from rfl, hp, Option.bind_some]
  dsimp only
  unfold lp_new_frame_Encode_0
  rw [show (0 : Int) = ((0 : Nat) : Int) from rfl, loopN_of (L.length + 1) (by omega) hl, Option.bind_some]
  dsimp only
  rw [show [78, 86, k, n] ++ le 4 (u64 q) ++ enc8 L = body12 k q n L from rfl, hs, Option.bind_some, hq, Option.bind_some]
  rfl
theorem encode_not {k q n : Int} {L : List Int} (b3 b4 : Bool) (hL : L.length < 9223372036854775807) (hr : ¬ R12 k q n L) : go_new_frame_Encode k q n b3 b4 L = some (true, true, [], 1) := by
  unfold go_new_frame_Encode
  rw [fright_at _ _ _ _ _ _ hL, decide_eq_false hr]
  rfl
theorem renc_loop (k q n : Int) (b11 b12 : Bool) (X : List Int) (hL : X.length ≤ 100) : ∀ (d j : Nat) (acc : List Int), j + d = X.length → acc.length + 8 * d ≤ 10000 →
    iterN (fun x => st_coupletref12_Encode_0 x.1 x.2.1 x.2.2.1 x.2.2.2.1 x.2.2.2.2.1 x.2.2.2.2.2.1 x.2.2.2.2.2.2.1 x.2.2.2.2.2.2.2.1 x.2.2.2.2.2.2.2.2.1 x.2.2.2.2.2.2.2.2.2) (d + 1) ((j : Int), k, q, n, b11, b12, X, false, false, acc) =
      some (false, false, acc ++ enc8 (X.drop j))
  | 0, j, acc, hk, hb => by
    obtain rfl : j = X.length := by omega
    have e : st_coupletref12_Encode_0 (X.length : Int) k q n b11 b12 X false false acc = some (.inr (false, false, acc)) := by
      unfold st_coupletref12_Encode_0
      rw [decide_eq_false (Int.lt_irrefl _)]
      rfl
    simp only [iterN, e]
    rw [List.drop_length]
    simp [enc8]
  | d + 1, j, acc, hk, hb => by
    have hk' : j < X.length := by omega
    obtain ⟨b, c, hp⟩ := rbytes_at (u64 X[j]) 8 (by decide) (u64_lt _)
    have e : st_coupletref12_Encode_0 (j : Int) k q n b11 b12 X false false acc = some (.inl (((j + 1 : Nat) : Int), k, q, n, b11, b12, X, false, false, acc ++ le 8 (u64 X[j]))) := by
      unfold st_coupletref12_Encode_0
      rw [Int.toNat_natCast, getD_at hk', wrap_u64', show (8 : Int) = ((8 : Nat) : Int) from rfl, hp, decide_eq_true (by omega), decide_eq_true (by omega), decide_eq_true hk', inc64 (by omega)]
      simp only [cond_true, Option.bind_some, le_len]
      rw [decide_eq_true (by omega), decide_eq_true (by omega)]
      rfl
    rw [iterN]
    simp only [e]
    rw [renc_loop k q n b11 b12 X hL d (j + 1) _ (by omega) (by rw [List.length_append, le_len]; omega), List.drop_eq_getElem_cons hk', List.append_assoc]
    rfl
theorem rencode_at {k q n : Int} {L : List Int} (b3 b4 : Bool) (h0 : 0 ≤ k ∧ k < 256) (h1 : 0 ≤ n ∧ n < 256) (hL : L.length ≤ 100) : go_coupletref12_Encode k q n b3 b4 L = some (false, false, bytes12 k q n L) := by
  obtain ⟨b, c, hp⟩ := rbytes_at (u64 q) 4 (by decide) (u64_lt _)
  have l0 := renc_loop k q n b3 b4 L (by omega) L.length 0 ([78, 86, k, n] ++ le 4 (u64 q)) (by omega) (by simp only [List.length_append, le_len, List.length_cons, List.length_nil]; omega)
  rw [List.drop_zero] at l0
  have hB := body12_isB (k := k) (n := n) (q := q) (L := L) h0 h1
  have hlen := body12_len k q n L
  have hs := ref_sum_at false false (body12 k q n L) hB (by omega)
  have hcr := crcV_lt hB
  obtain ⟨b', c', hq⟩ := rbytes_at (crcV (body12 k q n L)) 4 (by decide) (by omega)
  unfold go_coupletref12_Encode lp_coupletref12_Encode_0
  rw [wu8 h0.1 (by omega), wu8 h1.1 (by omega), wrap_u64', show (4 : Int) = ((4 : Nat) : Int) from rfl, hp, Option.bind_some]
  simp only [le_len, Bool.false_and]
  rw [decide_eq_true (by decide), cond_true, decide_eq_true (by decide), cond_true, show (0 : Int) = ((0 : Nat) : Int) from rfl]
  rw [show (78 :: 86 :: k :: n :: le 4 (u64 q)) = [78, 86, k, n] ++ le 4 (u64 q) from rfl, loopN_of (L.length + 1) (by omega) l0, Option.bind_some]
  dsimp only
  rw [show [78, 86, k, n] ++ le 4 (u64 q) ++ enc8 L = body12 k q n L from rfl, hs, Option.bind_some, wrap_u64_nat (by omega), hq, Option.bind_some]
  simp only [le_len, Bool.false_and]
  rw [decide_eq_true (by omega), decide_eq_true (by omega)]
  rfl
theorem same_at (n0 n1 n2 : Int) (b3 b4 : Bool) (L : List Int) (n6 n7 n8 : Int) (b9 b10 : Bool) (M : List Int) (hL : L.length < 9223372036854775807) :
    go_frame_Same n0 n1 n2 b3 b4 L n6 n7 n8 b9 b10 M = some (decide (n0 = n6 ∧ n1 = n7 ∧ n2 = n8 ∧ L = M)) := by
  unfold go_frame_Same
  rw [ibeq, ibeq, ibeq, equal_at _ _ _ _ L M hL]
  by_cases h1 : n0 = n6
  · by_cases h2 : n1 = n7
    · by_cases h3 : n2 = n8
      · by_cases h4 : L = M
        · simp [h1, h2, h3, h4]
        · simp [h1, h2, h3, h4]
      · simp [h1, h2, h3]
    · simp [h1, h2]
  · simp [h1]
end Go.Proofs
