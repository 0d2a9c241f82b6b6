/-
  The sum, equal rows, a number that may be: what the common functions compute (plain).
-/
import Derived.Test.YtajphaljpkeecaaDoorWGC0
import Derived.Test.YtajphaljpkeecaaDoorWLh
import Derived.Test.YtajphaljpkeecaaDoorWWire
set_option linter.unusedSimpArgs false
set_option linter.unusedVariables false
namespace Go.Proofs
open Go Go.Fx

def okF (n : Int) : Prop := -1125899906842624 ≤ n ∧ n ≤ 1125899906842624
instance (n : Int) : Decidable (okF n) := by unfold okF; infer_instance
theorem ref02_right (n : Int) : go_coupletref02_Right n = some (decide (okF n)) := by
  unfold go_coupletref02_Right
  by_cases h : n ≥ -1125899906842624
  · rw [decide_eq_true h, cond_true]
    by_cases h2 : n ≤ 1125899906842624
    · rw [decide_eq_true h2, decide_eq_true (show okF n from ⟨h, h2⟩)]
    · rw [decide_eq_false h2, decide_eq_false (fun x : okF n => h2 x.2)]
  · rw [decide_eq_false h, cond_false, decide_eq_false (fun x : okF n => h x.1)]
theorem inc64 {k : Nat} (h : k < 9223372036854775807) : IntKind.wrap .i64 ((k : Int) + 1) = ((k + 1 : Nat) : Int) := by
  rw [w64 (by omega) (by omega)]; rfl
theorem getD_at {l : List Int} {k : Nat} (h : k < l.length) : l.getD k 0 = l[k] := by
  rw [List.getD_eq_getElem?_getD, List.getElem?_eq_getElem h]; rfl
theorem b_nat {x : Int} (h : 0 ≤ x ∧ x < 256) : x = ((x.toNat : Nat) : Int) := by omega

/-! ### sum.Of -/
theorem upd_step (s k : Nat) (b5 b6 : Bool) (l : List Int) (hs : s < 4294967296) (hl : isB l) (hk : k < l.length) (hb : l.length < 9223372036854775807) :
    st_sum_Update_0 (s : Int) b5 b6 l (l.length : Int) (k : Int) = some (.inl (((byteS (s ^^^ l[k].toNat) : Nat) : Int), b5, b6, l, (l.length : Int), ((k + 1 : Nat) : Int))) := by
  have hx := hl _ (List.getElem_mem hk)
  have e0 : IntKind.wrap .u32 l[k] = ((l[k].toNat : Nat) : Int) := by
    conv => lhs; rw [b_nat hx]
    exact wrap_u32_nat (by omega)
  have e1 : IntKind.wrap .u32 (bXor .u32 (s : Int) ((l[k].toNat : Nat) : Int)) = ((s ^^^ l[k].toNat : Nat) : Int) := bXor32 hs (by omega)
  have hx1 := xor_b_lt hs hx.2
  have tabm : ∀ j : Nat, j < 16 → ∃ t : Nat, List.getD [(0 : Int), 498536548, 997073096, 651767980, 1994146192, 1802195444, 1303535960, 1342533948, 3988292384, 4027552580, 3604390888, 3412177804, 2607071920, 2262029012, 2685067896, 3183342108] j 0 = (t : Int) ∧ t < 4294967296 ∧ t = [0, 498536548, 997073096, 651767980, 1994146192, 1802195444, 1303535960, 1342533948, 3988292384, 4027552580, 3604390888, 3412177804, 2607071920, 2262029012, 2685067896, 3183342108].getD j 0 := by
    intro j hj
    refine ⟨_, ?_, ?_, rfl⟩
    · revert j; decide
    · revert j; decide
  have nibI : ∀ x : Nat, x < 4294967296 → IntKind.wrap .u32 (bXor .u32 (List.getD [(0 : Int), 498536548, 997073096, 651767980, 1994146192, 1802195444, 1303535960, 1342533948, 3988292384, 4027552580, 3604390888, 3412177804, 2607071920, 2262029012, 2685067896, 3183342108] (0 + Int.toNat (IntKind.wrap .u32 (bAnd .u32 (x : Int) 15))) 0) ((x : Int) / 16)) = ((nib x : Nat) : Int) := by
    intro x hx
    rw [bAnd15, Int.toNat_natCast, Nat.zero_add]
    obtain ⟨t, t1, t2, t3⟩ := tabm (x % 16) (Nat.mod_lt _ (by decide))
    rw [t1, show (x : Int) / 16 = ((x / 16 : Nat) : Int) by omega, bXor32 t2 (by omega), t3]
    rfl
  have hn : nib (s ^^^ l[k].toNat) < 4294967296 := by rw [nib_eq]; exact bitN_lt 4 hx1
  unfold st_sum_Update_0
  rw [Int.toNat_natCast, getD_at hk, e0, e1, nibI _ hx1, nibI _ hn, ← byteS_nib, bAnd15, bAnd15, Int.toNat_natCast, Int.toNat_natCast, decide_eq_true (by omega), decide_eq_true (by omega), decide_eq_true hk,
    decide_eq_true (by omega), decide_eq_true (by omega), decide_eq_true (by omega), decide_eq_true (by omega), inc64 (by omega)]
  rfl
theorem upd_loop (b5 b6 : Bool) (l : List Int) (hl : isB l) (hb : l.length < 9223372036854775807) : ∀ (d k s : Nat), k + d = l.length → s < 4294967296 →
    iterN (fun x => st_sum_Update_0 x.1 x.2.1 x.2.2.1 x.2.2.2.1 x.2.2.2.2.1 x.2.2.2.2.2) (d + 1) ((s : Int), b5, b6, l, (l.length : Int), (k : Int)) = some ((crcF s (l.drop k) : Nat) : Int)
  | 0, k, s, hk, hs => by
    obtain rfl : k = l.length := by omega
    have e : st_sum_Update_0 (s : Int) b5 b6 l (l.length : Int) (l.length : Int) = some (.inr (s : Int)) := by
      unfold st_sum_Update_0
      rw [decide_eq_false (Int.lt_irrefl _)]
      rfl
    simp only [iterN, e, List.drop_length, crcF]
  | d + 1, k, s, hk, hs => by
    have hk' : k < l.length := by omega
    rw [iterN]
    simp only [upd_step s k b5 b6 l hs hl hk' hb]
    rw [upd_loop b5 b6 l hl hb d (k + 1) _ (by omega) (byteS_lt (xor_b_lt hs (hl _ (List.getElem_mem hk')).2)), List.drop_eq_getElem_cons hk']
    rfl
theorem sum_at (b0 b1 : Bool) (l : List Int) (hl : isB l) (hb : l.length ≤ 1000000) : go_sum_Of b0 b1 l = some ((crcV l : Nat) : Int) := by
  have h := upd_loop b0 b1 l hl (by omega) l.length 0 4294967295 (by omega) (by decide)
  unfold go_sum_Of go_sum_Update lp_sum_Update_0
  rw [show IntKind.wrap .u32 (bXor .u32 4294967295 0) = ((4294967295 : Nat) : Int) by decide]
  rw [show (0 : Int) = ((0 : Nat) : Int) from rfl, loopN_of (l.length + 1) (by omega) h, Option.bind_some, Option.bind_some, List.drop_zero]
  have := crcF_lt (s := 4294967295) (by decide) hl
  rw [show (4294967295 : Int) = ((4294967295 : Nat) : Int) from rfl, bXor32 (by decide) this, Nat.xor_comm]
  rfl

/-! ### the document's sum -/
theorem bit_step (b8 b9 : Bool) (l : List Int) (x k : Nat) (m : Int) (hx : x < 4294967296) (hk : k < 8) :
    st_coupletref11_Of_1 b8 b9 l (x : Int) m (k : Int) = some (.inl (b8, b9, l, ((bitS x : Nat) : Int), m, ((k + 1 : Nat) : Int))) := by
  have e1 : Int.tmod (x : Int) 2 = ((x % 2 : Nat) : Int) := by rw [Int.tmod_eq_emod_of_nonneg (by omega)]; omega
  have e2 : IntKind.wrap .u32 (Int.tdiv (x : Int) 2) = ((x / 2 : Nat) : Int) := by
    rw [Int.tdiv_eq_ediv_of_nonneg (by omega), show (x : Int) / 2 = ((x / 2 : Nat) : Int) by omega]
    exact wrap_u32_nat (by omega)
  have e3 : IntKind.wrap .u32 (bXor .u32 ((x / 2 : Nat) : Int) 3988292384) = ((x / 2 ^^^ 3988292384 : Nat) : Int) := bXor32 (a := x / 2) (b := 3988292384) (by omega) (by decide)
  unfold st_coupletref11_Of_1
  rw [decide_eq_true (by omega), cond_true, e1, e2, e3, inc64 (by omega)]
  unfold bitS
  by_cases h : x % 2 = 1
  · rw [h, if_pos rfl]; rfl
  · have h0 : x % 2 = 0 := by omega
    rw [h0, if_neg (by decide), Nat.xor_zero]; rfl
theorem bit_loop (b8 b9 : Bool) (l : List Int) (m : Int) : ∀ (d k x : Nat), k + d = 8 → x < 4294967296 →
    iterN (fun x => st_coupletref11_Of_1 x.1 x.2.1 x.2.2.1 x.2.2.2.1 x.2.2.2.2.1 x.2.2.2.2.2) (d + 1) (b8, b9, l, (x : Int), m, (k : Int)) = some (b8, b9, l, ((bitN d x : Nat) : Int), m)
  | 0, k, x, hk, hx => by
    obtain rfl : k = 8 := by omega
    rfl
  | d + 1, k, x, hk, hx => by
    rw [iterN]
    simp only [bit_step b8 b9 l x k m hx (by omega)]
    rw [bit_loop b8 b9 l m d (k + 1) _ (by omega) (bitS_lt hx)]
    rfl
theorem ref_loop (b5 b6 : Bool) (l : List Int) (hl : isB l) (hb : l.length < 9223372036854775807) : ∀ (d k s : Nat), k + d = l.length → s < 4294967296 →
    iterN (fun x => st_coupletref11_Of_0 x.1 x.2.1 x.2.2.1 x.2.2.2.1 x.2.2.2.2) (d + 1) (b5, b6, l, (s : Int), (k : Int)) = some ((crcF s (l.drop k) : Nat) : Int)
  | 0, k, s, hk, hs => by
    obtain rfl : k = l.length := by omega
    have e : st_coupletref11_Of_0 b5 b6 l (s : Int) (l.length : Int) = some (.inr (s : Int)) := by
      unfold st_coupletref11_Of_0
      rw [decide_eq_false (Int.lt_irrefl _)]
      rfl
    simp only [iterN, e, List.drop_length, crcF]
  | d + 1, k, s, hk, hs => by
    have hk' : k < l.length := by omega
    have hx := hl _ (List.getElem_mem hk')
    have e0 : IntKind.wrap .u32 l[k] = ((l[k].toNat : Nat) : Int) := by
      conv => lhs; rw [b_nat hx]
      exact wrap_u32_nat (by omega)
    have e1 : IntKind.wrap .u32 (bXor .u32 (s : Int) ((l[k].toNat : Nat) : Int)) = ((s ^^^ l[k].toNat : Nat) : Int) := bXor32 hs (by omega)
    have hx1 := xor_b_lt hs hx.2
    have e : st_coupletref11_Of_0 b5 b6 l (s : Int) (k : Int) = some (.inl (b5, b6, l, ((byteS (s ^^^ l[k].toNat) : Nat) : Int), ((k + 1 : Nat) : Int))) := by
      unfold st_coupletref11_Of_0 lp_coupletref11_Of_1
      rw [Int.toNat_natCast, getD_at hk', e0, e1, decide_eq_true (by omega), decide_eq_true (by omega), decide_eq_true hk', show (0 : Int) = ((0 : Nat) : Int) from rfl,
        loopN_of 9 (by decide) (bit_loop b5 b6 l (k : Int) 8 0 _ rfl hx1)]
      simp only [cond_true, Option.bind_some]
      rw [inc64 (by omega)]
      rfl
    rw [iterN]
    simp only [e]
    rw [ref_loop b5 b6 l hl hb d (k + 1) _ (by omega) (byteS_lt hx1), List.drop_eq_getElem_cons hk']
    rfl
theorem ref_sum_at (b0 b1 : Bool) (l : List Int) (hl : isB l) (hb : l.length ≤ 1000000) : go_coupletref11_Of b0 b1 l = some ((crcV l : Nat) : Int) := by
  have h := ref_loop b0 b1 l hl (by omega) l.length 0 4294967295 (by omega) (by decide)
  unfold go_coupletref11_Of lp_coupletref11_Of_0
  rw [show (0 : Int) = ((0 : Nat) : Int) from rfl, show (4294967295 : Int) = ((4294967295 : Nat) : Int) from rfl, loopN_of (l.length + 1) (by omega) h, Option.bind_some, List.drop_zero]
  have := crcF_lt (s := 4294967295) (by decide) hl
  rw [bXor32 this (by decide)]
  rfl

/-! ### equal rows -/
theorem eq_loop (b6 b7 b9 b10 : Bool) (a b : List Int) (h : a.length = b.length) (hb : a.length < 9223372036854775807) : ∀ (d k : Nat), k + d = a.length →
    iterN (fun x => st_slices_Equal__int_int_0 x.1 x.2.1 x.2.2.1 x.2.2.2.1 x.2.2.2.2.1 x.2.2.2.2.2.1 x.2.2.2.2.2.2.1 x.2.2.2.2.2.2.2) (d + 1) (b6, b7, a, b9, b10, b, (a.length : Int), (k : Int)) =
      some (if a.drop k = b.drop k then .inl () else .inr false)
  | 0, k, hk => by
    obtain rfl : k = a.length := by omega
    have e : st_slices_Equal__int_int_0 b6 b7 a b9 b10 b (a.length : Int) (a.length : Int) = some (.inr (.inl ())) := by
      unfold st_slices_Equal__int_int_0
      rw [decide_eq_false (Int.lt_irrefl _)]
      rfl
    simp only [iterN, e]
    rw [List.drop_length, h, List.drop_length, if_pos rfl]
  | d + 1, k, hk => by
    have h1 : k < a.length := by omega
    have h2 : k < b.length := by omega
    have e : st_slices_Equal__int_int_0 b6 b7 a b9 b10 b (a.length : Int) (k : Int) = if a[k] = b[k] then some (.inl (b6, b7, a, b9, b10, b, (a.length : Int), ((k + 1 : Nat) : Int))) else some (.inr (.inr false)) := by
      unfold st_slices_Equal__int_int_0
      rw [Int.toNat_natCast, getD_at h1, getD_at h2, decide_eq_true (by omega), decide_eq_true (by omega), decide_eq_true h1, decide_eq_true (by omega), decide_eq_true h2, inc64 (by omega), ibne]
      by_cases hx : a[k] = b[k]
      · rw [if_pos hx, decide_eq_true hx]; rfl
      · rw [if_neg hx, decide_eq_false hx]; rfl
    rw [iterN]
    simp only [e]
    rw [List.drop_eq_getElem_cons h1, List.drop_eq_getElem_cons h2]
    by_cases hx : a[k] = b[k]
    · rw [if_pos hx]
      dsimp only
      rw [eq_loop b6 b7 b9 b10 a b h hb d (k + 1) (by omega)]
      by_cases hr : a.drop (k + 1) = b.drop (k + 1)
      · rw [if_pos hr, if_pos (by rw [hx, hr])]
      · rw [if_neg hr, if_neg (fun x => hr (List.cons.inj x).2)]
    · rw [if_neg hx, if_neg (fun x => hx (List.cons.inj x).1)]
theorem equal_at (b0 b1 b3 b4 : Bool) (a b : List Int) (hb : a.length < 9223372036854775807) : go_slices_Equal__int_int b0 b1 a b3 b4 b = some (decide (a = b)) := by
  unfold go_slices_Equal__int_int lp_slices_Equal__int_int_0
  by_cases h : a.length = b.length
  · rw [show (((a.length : Nat) : Int) != ((b.length : Nat) : Int)) = false by rw [ibne, decide_eq_true (by omega)]; rfl, cond_false, show (0 : Int) = ((0 : Nat) : Int) from rfl,
      loopN_of (a.length + 1) (by omega) (eq_loop b0 b1 b3 b4 a b h hb a.length 0 (by omega)), Option.bind_some, List.drop_zero, List.drop_zero]
    by_cases hx : a = b
    · rw [if_pos hx, decide_eq_true hx]; rfl
    · rw [if_neg hx, decide_eq_false hx]; rfl
  · rw [show (((a.length : Nat) : Int) != ((b.length : Nat) : Int)) = true by rw [ibne, decide_eq_false (by omega)]; rfl, cond_true, decide_eq_false (fun x => h (by rw [x]))]
end Go.Proofs
