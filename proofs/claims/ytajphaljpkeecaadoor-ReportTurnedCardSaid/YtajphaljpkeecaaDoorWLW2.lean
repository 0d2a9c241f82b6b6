/-
  Records: which may be, their bytes, what bytes are read as (plain).
-/
import Derived.Test.YtajphaljpkeecaaDoorFxRow
import Derived.Laws.Bits64
import Derived.Test.YtajphaljpkeecaaDoorWGC0
import Derived.Test.YtajphaljpkeecaaDoorWGC18
set_option linter.unusedSimpArgs false
set_option linter.unusedVariables false
namespace Go.Proofs
open Go Go.Fx
theorem iterN_mono {X Y : Type} {step : X → Option (X ⊕ Y)} : ∀ {n : Nat} {x : X} {y : Y}, iterN step n x = some y → ∀ m, n ≤ m → iterN step m x = some y
  | 0, x, y, h, m, _ => by cases h
  | n + 1, x, y, h, m, hm => by
    obtain ⟨m, rfl⟩ : ∃ k, m = k + 1 := ⟨m - 1, by omega⟩
    simp only [iterN] at h ⊢
    split at h
    · cases h
    · exact iterN_mono h m (by omega)
    · exact h
theorem loopN_of {X Y : Type} {step : X → Option (X ⊕ Y)} {x : X} {y : Y} (n : Nat) (hn : n ≤ 18446744073709551616) (h : iterN step n x = some y) : loopN step x = some y := iterN_mono h _ hn
theorem w64 {a : Int} (h1 : -9223372036854775808 ≤ a) (h2 : a ≤ 9223372036854775807) : IntKind.wrap .i64 a = a := by
  rw [IntKind.wrap_i64]; omega
theorem ibeq (a b : Int) : (a == b) = decide (a = b) := rfl
theorem ibne (a b : Int) : (a != b) = !decide (a = b) := rfl
end Go.Proofs
set_option linter.unusedSimpArgs false
set_option linter.unusedVariables false
namespace Go.Proofs
open Go Go.Fx
def isB (l : List Int) : Prop := ∀ x ∈ l, 0 ≤ x ∧ x < 256
theorem isB_nil : isB [] := fun _ h => by cases h
theorem isB_cons {x : Int} {l : List Int} : isB (x :: l) ↔ (0 ≤ x ∧ x < 256) ∧ isB l := by
  unfold isB; simp
theorem isB_append {a b : List Int} : isB (a ++ b) ↔ isB a ∧ isB b := by
  unfold isB
  simp only [List.mem_append]
  exact ⟨fun h => ⟨fun x hx => h x (.inl hx), fun x hx => h x (.inr hx)⟩, fun h x hx => hx.elim (h.1 x) (h.2 x)⟩
theorem isB_take {l : List Int} (h : isB l) (n : Nat) : isB (l.take n) := fun x hx => h x (List.mem_of_mem_take hx)
theorem isB_drop {l : List Int} (h : isB l) (n : Nat) : isB (l.drop n) := fun x hx => h x (List.mem_of_mem_drop hx)
theorem isB_all {l : List Int} (h : isB l) : List.all l (fun x => decide ((0 ≤ x) ∧ (x < 256))) = true := by
  rw [List.all_eq_true]
  exact fun x hx => decide_eq_true (h x hx)
theorem isB_getD {l : List Int} (h : isB l) (k : Nat) : 0 ≤ l.getD k 0 ∧ l.getD k 0 < 256 := by
  by_cases hk : k < l.length
  · rw [List.getD_eq_getElem?_getD, List.getElem?_eq_getElem hk]
    exact h _ (List.getElem_mem hk)
  · rw [List.getD_eq_getElem?_getD, List.getElem?_eq_none (by omega)]
    exact ⟨by decide, by decide⟩
def le : Nat → Nat → List Int
  | 0, _ => []
  | w + 1, n => ((n % 256 : Nat) : Int) :: le w (n / 256)
def val : List Int → Nat
  | [] => 0
  | b :: l => b.toNat + 256 * val l
theorem le_len : ∀ (w n : Nat), (le w n).length = w
  | 0, n => rfl
  | w + 1, n => by simp [le, le_len w]
theorem le_isB : ∀ (w n : Nat), isB (le w n)
  | 0, n => isB_nil
  | w + 1, n => isB_cons.2 ⟨⟨by omega, by omega⟩, le_isB w _⟩
theorem val_le : ∀ (w n : Nat), val (le w n) = n % 256 ^ w
  | 0, n => by simp [le, val, Nat.mod_one]
  | w + 1, n => by
    rw [le, val, val_le w, Int.toNat_natCast, Nat.pow_succ, Nat.mul_comm (256 ^ w) 256, Nat.mod_mul]
theorem le_val : ∀ (l : List Int), isB l → le l.length (val l) = l
  | [], _ => rfl
  | b :: l, h => by
    obtain ⟨h1, h2⟩ := isB_cons.1 h
    rw [List.length_cons, le, val]
    have e1 : (b.toNat + 256 * val l) % 256 = b.toNat := by omega
    have e2 : (b.toNat + 256 * val l) / 256 = val l := by omega
    rw [e1, e2, le_val l h2]
    congr 1
    omega
theorem val_lt : ∀ (l : List Int), isB l → val l < 256 ^ l.length
  | [], _ => by decide
  | b :: l, h => by
    obtain ⟨h1, h2⟩ := isB_cons.1 h
    have := val_lt l h2
    rw [List.length_cons, val, Nat.pow_succ]
    omega
theorem val_inj {a b : List Int} (ha : isB a) (hb : isB b) (hl : a.length = b.length) (h : val a = val b) : a = b := by
  rw [← le_val a ha, ← le_val b hb, h, hl]
theorem val_append : ∀ (a b : List Int), val (a ++ b) = val a + 256 ^ a.length * val b
  | [], b => by simp [val]
  | x :: a, b => by
    rw [List.cons_append, val, val, val_append a b, List.length_cons, Nat.pow_succ, Nat.mul_add, ← Nat.add_assoc]
    congr 1
    rw [Nat.mul_comm (256 ^ a.length) 256, Nat.mul_assoc]
theorem val_snoc (l : List Int) (x : Int) : val (l ++ [x]) = val l + 256 ^ l.length * x.toNat := by
  rw [val_append]; simp [val]
theorem le_getD : ∀ (w n k : Nat), k < w → (le w n)[k]? = some (((n / 256 ^ k % 256 : Nat)) : Int)
  | 0, n, k, h => by omega
  | w + 1, n, 0, h => by simp [le]
  | w + 1, n, k + 1, h => by
    rw [le, List.getElem?_cons_succ, le_getD w (n / 256) k (by omega), Nat.div_div_eq_div_mul, Nat.pow_succ, Nat.mul_comm 256]
theorem le_range (w n : Nat) : le w n = (List.range w).map fun k => (((n / 256 ^ k % 256 : Nat)) : Int) := by
  apply List.ext_getElem?
  intro k
  by_cases h : k < w
  · rw [le_getD w n k h]; simp [h]
  · rw [List.getElem?_eq_none (by rw [le_len]; omega), List.getElem?_eq_none (by simp; omega)]
def u64 (n : Int) : Nat := (n % 18446744073709551616).toNat
theorem u64_lt (n : Int) : u64 n < 18446744073709551616 := by unfold u64; omega
theorem wrap_u64' (n : Int) : IntKind.wrap .u64 n = (u64 n : Int) := by rw [IntKind.wrap_u64]; unfold u64; omega
theorem wrap_u64_nat {n : Nat} (h : n < 18446744073709551616) : IntKind.wrap .u64 (n : Int) = (n : Int) := by rw [IntKind.wrap_u64]; omega
theorem wrap_u8' (n : Nat) : IntKind.wrap .u8 (n : Int) = ((n % 256 : Nat) : Int) := by rw [IntKind.wrap_u8]; omega
theorem wrap_i64_u {n : Int} (h1 : -9223372036854775808 ≤ n) (h2 : n ≤ 9223372036854775807) : IntKind.wrap .i64 ((u64 n : Nat) : Int) = n := by
  rw [IntKind.wrap_i64]; unfold u64; omega
theorem u64_wrap {n : Nat} (h : n < 18446744073709551616) : u64 (IntKind.wrap .i64 (n : Int)) = n := by
  rw [IntKind.wrap_i64]; unfold u64; omega
theorem bOr64 {a b : Nat} (ha : a < 18446744073709551616) (hb : b < 18446744073709551616) : IntKind.wrap .u64 (bOr .u64 (a : Int) (b : Int)) = ((a ||| b : Nat) : Int) := by
  have e : bOr .u64 (a : Int) (b : Int) = ((a ||| b : Nat) : Int) := by
    show (((BitVec.ofInt 64 a ||| BitVec.ofInt 64 b).toNat : Nat) : Int) = _
    rw [BitVec.toNat_or, BitVec.toNat_ofInt, BitVec.toNat_ofInt]
    have h64 : ((2 ^ 64 : Nat) : Int) = 18446744073709551616 := rfl
    rw [h64, show ((a : Int) % 18446744073709551616).toNat = a by omega, show ((b : Int) % 18446744073709551616).toNat = b by omega]
  rw [e]
  exact wrap_u64_nat (Nat.or_lt_two_pow (n := 64) ha hb)
theorem bXor32 {a b : Nat} (ha : a < 4294967296) (hb : b < 4294967296) : IntKind.wrap .u32 (bXor .u32 (a : Int) (b : Int)) = ((a ^^^ b : Nat) : Int) := by
  have e : bXor .u32 (a : Int) (b : Int) = ((a ^^^ b : Nat) : Int) := by
    show (((BitVec.ofInt 32 a ^^^ BitVec.ofInt 32 b).toNat : Nat) : Int) = _
    rw [BitVec.toNat_xor, BitVec.toNat_ofInt, BitVec.toNat_ofInt]
    have h32 : ((2 ^ 32 : Nat) : Int) = 4294967296 := rfl
    rw [h32, show ((a : Int) % 4294967296).toNat = a by omega, show ((b : Int) % 4294967296).toNat = b by omega]
  rw [e, IntKind.wrap_u32]
  have := Nat.xor_lt_two_pow (n := 32) ha hb
  omega
theorem bAnd15 (a : Nat) : IntKind.wrap .u32 (bAnd .u32 (a : Int) 15) = ((a % 16 : Nat) : Int) := by
  have e : bAnd .u32 (a : Int) 15 = ((a % 16 : Nat) : Int) := by
    show (((BitVec.ofInt 32 a &&& BitVec.ofInt 32 15).toNat : Nat) : Int) = _
    rw [BitVec.toNat_and, BitVec.toNat_ofInt, BitVec.toNat_ofInt, show ((15 : Int) % ((2 ^ 32 : Nat) : Int)).toNat = 2 ^ 4 - 1 from rfl, Nat.and_two_pow_sub_one_eq_mod]
    have h32 : ((2 ^ 32 : Nat) : Int) = 4294967296 := rfl
    rw [h32]
    omega
  rw [e, IntKind.wrap_u32]
  omega
theorem wrap_u32_nat {n : Nat} (h : n < 4294967296) : IntKind.wrap .u32 (n : Int) = (n : Int) := by rw [IntKind.wrap_u32]; omega
def bitS (x : Nat) : Nat := x / 2 ^^^ (if x % 2 = 1 then 3988292384 else 0)
def bitN : Nat → Nat → Nat
  | 0, x => x
  | k + 1, x => bitN k (bitS x)
def byteS (x : Nat) : Nat := bitN 8 x
def crcF : Nat → List Int → Nat
  | s, [] => s
  | s, b :: l => crcF (byteS (s ^^^ b.toNat)) l
def crcV (l : List Int) : Nat := crcF 4294967295 l ^^^ 4294967295
def nib (x : Nat) : Nat := [0, 498536548, 997073096, 651767980, 1994146192, 1802195444, 1303535960, 1342533948, 3988292384, 4027552580, 3604390888, 3412177804, 2607071920, 2262029012, 2685067896, 3183342108].getD (x % 16) 0 ^^^ x / 16
theorem bitS_xor (a b : Nat) : bitS (a ^^^ b) = bitS a ^^^ bitS b := by
  unfold bitS
  have h := @Nat.xor_mod_two_eq_one a b
  rw [Nat.xor_div_two]
  generalize 3988292384 = p
  have key : (if (a ^^^ b) % 2 = 1 then p else 0) = (if a % 2 = 1 then p else 0) ^^^ (if b % 2 = 1 then p else 0) := by
    by_cases ha : a % 2 = 1 <;> by_cases hb : b % 2 = 1 <;> simp [ha, hb, h, Nat.xor_self]
  rw [key]
  generalize (if a % 2 = 1 then p else 0) = u
  generalize (if b % 2 = 1 then p else 0) = v
  rw [Nat.xor_assoc, Nat.xor_assoc]
  congr 1
  rw [← Nat.xor_assoc, Nat.xor_comm (b / 2) u, Nat.xor_assoc]
theorem bitN_xor : ∀ (k a b : Nat), bitN k (a ^^^ b) = bitN k a ^^^ bitN k b
  | 0, a, b => rfl
  | k + 1, a, b => by rw [bitN, bitN, bitN, bitS_xor, bitN_xor k]
theorem bitN_add : ∀ (j k x : Nat), bitN (j + k) x = bitN k (bitN j x)
  | 0, k, x => by rw [Nat.zero_add]; rfl
  | j + 1, k, x => by rw [show j + 1 + k = (j + k) + 1 by omega, bitN, bitN_add j k, bitN]
theorem bitS_even (a : Nat) : bitS (2 * a) = a := by
  unfold bitS
  rw [if_neg (by omega), Nat.xor_zero]
  omega
theorem split16 (x : Nat) : x = 16 * (x / 16) ^^^ (x % 16) := by
  have h : x % 16 < 2 ^ 4 := by omega
  have e1 : (16 * (x / 16) ^^^ (x % 16)) / 2 ^ 4 = x / 2 ^ 4 := by
    rw [Nat.xor_div_two_pow, show 16 * (x / 16) / 2 ^ 4 = x / 16 by omega, show x % 16 / 2 ^ 4 = 0 by omega, Nat.xor_zero]
  have e2 : (16 * (x / 16) ^^^ (x % 16)) % 2 ^ 4 = x % 2 ^ 4 := by
    rw [Nat.xor_mod_two_pow, show 16 * (x / 16) % 2 ^ 4 = 0 by omega, Nat.zero_xor]
    omega
  omega
theorem nib_eq (x : Nat) : nib x = bitN 4 x := by
  have h4 : bitN 4 (16 * (x / 16)) = x / 16 := by
    rw [show 16 * (x / 16) = 2 * (2 * (2 * (2 * (x / 16)))) by omega]
    simp only [bitN, bitS_even]
  have hl : ∀ l, l < 16 → [0, 498536548, 997073096, 651767980, 1994146192, 1802195444, 1303535960, 1342533948, 3988292384, 4027552580, 3604390888, 3412177804, 2607071920, 2262029012, 2685067896, 3183342108].getD l 0 = bitN 4 l := by decide
  conv => rhs; rw [split16 x]
  rw [bitN_xor, h4, ← hl _ (Nat.mod_lt _ (by decide)), Nat.xor_comm]
  rfl
theorem bitS_lt {x : Nat} (h : x < 4294967296) : bitS x < 4294967296 := by
  unfold bitS
  refine Nat.xor_lt_two_pow (n := 32) (by omega) ?_
  split <;> decide
theorem bitN_lt : ∀ (k : Nat) {x : Nat}, x < 4294967296 → bitN k x < 4294967296
  | 0, x, h => h
  | k + 1, x, h => bitN_lt k (bitS_lt h)
theorem byteS_nib (x : Nat) : byteS x = nib (nib x) := by
  rw [nib_eq, nib_eq, ← bitN_add]
  rfl
theorem byteS_lt {x : Nat} (h : x < 4294967296) : byteS x < 4294967296 := bitN_lt 8 h
theorem xor_b_lt {s : Nat} {b : Int} (hs : s < 4294967296) (hb : b < 256) : s ^^^ b.toNat < 4294967296 := Nat.xor_lt_two_pow (n := 32) hs (by omega)
theorem crcF_lt : ∀ {l : List Int} {s : Nat}, s < 4294967296 → isB l → crcF s l < 4294967296
  | [], s, h, _ => h
  | b :: l, s, h, hl => by
    obtain ⟨h1, h2⟩ := isB_cons.1 hl
    show crcF (byteS (s ^^^ b.toNat)) l < 4294967296
    exact crcF_lt (byteS_lt (xor_b_lt h h1.2)) h2
theorem crcV_lt {l : List Int} (h : isB l) : crcV l < 4294967296 := Nat.xor_lt_two_pow (n := 32) (crcF_lt (by decide) h) (by decide)
theorem crcF_append : ∀ (a b : List Int) (s : Nat), crcF s (a ++ b) = crcF (crcF s a) b
  | [], b, s => rfl
  | x :: a, b, s => crcF_append a b _
def unS (y : Nat) : Nat := if 2147483648 ≤ y then 2 * (y ^^^ 3988292384) + 1 else 2 * y
theorem unS_bitS {x : Nat} (h : x < 4294967296) : unS (bitS x) = x := by
  unfold bitS
  by_cases h1 : x % 2 = 1
  · rw [if_pos h1]
    have e : (x / 2 ^^^ 3988292384) / 2 ^ 31 = 1 := by
      rw [Nat.xor_div_two_pow, show x / 2 / 2 ^ 31 = 0 by omega]
      rfl
    unfold unS
    rw [if_pos (by omega), Nat.xor_assoc, Nat.xor_self, Nat.xor_zero]
    omega
  · rw [if_neg h1, Nat.xor_zero]
    unfold unS
    rw [if_neg (by omega)]
    omega
theorem bitN_inj : ∀ (k : Nat) {x y : Nat}, x < 4294967296 → y < 4294967296 → bitN k x = bitN k y → x = y
  | 0, x, y, _, _, h => h
  | k + 1, x, y, hx, hy, h => by
    have := bitN_inj k (bitS_lt hx) (bitS_lt hy) h
    rw [← unS_bitS hx, ← unS_bitS hy, this]
theorem xor_cancel {a b c : Nat} (h : a ^^^ c = b ^^^ c) : a = b := by
  have := congrArg (· ^^^ c) h
  simp only [Nat.xor_assoc, Nat.xor_self, Nat.xor_zero] at this
  exact this
theorem crcF_inj : ∀ {l : List Int} {s t : Nat}, s < 4294967296 → t < 4294967296 → isB l → crcF s l = crcF t l → s = t
  | [], s, t, _, _, _, h => h
  | b :: l, s, t, hs, ht, hl, h => by
    obtain ⟨h1, h2⟩ := isB_cons.1 hl
    have k1 := xor_b_lt hs h1.2
    have k2 := xor_b_lt ht h1.2
    exact xor_cancel (bitN_inj 8 k1 k2 (crcF_inj (byteS_lt k1) (byteS_lt k2) h2 h))
theorem crc_turned {a c : List Int} {x y : Int} (ha : isB a) (hc : isB c) (hx : 0 ≤ x ∧ x < 256) (hy : 0 ≤ y ∧ y < 256) (h : crcV (a ++ x :: c) = crcV (a ++ y :: c)) : x = y := by
  have h := xor_cancel h
  rw [crcF_append, crcF_append] at h
  have hs := crcF_lt (s := 4294967295) (by decide) ha
  have k1 := xor_b_lt hs hx.2
  have k2 := xor_b_lt hs hy.2
  have := bitN_inj 8 k1 k2 (crcF_inj (byteS_lt k1) (byteS_lt k2) hc h)
  rw [Nat.xor_comm, Nat.xor_comm _ y.toNat] at this
  have := xor_cancel this
  omega
end Go.Proofs
set_option linter.unusedSimpArgs false
set_option linter.unusedVariables false
namespace Go.Proofs
open Go Go.Fx
def okF (n : Int) : Prop := -1125899906842624 ≤ n ∧ n ≤ 1125899906842624
instance (n : Int) : Decidable (okF n) := by unfold okF; infer_instance
theorem inc64 {k : Nat} (h : k < 9223372036854775807) : IntKind.wrap .i64 ((k : Int) + 1) = ((k + 1 : Nat) : Int) := by
  rw [w64 (by omega) (by omega)]; rfl
theorem getD_at {l : List Int} {k : Nat} (h : k < l.length) : l.getD k 0 = l[k] := by
  rw [List.getD_eq_getElem?_getD, List.getElem?_eq_getElem h]; rfl
theorem b_nat {x : Int} (h : 0 ≤ x ∧ x < 256) : x = ((x.toNat : Nat) : Int) := by omega
theorem upd_step (s k : Nat) (b5 b6 : Bool) (l : List Int) (hs : s < 4294967296) (hl : isB l) (hk : k < l.length) (hb : l.length < 9223372036854775807) :
    st_sum_Update_0 (s : Int) b5 b6 l (l.length : Int) (k : Int) = some (.inl (((byteS (s ^^^ l[k].toNat) : Nat) : Int), b5, b6, l, (l.length : Int), ((k + 1 : Nat) : Int))) := by
  have hx := hl _ (List.getElem_mem hk)
  have e0 : IntKind.wrap .u32 l[k] = ((l[k].toNat : Nat) : Int) := by
    conv => lhs; rw [b_nat hx]
    exact wrap_u32_nat (by omega)
  have e1 : IntKind.wrap .u32 (bXor .u32 (s : Int) ((l[k].toNat : Nat) : Int)) = ((s ^^^ l[k].toNat : Nat) : Int) := bXor32 hs (by omega)
  have hx1 := xor_b_lt hs hx.2
  have tabm : ∀ j : Nat, j < 16 → ∃ t : Nat, List.getD [(0 : Int), 498536548, 997073096, 651767980, 1994146192, 1802195444, 1303535960, 1342533948, 3988292384, 4027552580, 3604390888, 3412177804, 2607071920, 2262029012, 2685067896, 3183342108] j 0 = (t : Int) ∧ t < 4294967296 ∧ t = [0, 498536548, 997073096, 651767980, 1994146192, 1802195444, 1303535960, 1342533948, 3988292384, 4027552580, 3604390888, 3412177804, 2607071920, 2262029012, 2685067896, 3183342108].getD j 0 := by
    intro j hj
    refine ⟨_, ?_, ?_, rfl⟩
    · revert j; decide
    · revert j; decide
  have nibI : ∀ x : Nat, x < 4294967296 → IntKind.wrap .u32 (bXor .u32 (List.getD [(0 : Int), 498536548, 997073096, 651767980, 1994146192, 1802195444, 1303535960, 1342533948, 3988292384, 4027552580, 3604390888, 3412177804, 2607071920, 2262029012, 2685067896, 3183342108] (0 + Int.toNat (IntKind.wrap .u32 (bAnd .u32 (x : Int) 15))) 0) ((x : Int) / 16)) = ((nib x : Nat) : Int) := by
    intro x hx
    rw [bAnd15, Int.toNat_natCast, Nat.zero_add]
    obtain ⟨t, t1, t2, t3⟩ := tabm (x % 16) (Nat.mod_lt _ (by decide))
    rw [t1, show (x : Int) / 16 = ((x / 16 : Nat) : Int) by omega, bXor32 t2 (by omega), t3]
    rfl
  have hn : nib (s ^^^ l[k].toNat) < 4294967296 := by rw [nib_eq]; exact bitN_lt 4 hx1
  unfold st_sum_Update_0
  rw [Int.toNat_natCast, getD_at hk, e0, e1, nibI _ hx1, nibI _ hn, ← byteS_nib, bAnd15, bAnd15, Int.toNat_natCast, Int.toNat_natCast, decide_eq_true (by omega), decide_eq_true (by omega), decide_eq_true hk,
    decide_eq_true (by omega), decide_eq_true (by omega), decide_eq_true (by omega), decide_eq_true (by omega), inc64 (by omega)]
  rfl
theorem upd_loop (b5 b6 : Bool) (l : List Int) (hl : isB l) (hb : l.length < 9223372036854775807) : ∀ (d k s : Nat), k + d = l.length → s < 4294967296 →
    iterN (fun x => st_sum_Update_0 x.1 x.2.1 x.2.2.1 x.2.2.2.1 x.2.2.2.2.1 x.2.2.2.2.2) (d + 1) ((s : Int), b5, b6, l, (l.length : Int), (k : Int)) = some ((crcF s (l.drop k) : Nat) : Int)
  | 0, k, s, hk, hs => by
    obtain rfl : k = l.length := by omega
    have e : st_sum_Update_0 (s : Int) b5 b6 l (l.length : Int) (l.length : Int) = some (.inr (s : Int)) := by
      unfold st_sum_Update_0
      rw [decide_eq_false (Int.lt_irrefl _)]
      rfl
    simp only [iterN, e, List.drop_length, crcF]
  | d + 1, k, s, hk, hs => by
    have hk' : k < l.length := by omega
    rw [iterN]
    simp only [upd_step s k b5 b6 l hs hl hk' hb]
    rw [upd_loop b5 b6 l hl hb d (k + 1) _ (by omega) (byteS_lt (xor_b_lt hs (hl _ (List.getElem_mem hk')).2)), List.drop_eq_getElem_cons hk']
    rfl
theorem sum_at (b0 b1 : Bool) (l : List Int) (hl : isB l) (hb : l.length ≤ 1000000) : go_sum_Of b0 b1 l = some ((crcV l : Nat) : Int) := by
  have h := upd_loop b0 b1 l hl (by omega) l.length 0 4294967295 (by omega) (by decide)
  unfold go_sum_Of go_sum_Update lp_sum_Update_0
  rw [show IntKind.wrap .u32 (bXor .u32 4294967295 0) = ((4294967295 : Nat) : Int) by decide]
  rw [show (0 : Int) = ((0 : Nat) : Int) from rfl, loopN_of (l.length + 1) (by omega) h, Option.bind_some, Option.bind_some, List.drop_zero]
  have := crcF_lt (s := 4294967295) (by decide) hl
  rw [show (4294967295 : Int) = ((4294967295 : Nat) : Int) from rfl, bXor32 (by decide) this, Nat.xor_comm]
  rfl
theorem eq_loop (b6 b7 b9 b10 : Bool) (a b : List Int) (h : a.length = b.length) (hb : a.length < 9223372036854775807) : ∀ (d k : Nat), k + d = a.length →
    iterN (fun x => st_slices_Equal__int_int_0 x.1 x.2.1 x.2.2.1 x.2.2.2.1 x.2.2.2.2.1 x.2.2.2.2.2.1 x.2.2.2.2.2.2.1 x.2.2.2.2.2.2.2) (d + 1) (b6, b7, a, b9, b10, b, (a.length : Int), (k : Int)) =
      some (if a.drop k = b.drop k then .inl () else .inr false)
  | 0, k, hk => by
    obtain rfl : k = a.length := by omega
    have e : st_slices_Equal__int_int_0 b6 b7 a b9 b10 b (a.length : Int) (a.length : Int) = some (.inr (.inl ())) := by
      unfold st_slices_Equal__int_int_0
      rw [decide_eq_false (Int.lt_irrefl _)]
      rfl
    simp only [iterN, e]
    rw [List.drop_length, h, List.drop_length, if_pos rfl]
  | d + 1, k, hk => by
    have h1 : k < a.length := by omega
    have h2 : k < b.length := by omega
    have e : st_slices_Equal__int_int_0 b6 b7 a b9 b10 b (a.length : Int) (k : Int) = if a[k] = b[k] then some (.inl (b6, b7, a, b9, b10, b, (a.length : Int), ((k + 1 : Nat) : Int))) else some (.inr (.inr false)) := by
      unfold st_slices_Equal__int_int_0
      rw [Int.toNat_natCast, getD_at h1, getD_at h2, decide_eq_true (by omega), decide_eq_true (by omega), decide_eq_true h1, decide_eq_true (by omega), decide_eq_true h2, inc64 (by omega), ibne]
      by_cases hx : a[k] = b[k]
      · rw [if_pos hx, decide_eq_true hx]; rfl
      · rw [if_neg hx, decide_eq_false hx]; rfl
    rw [iterN]
    simp only [e]
    rw [List.drop_eq_getElem_cons h1, List.drop_eq_getElem_cons h2]
    by_cases hx : a[k] = b[k]
    · rw [if_pos hx]
      dsimp only
      rw [eq_loop b6 b7 b9 b10 a b h hb d (k + 1) (by omega)]
      by_cases hr : a.drop (k + 1) = b.drop (k + 1)
      · rw [if_pos hr, if_pos (by rw [hx, hr])]
      · rw [if_neg hr, if_neg (fun x => hr (List.cons.inj x).2)]
    · rw [if_neg hx, if_neg (fun x => hx (List.cons.inj x).1)]
theorem equal_at (b0 b1 b3 b4 : Bool) (a b : List Int) (hb : a.length < 9223372036854775807) : go_slices_Equal__int_int b0 b1 a b3 b4 b = some (decide (a = b)) := by
  unfold go_slices_Equal__int_int lp_slices_Equal__int_int_0
  by_cases h : a.length = b.length
  · rw [show (((a.length : Nat) : Int) != ((b.length : Nat) : Int)) = false by rw [ibne, decide_eq_true (by omega)]; rfl, cond_false, show (0 : Int) = ((0 : Nat) : Int) from rfl,
      loopN_of (a.length + 1) (by omega) (eq_loop b0 b1 b3 b4 a b h hb a.length 0 (by omega)), Option.bind_some, List.drop_zero, List.drop_zero]
    by_cases hx : a = b
    · rw [if_pos hx, decide_eq_true hx]; rfl
    · rw [if_neg hx, decide_eq_false hx]; rfl
  · rw [show (((a.length : Nat) : Int) != ((b.length : Nat) : Int)) = true by rw [ibne, decide_eq_false (by omega)]; rfl, cond_true, decide_eq_false (fun x => h (by rw [x]))]
end Go.Proofs
set_option linter.unusedSimpArgs false
set_option linter.unusedVariables false
set_option maxRecDepth 100000
namespace Go.Proofs
open Go Go.Fx
theorem pb_eq (n : Int) (k : Nat) : pb n k = (((u64 n / 256 ^ k % 256 : Nat)) : Int) := by
  unfold pb
  rw [wrap_u64', show (2 : Int) ^ (8 * k) = ((256 ^ k : Nat) : Int) by rw [show (256 : Nat) = 2 ^ 8 from rfl, ← Nat.pow_mul, Int.natCast_pow]; rfl, ← Int.natCast_ediv, wrap_u8']
theorem put_list (n : Int) (w : Nat) : (List.range w).map (pb n) = le w (u64 n) := by
  rw [le_range]
  exact List.map_congr_left fun k _ => pb_eq n k
theorem rput_at (e : Bool) (b : List Int) (n : Int) (w : Nat) (hw : 0 < w ∧ w ≤ 8) (hb : b.length ≤ 1000000) : go_report_put false e b n (w : Int) = some (false, false, b ++ le w (u64 n)) := by
  unfold go_report_put
  rw [if_pos ⟨by omega, by omega, hb⟩, Int.toNat_natCast, put_list]
  rfl
theorem val_take {l : List Int} {k : Nat} (hk : k < l.length) : val (l.take (k + 1)) = val (l.take k) + 256 ^ k * l[k].toNat := by
  rw [List.take_add_one, List.getElem?_eq_getElem hk]
  show val (l.take k ++ [l[k]]) = _
  rw [val_snoc, List.length_take, Nat.min_eq_left (by omega)]
theorem or_step {a b i : Nat} (ha : a < 2 ^ i) : a ||| (b * 2 ^ i) = a + 2 ^ i * b := by
  rw [Nat.or_comm, Nat.mul_comm b, ← Nat.two_pow_add_eq_or_of_lt ha, Nat.add_comm]
theorem pow8 (k : Nat) : 2 ^ (8 * k) = 256 ^ k := Nat.pow_mul 2 8 k
theorem rget_loop (b3 b4 : Bool) (l : List Int) (hl : isB l) (h8 : l.length ≤ 8) : ∀ (d k : Nat), k + d = l.length →
    iterN (fun x => st_report_get_0 x.1 x.2.1 x.2.2.1 x.2.2.2.1 x.2.2.2.2.1 x.2.2.2.2.2) (d + 1) (b3, b4, l, ((val (l.take k) : Nat) : Int), (l.length : Int), (k : Int)) = some ((val l : Nat) : Int)
  | 0, k, hk => by
    obtain rfl : k = l.length := by omega
    have e : st_report_get_0 b3 b4 l ((val (l.take l.length) : Nat) : Int) (l.length : Int) (l.length : Int) = some (.inr ((val (l.take l.length) : Nat) : Int)) := by
      unfold st_report_get_0
      rw [decide_eq_false (Int.lt_irrefl _)]
      rfl
    simp only [iterN, e]
    rw [List.take_length]
  | d + 1, k, hk => by
    have hk' : k < l.length := by omega
    have hx := hl _ (List.getElem_mem hk')
    have hv := val_lt _ (isB_take hl k)
    rw [List.length_take, Nat.min_eq_left (by omega)] at hv
    have e8 : IntKind.wrap .i64 (8 * (k : Int)) = ((8 * k : Nat) : Int) := by rw [w64 (by omega) (by omega)]; omega
    have hm : min (8 * k) 64 = 8 * k := by omega
    have hb : l[k].toNat < 256 := by omega
    have hp : 256 ^ k ≤ 72057594037927936 := Nat.pow_le_pow_right (by decide) (by omega : k ≤ 7)
    have hmul : l[k].toNat * 256 ^ k ≤ 255 * 256 ^ k := Nat.mul_le_mul_right _ (by omega)
    have e0 : IntKind.wrap .u64 l[k] = ((l[k].toNat : Nat) : Int) := by
      conv => lhs; rw [b_nat hx]
      exact wrap_u64_nat (by omega)
    have e1 : IntKind.wrap .u64 (((l[k].toNat : Nat) : Int) * 2 ^ (8 * k)) = ((l[k].toNat * 256 ^ k : Nat) : Int) := by
      rw [show ((l[k].toNat : Nat) : Int) * 2 ^ (8 * k) = ((l[k].toNat * 256 ^ k : Nat) : Int) by rw [Int.natCast_mul, ← pow8, Int.natCast_pow]; rfl]
      exact wrap_u64_nat (by omega)
    have e2 : IntKind.wrap .u64 (bOr .u64 ((val (l.take k) : Nat) : Int) ((l[k].toNat * 256 ^ k : Nat) : Int)) = ((val (l.take (k + 1)) : Nat) : Int) := by
      rw [bOr64 (by omega) (by omega), val_take hk']
      congr 1
      rw [← pow8] at hv ⊢
      exact or_step hv
    have e : st_report_get_0 b3 b4 l ((val (l.take k) : Nat) : Int) (l.length : Int) (k : Int) = some (.inl (b3, b4, l, ((val (l.take (k + 1)) : Nat) : Int), (l.length : Int), ((k + 1 : Nat) : Int))) := by
      unfold st_report_get_0
      rw [Int.toNat_natCast, getD_at hk', e8, Int.toNat_natCast, hm, e0, e1, e2, decide_eq_true (by omega), decide_eq_true (by omega), decide_eq_true hk', decide_eq_true (by omega), inc64 (by omega)]
      rfl
    rw [iterN]
    simp only [e]
    exact rget_loop b3 b4 l hl h8 d (k + 1) (by omega)
theorem rget_at (b0 b1 : Bool) (l : List Int) (hl : isB l) (h8 : l.length ≤ 8) : go_report_get b0 b1 l = some (IntKind.wrap .i64 ((val l : Nat) : Int)) := by
  have h := rget_loop b0 b1 l hl h8 l.length 0 (by omega)
  unfold go_report_get lp_report_get_0
  rw [show (0 : Int) = ((0 : Nat) : Int) from rfl]
  rw [List.take_zero, show val [] = 0 from rfl] at h
  rw [loopN_of (l.length + 1) (by omega) h]
  rfl
theorem concat_at (b0 b1 b2 b3 b5 b6 : Bool) (a b : List Int) (ha : a.length ≤ 1000) (hb : b.length ≤ 1000) :
    ∃ u v, go_slices_Concat__int_int b0 b1 [(.isl b2 b3 .i64 a), (.isl b5 b6 .i64 b)] = some (u, v, a ++ b) := by
  have w1 : IntKind.wrap .i64 (0 + ((a.length : Nat) : Int)) = ((a.length : Nat) : Int) := by rw [w64 (by omega) (by omega)]; omega
  have w2 : IntKind.wrap .i64 (((a.length : Nat) : Int) + ((b.length : Nat) : Int)) = ((a.length + b.length : Nat) : Int) := by rw [w64 (by omega) (by omega)]; omega
  have i0 : IntKind.wrap .i64 ((0 : Int) + 1) = 1 := by decide
  have i1 : IntKind.wrap .i64 ((1 : Int) + 1) = 2 := by decide
  have s0 : ∀ (n : Int) (b7 b8 : Bool) (es : List PV), st_slices_Concat__int_int_0 b0 b1 es n b7 b8 [(.isl b2 b3 .i64 a), (.isl b5 b6 .i64 b)] 2 0 = bif (decide ((IntKind.wrap .i64 (n + ((a.length : Nat) : Int))) < 0)) then none else some (.inl (b0, b1, es, IntKind.wrap .i64 (n + ((a.length : Nat) : Int)), b7, b8, [(.isl b2 b3 .i64 a), (.isl b5 b6 .i64 b)], 2, 1)) := fun _ _ _ _ => rfl
  have s1 : ∀ (n : Int) (b7 b8 : Bool) (es : List PV), st_slices_Concat__int_int_0 b0 b1 es n b7 b8 [(.isl b2 b3 .i64 a), (.isl b5 b6 .i64 b)] 2 1 = bif (decide ((IntKind.wrap .i64 (n + ((b.length : Nat) : Int))) < 0)) then none else some (.inl (b0, b1, es, IntKind.wrap .i64 (n + ((b.length : Nat) : Int)), b7, b8, [(.isl b2 b3 .i64 a), (.isl b5 b6 .i64 b)], 2, 2)) := fun _ _ _ _ => rfl
  have s2 : ∀ (n : Int) (b7 b8 : Bool) (es l : List PV), st_slices_Concat__int_int_0 b0 b1 es n b7 b8 l 2 2 = some (.inr (b0, b1, es, n)) := fun _ _ _ _ _ => rfl
  have L0 : lp_slices_Concat__int_int_0 b0 b1 [(.isl b2 b3 .i64 a), (.isl b5 b6 .i64 b)] 0 b0 b1 [(.isl b2 b3 .i64 a), (.isl b5 b6 .i64 b)] 2 0 = some (b0, b1, [(.isl b2 b3 .i64 a), (.isl b5 b6 .i64 b)], ((a.length + b.length : Nat) : Int)) := by
    unfold lp_slices_Concat__int_int_0
    refine loopN_of 3 (by decide) ?_
    simp only [iterN, s0, w1, decide_eq_false (show ¬ ((a.length : Nat) : Int) < 0 by omega), cond_false, s1, w2, decide_eq_false (show ¬ ((a.length + b.length : Nat) : Int) < 0 by omega), s2]
  have g : go_slices_Grow true true [] ((a.length + b.length : Nat) : Int) = some (decide (((a.length + b.length : Nat) : Int) = 0), false, []) := by
    unfold go_slices_Grow
    rw [if_pos ⟨rfl, rfl, by omega, by omega⟩]
  have t0 : ∀ (n x : Bool) (l : List Int), l.length ≤ 1000 → st_slices_Concat__int_int_1 b0 b1 [(.isl b2 b3 .i64 a), (.isl b5 b6 .i64 b)] 2 0 n x l = some (.inl (b0, b1, [(.isl b2 b3 .i64 a), (.isl b5 b6 .i64 b)], 2, 1, (n && a.isEmpty), false, l ++ a)) := by
    intro n x l hl
    have hh : ∀ (n x : Bool) (l : List Int), st_slices_Concat__int_int_1 b0 b1 [(.isl b2 b3 .i64 a), (.isl b5 b6 .i64 b)] 2 0 n x l = bif (decide (((l.length + a.length) * 8) ≤ 140737488355328)) then bif (decide ((l.length + a.length) ≤ 4611686018427387904)) then some (.inl (b0, b1, [(.isl b2 b3 .i64 a), (.isl b5 b6 .i64 b)], 2, 1, (n && a.isEmpty), false, l ++ a)) else none else none := fun _ _ _ => rfl
    rw [hh, decide_eq_true (by omega), decide_eq_true (by omega)]
    rfl
  have t1 : ∀ (n x : Bool) (l : List Int), l.length ≤ 2000 → st_slices_Concat__int_int_1 b0 b1 [(.isl b2 b3 .i64 a), (.isl b5 b6 .i64 b)] 2 1 n x l = some (.inl (b0, b1, [(.isl b2 b3 .i64 a), (.isl b5 b6 .i64 b)], 2, 2, (n && b.isEmpty), false, l ++ b)) := by
    intro n x l hl
    have hh : ∀ (n x : Bool) (l : List Int), st_slices_Concat__int_int_1 b0 b1 [(.isl b2 b3 .i64 a), (.isl b5 b6 .i64 b)] 2 1 n x l = bif (decide (((l.length + b.length) * 8) ≤ 140737488355328)) then bif (decide ((l.length + b.length) ≤ 4611686018427387904)) then some (.inl (b0, b1, [(.isl b2 b3 .i64 a), (.isl b5 b6 .i64 b)], 2, 2, (n && b.isEmpty), false, l ++ b)) else none else none := fun _ _ _ => rfl
    rw [hh, decide_eq_true (by omega), decide_eq_true (by omega)]
    rfl
  have t2 : ∀ (n x : Bool) (l : List Int) (es : List PV), st_slices_Concat__int_int_1 b0 b1 es 2 2 n x l = some (.inr (n, x, l)) := fun _ _ _ _ => rfl
  have L1 : ∀ n x, ∃ u v, lp_slices_Concat__int_int_1 b0 b1 [(.isl b2 b3 .i64 a), (.isl b5 b6 .i64 b)] 2 0 n x [] = some (u, v, a ++ b) := by
    intro n x
    refine ⟨(n && a.isEmpty) && b.isEmpty, false, loopN_of 3 (by decide) ?_⟩
    simp only [iterN, t0 n x [] (by simp), t1 _ _ a (by omega), t2, List.nil_append]
  obtain ⟨u, v, hu⟩ := L1 (decide (((a.length + b.length : Nat) : Int) = 0)) false
  refine ⟨u, v, ?_⟩
  unfold go_slices_Concat__int_int
  rw [show (((List.length [(PV.isl b2 b3 .i64 a), (PV.isl b5 b6 .i64 b)]) : Nat) : Int) = 2 from rfl, L0, Option.bind_some, g, Option.bind_some]
  dsimp only
  rw [show (((List.length [(PV.isl b2 b3 .i64 a), (PV.isl b5 b6 .i64 b)]) : Nat) : Int) = 2 from rfl, hu]
  rfl
theorem bad_loop (b3 b4 : Bool) (l : List Int) (hb : l.length < 9223372036854775807) : ∀ (d k : Nat), k + d = l.length → ∃ y,
    iterN (fun x => st_slices_IndexFunc__int_int_0 x.1 x.2.1 x.2.2.1 x.2.2.2.1 x.2.2.2.2) (d + 1) (b3, b4, l, (l.length : Int), (k : Int)) = some y ∧
      ((y = .inl () ∧ ∀ x ∈ l.drop k, okF x) ∨ (∃ j : Nat, y = .inr (j : Int) ∧ ¬ ∀ x ∈ l.drop k, okF x))
  | 0, k, hk => by
    obtain rfl : k = l.length := by omega
    have e : st_slices_IndexFunc__int_int_0 b3 b4 l (l.length : Int) (l.length : Int) = some (.inr (.inl ())) := by
      unfold st_slices_IndexFunc__int_int_0
      rw [decide_eq_false (Int.lt_irrefl _)]
      rfl
    exact ⟨.inl (), by simp only [iterN, e], .inl ⟨rfl, by rw [List.drop_length]; exact fun x h => by cases h⟩⟩
  | d + 1, k, hk => by
    have hk' : k < l.length := by omega
    have r1 : go_report_Right_1 l[k] = some (!decide (okF l[k])) := by
      unfold go_report_Right_1 okF
      by_cases h1 : l[k] > 1125899906842624
      · rw [decide_eq_true h1, cond_true]
        rw [show decide (-1125899906842624 ≤ l[k] ∧ l[k] ≤ 1125899906842624) = false from decide_eq_false (by omega)]
        rfl
      · rw [decide_eq_false h1, cond_false]
        by_cases h2 : l[k] < -1125899906842624
        · rw [decide_eq_true h2, show decide (-1125899906842624 ≤ l[k] ∧ l[k] ≤ 1125899906842624) = false from decide_eq_false (by omega)]
          rfl
        · rw [decide_eq_false h2, show decide (-1125899906842624 ≤ l[k] ∧ l[k] ≤ 1125899906842624) = true from decide_eq_true (by omega)]
          rfl
    have e : st_slices_IndexFunc__int_int_0 b3 b4 l (l.length : Int) (k : Int) = if okF l[k] then some (.inl (b3, b4, l, (l.length : Int), ((k + 1 : Nat) : Int))) else some (.inr (.inr (k : Int))) := by
      unfold st_slices_IndexFunc__int_int_0
      rw [Int.toNat_natCast, getD_at hk', r1, decide_eq_true (by omega), decide_eq_true (by omega), decide_eq_true hk', inc64 (by omega)]
      by_cases h : okF l[k]
      · rw [if_pos h, decide_eq_true h]; rfl
      · rw [if_neg h, decide_eq_false h]; rfl
    rw [iterN]
    simp only [e]
    rw [List.drop_eq_getElem_cons hk']
    by_cases h : okF l[k]
    · rw [if_pos h]
      obtain ⟨y, h1, h2⟩ := bad_loop b3 b4 l hb d (k + 1) (by omega)
      refine ⟨y, h1, ?_⟩
      rcases h2 with ⟨h2, h3⟩ | ⟨j, h2, h3⟩
      · exact .inl ⟨h2, fun x hx => (List.mem_cons.1 hx).elim (fun e => e ▸ h) (h3 x)⟩
      · exact .inr ⟨j, h2, fun hx => h3 fun x hm => hx x (List.mem_cons_of_mem _ hm)⟩
    · rw [if_neg h]
      exact ⟨_, rfl, .inr ⟨k, rfl, fun hx => h (hx _ (List.mem_cons_self ..))⟩⟩
theorem bad_at (b0 b1 : Bool) (l : List Int) (hb : l.length < 9223372036854775807) : go_slices_ContainsFunc__int_int b0 b1 l = some (!decide (∀ x ∈ l, okF x)) := by
  obtain ⟨y, h1, h2⟩ := bad_loop b0 b1 l hb l.length 0 (by omega)
  rw [List.drop_zero] at h2
  unfold go_slices_ContainsFunc__int_int go_slices_IndexFunc__int_int lp_slices_IndexFunc__int_int_0
  rw [show (0 : Int) = ((0 : Nat) : Int) from rfl, loopN_of (l.length + 1) (by omega) h1, Option.bind_some]
  rcases h2 with ⟨rfl, h3⟩ | ⟨j, rfl, h3⟩
  · rw [decide_eq_true h3]; rfl
  · rw [decide_eq_false h3]
    show some (decide ((j : Int) ≥ ((0 : Nat) : Int))) = _
    rw [decide_eq_true (by omega)]
    rfl
end Go.Proofs
set_option linter.unusedSimpArgs false
set_option linter.unusedVariables false
set_option maxRecDepth 100000
namespace Go.Proofs
open Go Go.Fx
def R18 (h q : Int) (X D : List Int) : Prop := 0 ≤ h ∧ h ≤ 255 ∧ 0 ≤ q ∧ q ≤ 4294967295 ∧ X.length ≤ 4 ∧ X.length = D.length ∧ (0 < X.length ↔ h / 32 % 2 = 1) ∧ ∀ x ∈ X ++ D, okF x
instance (h q : Int) (X D : List Int) : Decidable (R18 h q X D) := by unfold R18; infer_instance
theorem and32 {h : Int} (h0 : 0 ≤ h) (h1 : h ≤ 255) : ((IntKind.wrap .i64 (bAnd .i64 h 32)) != 0) = decide (h / 32 % 2 = 1) := by
  obtain ⟨n, rfl⟩ := Int.eq_ofNat_of_zero_le h0
  have : ∀ n : Nat, n < 256 → ((IntKind.wrap .i64 (bAnd .i64 (n : Int) 32)) != 0) = decide ((n : Int) / 32 % 2 = 1) := by decide +kernel
  exact this n (by omega)
theorem some_len (X : List Int) (b : Bool) (P : Prop) [Decidable P] (hb : b = decide P) : (decide (((X.length : Nat) : Int) > 0) == b) = decide (0 < X.length ↔ P) := by
  subst hb
  by_cases h1 : 0 < X.length
  · by_cases h2 : P
    · rw [decide_eq_true (by omega), decide_eq_true h2, decide_eq_true (iff_of_true h1 h2)]; rfl
    · rw [decide_eq_true (by omega), decide_eq_false h2, decide_eq_false (fun h => h2 (h.1 h1))]; rfl
  · by_cases h2 : P
    · rw [decide_eq_false (by omega), decide_eq_true h2, decide_eq_false (fun h => h1 (h.2 h2))]; rfl
    · rw [decide_eq_false (by omega), decide_eq_false h2, decide_eq_true (iff_of_false h1 h2)]; rfl
theorem right_at (h q : Int) (b2 b3 b5 b6 : Bool) (X D : List Int) : go_report_Right h q b2 b3 X b5 b6 D = some (decide (R18 h q X D)) := by
  unfold go_report_Right
  by_cases c1 : h ≥ 0
  case neg =>
    rw [decide_eq_false c1, cond_false, decide_eq_false (fun r : R18 h q X D => c1 r.1)]
  by_cases c2 : h ≤ 255
  case neg =>
    rw [decide_eq_true c1, cond_true, decide_eq_false c2, cond_false, decide_eq_false (fun r : R18 h q X D => c2 r.2.1)]
  by_cases c3 : q ≥ 0
  case neg =>
    rw [decide_eq_true c1, cond_true, decide_eq_true c2, cond_true, decide_eq_false c3, cond_false, decide_eq_false (fun r : R18 h q X D => c3 r.2.2.1)]
  by_cases c4 : q ≤ 4294967295
  case neg =>
    rw [decide_eq_true c1, cond_true, decide_eq_true c2, cond_true, decide_eq_true c3, cond_true, decide_eq_false c4, cond_false, decide_eq_false (fun r : R18 h q X D => c4 r.2.2.2.1)]
  rw [decide_eq_true c1, cond_true, decide_eq_true c2, cond_true, decide_eq_true c3, cond_true, decide_eq_true c4, cond_true]
  by_cases c5 : X.length ≤ 4
  case neg =>
    rw [decide_eq_false (by omega), cond_false, decide_eq_false (fun r : R18 h q X D => c5 r.2.2.2.2.1)]
  rw [decide_eq_true (by omega), cond_true]
  by_cases c6 : X.length = D.length
  case neg =>
    rw [show (((X.length : Nat) : Int) == ((D.length : Nat) : Int)) = false by rw [ibeq]; exact decide_eq_false (by omega), cond_false, decide_eq_false (fun r : R18 h q X D => c6 r.2.2.2.2.2.1)]
  rw [show (((X.length : Nat) : Int) == ((D.length : Nat) : Int)) = true by rw [ibeq]; exact decide_eq_true (by omega), cond_true, some_len X _ _ (and32 c1 c2)]
  by_cases c7 : (0 < X.length ↔ h / 32 % 2 = 1)
  case neg =>
    rw [decide_eq_false c7, cond_false, decide_eq_false (fun r : R18 h q X D => c7 r.2.2.2.2.2.2.1)]
  obtain ⟨u, v, hc⟩ := concat_at false true b2 b3 b5 b6 X D (by omega) (by omega)
  rw [decide_eq_true c7, cond_true, hc, Option.bind_some, bad_at _ _ _ (by rw [List.length_append]; omega), Option.bind_some, Bool.not_not]
  congr 1
  exact decide_eq_decide.2 ⟨fun r => ⟨c1, c2, c3, c4, c5, c6, c7, r⟩, fun r => r.2.2.2.2.2.2.2⟩
def enc8 (L : List Int) : List Int := L.flatMap fun n => le 8 (u64 n)
theorem enc8_len : ∀ L : List Int, (enc8 L).length = 8 * L.length
  | [] => rfl
  | n :: L => by
    have := enc8_len L
    unfold enc8 at this ⊢
    rw [List.flatMap_cons, List.length_append, le_len, this, List.length_cons]; omega
theorem enc8_isB (L : List Int) : isB (enc8 L) := fun x hx => by
  obtain ⟨n, _, h⟩ := List.mem_flatMap.1 hx
  exact le_isB _ _ x h
def body18 (h q : Int) (X D : List Int) : List Int := [78, 82, h, (X.length : Int)] ++ le 4 (u64 q) ++ enc8 (X ++ D)
def bytes18 (h q : Int) (X D : List Int) : List Int := body18 h q X D ++ le 4 (crcV (body18 h q X D))
theorem body18_len (h q : Int) (X D : List Int) : (body18 h q X D).length = 8 + 8 * (X.length + D.length) := by
  unfold body18
  simp only [List.length_append, List.length_cons, List.length_nil, le_len, enc8_len]
theorem body18_isB {h q : Int} {X D : List Int} (h0 : 0 ≤ h) (h1 : h ≤ 255) (hl : X.length ≤ 4) : isB (body18 h q X D) := by
  unfold body18
  rw [isB_append, isB_append]
  refine ⟨⟨?_, le_isB _ _⟩, enc8_isB _⟩
  simp only [isB_cons]
  exact ⟨⟨by decide, by decide⟩, ⟨by decide, by decide⟩, ⟨h0, by omega⟩, ⟨by omega, by omega⟩, isB_nil⟩
theorem bytes18_isB {h q : Int} {X D : List Int} (h0 : 0 ≤ h) (h1 : h ≤ 255) (hl : X.length ≤ 4) : isB (bytes18 h q X D) := isB_append.2 ⟨body18_isB h0 h1 hl, le_isB _ _⟩
theorem bytes18_len (h q : Int) (X D : List Int) : (bytes18 h q X D).length = 12 + 8 * (X.length + D.length) := by
  unfold bytes18
  rw [List.length_append, body18_len, le_len]; omega
theorem wu8 {h : Int} (h0 : 0 ≤ h) (h1 : h ≤ 255) : IntKind.wrap .u8 h = h := by rw [IntKind.wrap_u8]; omega
theorem enc_loop (b11 b12 : Bool) (L : List Int) (hL : L.length ≤ 100) : ∀ (d k : Nat) (acc : List Int), k + d = L.length → acc.length + 8 * d ≤ 10000 →
    iterN (fun x => st_new_report_Encode_0 x.1 x.2.1 x.2.2.1 x.2.2.2.1 x.2.2.2.2.1 x.2.2.2.2.2.1 x.2.2.2.2.2.2.1 x.2.2.2.2.2.2.2) (d + 1) (b11, b12, L, (L.length : Int), (k : Int), false, false, acc) = some (false, false, acc ++ enc8 (L.drop k))
  | 0, k, acc, hk, hb => by
    obtain rfl : k = L.length := by omega
    have e : st_new_report_Encode_0 b11 b12 L (L.length : Int) (L.length : Int) false false acc = some (.inr (false, false, acc)) := by
      unfold st_new_report_Encode_0
      rw [decide_eq_false (Int.lt_irrefl _)]
      rfl
    simp only [iterN, e]
    rw [List.drop_length]
    simp [enc8]
  | d + 1, k, acc, hk, hb => by
    have hk' : k < L.length := by omega
    have hp := rput_at false acc L[k] 8 (by decide) (by omega)
    have e : st_new_report_Encode_0 b11 b12 L (L.length : Int) (k : Int) false false acc = some (.inl (b11, b12, L, (L.length : Int), ((k + 1 : Nat) : Int), false, false, acc ++ le 8 (u64 L[k]))) := by
      unfold st_new_report_Encode_0
      rw [Int.toNat_natCast, getD_at hk', show (8 : Int) = ((8 : Nat) : Int) from rfl, hp, decide_eq_true (by omega), decide_eq_true (by omega), decide_eq_true hk', inc64 (by omega)]
      rfl
    rw [iterN]
    simp only [e]
    rw [enc_loop b11 b12 L hL d (k + 1) _ (by omega) (by rw [List.length_append, le_len]; omega), List.drop_eq_getElem_cons hk', List.append_assoc]
    rfl
theorem encode_at {h q : Int} {X D : List Int} (b2 b3 b5 b6 : Bool) (hr : R18 h q X D) : go_new_report_Encode h q b2 b3 X b5 b6 D = some (false, false, bytes18 h q X D, 0) := by
  obtain ⟨h0, h1, q0, q1, c5, c6, c7, c8⟩ := hr
  obtain ⟨u, v, hc⟩ := concat_at false true b2 b3 b5 b6 X D (by omega) (by omega)
  have hx : IntKind.wrap .u8 ((X.length : Nat) : Int) = (X.length : Int) := wu8 (by omega) (by omega)
  have hp := rput_at true [78, 82, h, (X.length : Int)] q 4 (by decide) (by simp)
  have hl := enc_loop u v (X ++ D) (by rw [List.length_append]; omega) (X ++ D).length 0 ([78, 82, h, (X.length : Int)] ++ le 4 (u64 q)) (by omega) (by simp only [List.length_append, le_len, List.length_cons, List.length_nil]; omega)
  rw [List.drop_zero] at hl
  have hB := body18_isB (q := q) (D := D) h0 h1 c5
  have hlen := body18_len h q X D
  have hs := sum_at false false (body18 h q X D) hB (by omega)
  have hq := rput_at false (body18 h q X D) (IntKind.wrap .i64 ((crcV (body18 h q X D) : Nat) : Int)) 4 (by decide) (by omega)
  have hcr := crcV_lt hB
  rw [u64_wrap (by omega)] at hq
  unfold go_new_report_Encode
  rw [right_at, decide_eq_true (show R18 h q X D from ⟨h0, h1, q0, q1, c5, c6, c7, c8⟩), Option.bind_some, Bool.not_true, cond_false, wu8 h0 h1, hx, show (4 : Int) = ((4 : Nat) : Int) from rfl, hp, Option.bind_some, hc, Option.bind_some]
  dsimp only
  unfold lp_new_report_Encode_0
  rw [show (0 : Int) = ((0 : Nat) : Int) from rfl, loopN_of ((X ++ D).length + 1) (by rw [List.length_append]; omega) hl, Option.bind_some]
  dsimp only
  rw [show [78, 82, h, (X.length : Int)] ++ le 4 (u64 q) ++ enc8 (X ++ D) = body18 h q X D from rfl, hs, Option.bind_some, hq, Option.bind_some]
  rfl
theorem encode_not {h q : Int} {X D : List Int} (b2 b3 b5 b6 : Bool) (hr : ¬ R18 h q X D) : go_new_report_Encode h q b2 b3 X b5 b6 D = some (true, true, [], 1) := by
  unfold go_new_report_Encode
  rw [right_at, decide_eq_false hr]
  rfl
theorem same_at (n0 n1 : Int) (b2 b3 b5 b6 : Bool) (X D : List Int) (n8 n9 : Int) (b10 b11 b13 b14 : Bool) (Y E : List Int) (hX : X.length < 9223372036854775807) (hD : D.length < 9223372036854775807) :
    go_report_Same n0 n1 b2 b3 X b5 b6 D n8 n9 b10 b11 Y b13 b14 E = some (decide (n0 = n8 ∧ n1 = n9 ∧ X = Y ∧ D = E)) := by
  unfold go_report_Same
  rw [ibeq, ibeq, equal_at _ _ _ _ X Y hX, equal_at _ _ _ _ D E hD]
  by_cases h1 : n0 = n8
  · by_cases h2 : n1 = n9
    · by_cases h3 : X = Y
      · by_cases h4 : D = E
        · simp [h1, h2, h3, h4]
        · simp [h1, h2, h3, h4]
      · simp [h1, h2, h3]
    · simp [h1, h2]
  · simp [h1]
end Go.Proofs
