/-
  Bytes of numbers, numbers of bytes, the sum of bytes (no program in sight).
-/
import Derived.Test.YtajphaljpkeecaaDoorFxRow
import Derived.Laws.Bits64
set_option linter.unusedSimpArgs false
set_option linter.unusedVariables false
namespace Go.Proofs
open Go Go.Fx

def isB (l : List Int) : Prop := ∀ x ∈ l, 0 ≤ x ∧ x < 256
theorem isB_nil : isB [] := fun _ h => by cases h
theorem isB_cons {x : Int} {l : List Int} : isB (x :: l) ↔ (0 ≤ x ∧ x < 256) ∧ isB l := by
  unfold isB; simp
theorem isB_append {a b : List Int} : isB (a ++ b) ↔ isB a ∧ isB b := by
  unfold isB
  simp only [List.mem_append]
  exact ⟨fun h => ⟨fun x hx => h x (.inl hx), fun x hx => h x (.inr hx)⟩, fun h x hx => hx.elim (h.1 x) (h.2 x)⟩
theorem isB_take {l : List Int} (h : isB l) (n : Nat) : isB (l.take n) := fun x hx => h x (List.mem_of_mem_take hx)
theorem isB_drop {l : List Int} (h : isB l) (n : Nat) : isB (l.drop n) := fun x hx => h x (List.mem_of_mem_drop hx)
theorem isB_all {l : List Int} (h : isB l) : List.all l (fun x => decide ((0 ≤ x) ∧ (x < 256))) = true := by
  rw [List.all_eq_true]
  exact fun x hx => decide_eq_true (h x hx)
theorem isB_getD {l : List Int} (h : isB l) (k : Nat) : 0 ≤ l.getD k 0 ∧ l.getD k 0 < 256 := by
  by_cases hk : k < l.length
  · rw [List.getD_eq_getElem?_getD, List.getElem?_eq_getElem hk]
    exact h _ (List.getElem_mem hk)
  · rw [List.getD_eq_getElem?_getD, List.getElem?_eq_none (by omega)]
    exact ⟨by decide, by decide⟩

/-! ### Little-endian -/
def le : Nat → Nat → List Int
  | 0, _ => []
  | w + 1, n => ((n % 256 : Nat) : Int) :: le w (n / 256)
def val : List Int → Nat
  | [] => 0
  | b :: l => b.toNat + 256 * val l
theorem le_len : ∀ (w n : Nat), (le w n).length = w
  | 0, n => rfl
  | w + 1, n => by simp [le, le_len w]
theorem le_isB : ∀ (w n : Nat), isB (le w n)
  | 0, n => isB_nil
  | w + 1, n => isB_cons.2 ⟨⟨by omega, by omega⟩, le_isB w _⟩
theorem val_le : ∀ (w n : Nat), val (le w n) = n % 256 ^ w
  | 0, n => by simp [le, val, Nat.mod_one]
  | w + 1, n => by
    rw [le, val, val_le w, Int.toNat_natCast, Nat.pow_succ, Nat.mul_comm (256 ^ w) 256, Nat.mod_mul]
theorem le_val : ∀ (l : List Int), isB l → le l.length (val l) = l
  | [], _ => rfl
  | b :: l, h => by
    obtain ⟨h1, h2⟩ := isB_cons.1 h
    rw [List.length_cons, le, val]
    have e1 : (b.toNat + 256 * val l) % 256 = b.toNat := by omega
    have e2 : (b.toNat + 256 * val l) / 256 = val l := by omega
    rw [e1, e2, le_val l h2]
    congr 1
    omega
theorem val_lt : ∀ (l : List Int), isB l → val l < 256 ^ l.length
  | [], _ => by decide
  | b :: l, h => by
    obtain ⟨h1, h2⟩ := isB_cons.1 h
    have := val_lt l h2
    rw [List.length_cons, val, Nat.pow_succ]
    omega
theorem val_inj {a b : List Int} (ha : isB a) (hb : isB b) (hl : a.length = b.length) (h : val a = val b) : a = b := by
  rw [← le_val a ha, ← le_val b hb, h, hl]
theorem val_append : ∀ (a b : List Int), val (a ++ b) = val a + 256 ^ a.length * val b
  | [], b => by simp [val]
  | x :: a, b => by
    rw [List.cons_append, val, val, val_append a b, List.length_cons, Nat.pow_succ, Nat.mul_add, ← Nat.add_assoc]
    congr 1
    rw [Nat.mul_comm (256 ^ a.length) 256, Nat.mul_assoc]
theorem val_snoc (l : List Int) (x : Int) : val (l ++ [x]) = val l + 256 ^ l.length * x.toNat := by
  rw [val_append]; simp [val]
theorem le_getD : ∀ (w n k : Nat), k < w → (le w n)[k]? = some (((n / 256 ^ k % 256 : Nat)) : Int)
  | 0, n, k, h => by omega
  | w + 1, n, 0, h => by simp [le]
  | w + 1, n, k + 1, h => by
    rw [le, List.getElem?_cons_succ, le_getD w (n / 256) k (by omega), Nat.div_div_eq_div_mul, Nat.pow_succ, Nat.mul_comm 256]
theorem le_range (w n : Nat) : le w n = (List.range w).map fun k => (((n / 256 ^ k % 256 : Nat)) : Int) := by
  apply List.ext_getElem?
  intro k
  by_cases h : k < w
  · rw [le_getD w n k h]; simp [h]
  · rw [List.getElem?_eq_none (by rw [le_len]; omega), List.getElem?_eq_none (by simp; omega)]
theorem le_snoc (w n : Nat) : le (w + 1) n = le w n ++ [(((n / 256 ^ w % 256 : Nat)) : Int)] := by
  rw [le_range, le_range, List.range_succ, List.map_append]; rfl

/-! ### Whole numbers, two's complement -/
def u64 (n : Int) : Nat := (n % 18446744073709551616).toNat
theorem u64_lt (n : Int) : u64 n < 18446744073709551616 := by unfold u64; omega
theorem wrap_u64' (n : Int) : IntKind.wrap .u64 n = (u64 n : Int) := by rw [IntKind.wrap_u64]; unfold u64; omega
theorem wrap_u64_nat {n : Nat} (h : n < 18446744073709551616) : IntKind.wrap .u64 (n : Int) = (n : Int) := by rw [IntKind.wrap_u64]; omega
theorem wrap_u8' (n : Nat) : IntKind.wrap .u8 (n : Int) = ((n % 256 : Nat) : Int) := by rw [IntKind.wrap_u8]; omega
theorem wrap_i64_u {n : Int} (h1 : -9223372036854775808 ≤ n) (h2 : n ≤ 9223372036854775807) : IntKind.wrap .i64 ((u64 n : Nat) : Int) = n := by
  rw [IntKind.wrap_i64]; unfold u64; omega
theorem u64_wrap {n : Nat} (h : n < 18446744073709551616) : u64 (IntKind.wrap .i64 (n : Int)) = n := by
  rw [IntKind.wrap_i64]; unfold u64; omega
theorem i64_wrap (n : Int) : -9223372036854775808 ≤ IntKind.wrap .i64 n ∧ IntKind.wrap .i64 n ≤ 9223372036854775807 := by
  rw [IntKind.wrap_i64]; omega
theorem bOr64 {a b : Nat} (ha : a < 18446744073709551616) (hb : b < 18446744073709551616) : IntKind.wrap .u64 (bOr .u64 (a : Int) (b : Int)) = ((a ||| b : Nat) : Int) := by
  have e : bOr .u64 (a : Int) (b : Int) = ((a ||| b : Nat) : Int) := by
    show (((BitVec.ofInt 64 a ||| BitVec.ofInt 64 b).toNat : Nat) : Int) = _
    rw [BitVec.toNat_or, BitVec.toNat_ofInt, BitVec.toNat_ofInt]
    have h64 : ((2 ^ 64 : Nat) : Int) = 18446744073709551616 := rfl
    rw [h64, show ((a : Int) % 18446744073709551616).toNat = a by omega, show ((b : Int) % 18446744073709551616).toNat = b by omega]
  rw [e]
  exact wrap_u64_nat (Nat.or_lt_two_pow (n := 64) ha hb)
theorem bXor32 {a b : Nat} (ha : a < 4294967296) (hb : b < 4294967296) : IntKind.wrap .u32 (bXor .u32 (a : Int) (b : Int)) = ((a ^^^ b : Nat) : Int) := by
  have e : bXor .u32 (a : Int) (b : Int) = ((a ^^^ b : Nat) : Int) := by
    show (((BitVec.ofInt 32 a ^^^ BitVec.ofInt 32 b).toNat : Nat) : Int) = _
    rw [BitVec.toNat_xor, BitVec.toNat_ofInt, BitVec.toNat_ofInt]
    have h32 : ((2 ^ 32 : Nat) : Int) = 4294967296 := rfl
    rw [h32, show ((a : Int) % 4294967296).toNat = a by omega, show ((b : Int) % 4294967296).toNat = b by omega]
  rw [e, IntKind.wrap_u32]
  have := Nat.xor_lt_two_pow (n := 32) ha hb
  omega
theorem bAnd15 (a : Nat) : IntKind.wrap .u32 (bAnd .u32 (a : Int) 15) = ((a % 16 : Nat) : Int) := by
  have e : bAnd .u32 (a : Int) 15 = ((a % 16 : Nat) : Int) := by
    show (((BitVec.ofInt 32 a &&& BitVec.ofInt 32 15).toNat : Nat) : Int) = _
    rw [BitVec.toNat_and, BitVec.toNat_ofInt, BitVec.toNat_ofInt, show ((15 : Int) % ((2 ^ 32 : Nat) : Int)).toNat = 2 ^ 4 - 1 from rfl, Nat.and_two_pow_sub_one_eq_mod]
    have h32 : ((2 ^ 32 : Nat) : Int) = 4294967296 := rfl
    rw [h32]
    omega
  rw [e, IntKind.wrap_u32]
  omega
theorem wrap_u32_nat {n : Nat} (h : n < 4294967296) : IntKind.wrap .u32 (n : Int) = (n : Int) := by rw [IntKind.wrap_u32]; omega

/-! ### The sum -/
def bitS (x : Nat) : Nat := x / 2 ^^^ (if x % 2 = 1 then 3988292384 else 0)
def bitN : Nat → Nat → Nat
  | 0, x => x
  | k + 1, x => bitN k (bitS x)
def byteS (x : Nat) : Nat := bitN 8 x
def crcF : Nat → List Int → Nat
  | s, [] => s
  | s, b :: l => crcF (byteS (s ^^^ b.toNat)) l
def crcV (l : List Int) : Nat := crcF 4294967295 l ^^^ 4294967295
def nib (x : Nat) : Nat := [0, 498536548, 997073096, 651767980, 1994146192, 1802195444, 1303535960, 1342533948, 3988292384, 4027552580, 3604390888, 3412177804, 2607071920, 2262029012, 2685067896, 3183342108].getD (x % 16) 0 ^^^ x / 16

theorem bitS_xor (a b : Nat) : bitS (a ^^^ b) = bitS a ^^^ bitS b := by
  unfold bitS
  have h := @Nat.xor_mod_two_eq_one a b
  rw [Nat.xor_div_two]
  generalize 3988292384 = p
  have key : (if (a ^^^ b) % 2 = 1 then p else 0) = (if a % 2 = 1 then p else 0) ^^^ (if b % 2 = 1 then p else 0) := by
    by_cases ha : a % 2 = 1 <;> by_cases hb : b % 2 = 1 <;> simp [ha, hb, h, Nat.xor_self]
  rw [key]
  generalize (if a % 2 = 1 then p else 0) = u
  generalize (if b % 2 = 1 then p else 0) = v
  rw [Nat.xor_assoc, Nat.xor_assoc]
  congr 1
  rw [← Nat.xor_assoc, Nat.xor_comm (b / 2) u, Nat.xor_assoc]
theorem bitN_xor : ∀ (k a b : Nat), bitN k (a ^^^ b) = bitN k a ^^^ bitN k b
  | 0, a, b => rfl
  | k + 1, a, b => by rw [bitN, bitN, bitN, bitS_xor, bitN_xor k]
theorem bitN_add : ∀ (j k x : Nat), bitN (j + k) x = bitN k (bitN j x)
  | 0, k, x => by rw [Nat.zero_add]; rfl
  | j + 1, k, x => by rw [show j + 1 + k = (j + k) + 1 by omega, bitN, bitN_add j k, bitN]
theorem bitS_even (a : Nat) : bitS (2 * a) = a := by
  unfold bitS
  rw [if_neg (by omega), Nat.xor_zero]
  omega
theorem split16 (x : Nat) : x = 16 * (x / 16) ^^^ (x % 16) := by
  have h : x % 16 < 2 ^ 4 := by omega
  have e1 : (16 * (x / 16) ^^^ (x % 16)) / 2 ^ 4 = x / 2 ^ 4 := by
    rw [Nat.xor_div_two_pow, show 16 * (x / 16) / 2 ^ 4 = x / 16 by omega, show x % 16 / 2 ^ 4 = 0 by omega, Nat.xor_zero]
  have e2 : (16 * (x / 16) ^^^ (x % 16)) % 2 ^ 4 = x % 2 ^ 4 := by
    rw [Nat.xor_mod_two_pow, show 16 * (x / 16) % 2 ^ 4 = 0 by omega, Nat.zero_xor]
    omega
  omega
theorem nib_eq (x : Nat) : nib x = bitN 4 x := by
  have h4 : bitN 4 (16 * (x / 16)) = x / 16 := by
    rw [show 16 * (x / 16) = 2 * (2 * (2 * (2 * (x / 16)))) by omega]
    simp only [bitN, bitS_even]
  have hl : ∀ l, l < 16 → [0, 498536548, 997073096, 651767980, 1994146192, 1802195444, 1303535960, 1342533948, 3988292384, 4027552580, 3604390888, 3412177804, 2607071920, 2262029012, 2685067896, 3183342108].getD l 0 = bitN 4 l := by decide
  conv => rhs; rw [split16 x]
  rw [bitN_xor, h4, ← hl _ (Nat.mod_lt _ (by decide)), Nat.xor_comm]
  rfl
theorem bitS_lt {x : Nat} (h : x < 4294967296) : bitS x < 4294967296 := by
  unfold bitS
  refine Nat.xor_lt_two_pow (n := 32) (by omega) ?_
  split <;> decide
theorem bitN_lt : ∀ (k : Nat) {x : Nat}, x < 4294967296 → bitN k x < 4294967296
  | 0, x, h => h
  | k + 1, x, h => bitN_lt k (bitS_lt h)
theorem byteS_nib (x : Nat) : byteS x = nib (nib x) := by
  rw [nib_eq, nib_eq, ← bitN_add]
  rfl
theorem byteS_lt {x : Nat} (h : x < 4294967296) : byteS x < 4294967296 := bitN_lt 8 h
theorem xor_b_lt {s : Nat} {b : Int} (hs : s < 4294967296) (hb : b < 256) : s ^^^ b.toNat < 4294967296 := Nat.xor_lt_two_pow (n := 32) hs (by omega)
theorem crcF_lt : ∀ {l : List Int} {s : Nat}, s < 4294967296 → isB l → crcF s l < 4294967296
  | [], s, h, _ => h
  | b :: l, s, h, hl => by
    obtain ⟨h1, h2⟩ := isB_cons.1 hl
    show crcF (byteS (s ^^^ b.toNat)) l < 4294967296
    exact crcF_lt (byteS_lt (xor_b_lt h h1.2)) h2
theorem crcV_lt {l : List Int} (h : isB l) : crcV l < 4294967296 := Nat.xor_lt_two_pow (n := 32) (crcF_lt (by decide) h) (by decide)
theorem crcF_append : ∀ (a b : List Int) (s : Nat), crcF s (a ++ b) = crcF (crcF s a) b
  | [], b, s => rfl
  | x :: a, b, s => crcF_append a b _

/-- A step undone. -/
def unS (y : Nat) : Nat := if 2147483648 ≤ y then 2 * (y ^^^ 3988292384) + 1 else 2 * y
theorem unS_bitS {x : Nat} (h : x < 4294967296) : unS (bitS x) = x := by
  unfold bitS
  by_cases h1 : x % 2 = 1
  · rw [if_pos h1]
    have e : (x / 2 ^^^ 3988292384) / 2 ^ 31 = 1 := by
      rw [Nat.xor_div_two_pow, show x / 2 / 2 ^ 31 = 0 by omega]
      rfl
    unfold unS
    rw [if_pos (by omega), Nat.xor_assoc, Nat.xor_self, Nat.xor_zero]
    omega
  · rw [if_neg h1, Nat.xor_zero]
    unfold unS
    rw [if_neg (by omega)]
    omega
theorem bitN_inj : ∀ (k : Nat) {x y : Nat}, x < 4294967296 → y < 4294967296 → bitN k x = bitN k y → x = y
  | 0, x, y, _, _, h => h
  | k + 1, x, y, hx, hy, h => by
    have := bitN_inj k (bitS_lt hx) (bitS_lt hy) h
    rw [← unS_bitS hx, ← unS_bitS hy, this]
theorem xor_cancel {a b c : Nat} (h : a ^^^ c = b ^^^ c) : a = b := by
  have := congrArg (· ^^^ c) h
  simp only [Nat.xor_assoc, Nat.xor_self, Nat.xor_zero] at this
  exact this
theorem crcF_inj : ∀ {l : List Int} {s t : Nat}, s < 4294967296 → t < 4294967296 → isB l → crcF s l = crcF t l → s = t
  | [], s, t, _, _, _, h => h
  | b :: l, s, t, hs, ht, hl, h => by
    obtain ⟨h1, h2⟩ := isB_cons.1 hl
    have k1 := xor_b_lt hs h1.2
    have k2 := xor_b_lt ht h1.2
    exact xor_cancel (bitN_inj 8 k1 k2 (crcF_inj (byteS_lt k1) (byteS_lt k2) h2 h))
theorem crcV_inj {a b : List Int} (ha : isB a) (hb : isB b) (h : crcV a = crcV b) : crcF 4294967295 a = crcF 4294967295 b := xor_cancel h
/-- Bytes of which one is another have another sum. -/
theorem crc_turned {a c : List Int} {x y : Int} (ha : isB a) (hc : isB c) (hx : 0 ≤ x ∧ x < 256) (hy : 0 ≤ y ∧ y < 256) (h : crcV (a ++ x :: c) = crcV (a ++ y :: c)) : x = y := by
  have h := xor_cancel h
  rw [crcF_append, crcF_append] at h
  have hs := crcF_lt (s := 4294967295) (by decide) ha
  have k1 := xor_b_lt hs hx.2
  have k2 := xor_b_lt hs hy.2
  have := bitN_inj 8 k1 k2 (crcF_inj (byteS_lt k1) (byteS_lt k2) hc h)
  rw [Nat.xor_comm, Nat.xor_comm _ y.toNat] at this
  have := xor_cancel this
  omega
end Go.Proofs
