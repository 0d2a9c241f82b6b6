/-
  A byte of bytes that were told as sound, turned (plain).
-/
import Derived.Test.YtajphaljpkeecaaDoorWLF4
set_option linter.unusedSimpArgs false
set_option linter.unusedVariables false
set_option maxRecDepth 100000
namespace Go.Proofs
open Go Go.Fx

theorem crc_set {l : List Int} (hl : isB l) {n c : Nat} (hc : c < l.length) {y : Int} (hy : 0 ≤ y ∧ y < 256) (h1 : le 4 (crcV (l.take n)) = l.drop n) (h2 : le 4 (crcV ((l.set c y).take n)) = (l.set c y).drop n) : y = l[c] := by
  have hx := hl _ (List.getElem_mem hc)
  have hs : isB (l.set c y) := fun z hz => by
    rcases List.mem_or_eq_of_mem_set hz with h | h
    · exact hl z h
    · exact h ▸ hy
  by_cases hcn : c < n
  · rw [List.drop_set_of_lt hcn, ← h1] at h2
    have e1 := congrArg val h2
    have k1 := crcV_lt (isB_take hs n)
    have k2 := crcV_lt (isB_take hl n)
    rw [val_le, val_le, Nat.mod_eq_of_lt k1, Nat.mod_eq_of_lt k2, List.take_set] at e1
    have hct : c < (l.take n).length := by rw [List.length_take]; omega
    have e2 : l.take n = (l.take n).take c ++ (l.take n)[c] :: (l.take n).drop (c + 1) := by
      rw [← List.drop_eq_getElem_cons hct, List.take_append_drop]
    rw [List.set_eq_take_append_cons_drop, if_pos hct] at e1
    conv at e1 => rhs; rw [e2]
    have := crc_turned (isB_take (isB_take hl n) c) (isB_drop (isB_take hl n) (c + 1)) hy (by rw [List.getElem_take]; exact hx) e1
    rw [this, List.getElem_take]
  · rw [List.take_set_of_le (by omega), h1] at h2
    have := congrArg (fun z => z[c - n]?) h2
    simp only [List.getElem?_drop] at this
    rw [show n + (c - n) = c by omega, List.getElem?_eq_getElem hc, List.getElem?_set_self hc] at this
    exact (Option.some.inj this).symm
theorem bXor8 {a b : Nat} (ha : a < 256) (hb : b < 256) : IntKind.wrap .u8 (bXor .u8 (a : Int) (b : Int)) = ((a ^^^ b : Nat) : Int) := by
  have e : bXor .u8 (a : Int) (b : Int) = ((a ^^^ b : Nat) : Int) := by
    unfold bXor
    show (((BitVec.ofInt 8 (a : Int) ^^^ BitVec.ofInt 8 (b : Int)).toNat : Nat) : Int) = _
    rw [BitVec.toNat_xor, BitVec.toNat_ofInt, BitVec.toNat_ofInt]
    congr 2 <;> omega
  have h := Nat.xor_lt_two_pow (n := 8) (x := a) (y := b) ha hb
  rw [e, IntKind.wrap_u8]; omega
/-- A byte with bits turned is another byte. -/
theorem turned_byte {x b : Int} (hx : 0 ≤ x ∧ x < 256) (hb : 0 ≤ b ∧ b < 256) (h0 : b ≠ 0) : (0 ≤ IntKind.wrap .u8 (bXor .u8 x b) ∧ IntKind.wrap .u8 (bXor .u8 x b) < 256) ∧ IntKind.wrap .u8 (bXor .u8 x b) ≠ x := by
  obtain ⟨a, rfl⟩ : ∃ a : Nat, x = (a : Int) := ⟨x.toNat, by omega⟩
  obtain ⟨c, rfl⟩ : ∃ c : Nat, b = (c : Int) := ⟨b.toNat, by omega⟩
  rw [bXor8 (by omega) (by omega)]
  have h := Nat.xor_lt_two_pow (n := 8) (x := a) (y := c) (by omega) (by omega)
  refine ⟨⟨by omega, by omega⟩, fun e => ?_⟩
  have e : a ^^^ c = a ^^^ 0 := by rw [Nat.xor_zero]; omega
  have := xor_cancel ((Nat.xor_comm c a).trans (e.trans (Nat.xor_comm a 0)))
  omega
theorem why12_crc {l : List Int} (h0 : why12 l = 0) : 12 ≤ l.length ∧ le 4 (crcV (l.take (l.length - 4))) = l.drop (l.length - 4) := by
  unfold why12 at h0
  by_cases c0 : l.length < 12
  · rw [if_pos c0] at h0; exact absurd h0 (by decide)
  rw [if_neg c0] at h0
  split at h0
  · exact absurd h0 (by decide)
  split at h0
  · exact absurd h0 (by decide)
  split at h0
  · exact absurd h0 (by decide)
  split at h0
  case isFalse => exact absurd h0 (by decide)
  rename_i c4
  exact ⟨by omega, c4⟩
theorem law_FrameTurned {n0 n1 n2 : Int} {b3 b4 : Bool} {l5 : List Int} {n6 n7 : Int} (w0 : (Lit.int .i64 n0).wf = true) (w1 : (Lit.int .i64 n1).wf = true) (w2 : (Lit.int .i64 n2).wf = true) (w3 : l5.length ≤ maxLen) (c3 : ∀ x ∈ l5, (Lit.int .i64 x).wf = true) (g3 : b3 = true → l5 = [])
    (w4 : (Lit.int .i64 n6).wf = true) (w5 : (Lit.int .u8 n7).wf = true) : go_coupletlaw12_FrameTurned n0 n1 n2 b3 b4 l5 n6 n7 = some true := by
  unfold go_coupletlaw12_FrameTurned
  rw [awake12]
  by_cases hr : R12 n0 n1 n2 l5
  case neg =>
    rw [encode_not' _ _ hr, Option.bind_some]
    cases decide (((l5.length : Nat) : Int) > 40) <;> rfl
  obtain ⟨k1, k2, k3⟩ := R12_b hr
  have hB := bytes12_isB (q := n1) (L := l5) k1 k2
  have hl := bytes12_len n0 n1 n2 l5
  have hb := read12 hr
  rw [encode_at _ _ hr, Option.bind_some, decide_eq_false (by omega), cond_false]
  dsimp only
  rw [bne_self_eq_false, cond_false]
  by_cases s2 : n6 < 0
  · rw [decide_eq_true s2]; rfl
  by_cases s3 : n6 ≥ (((bytes12 n0 n1 n2 l5).length : Nat) : Int)
  · rw [decide_eq_false s2, decide_eq_true s3]; rfl
  rw [decide_eq_false s2, decide_eq_false s3, cond_false, cond_false, ibeq]
  by_cases s4 : n7 = 0
  · rw [decide_eq_true s4]; rfl
  rw [decide_eq_false s4, cond_false]
  obtain ⟨c, rfl⟩ : ∃ c : Nat, n6 = (c : Int) := ⟨n6.toNat, by omega⟩
  have hc : c < (bytes12 n0 n1 n2 l5).length := by omega
  have hx := hB _ (List.getElem_mem hc)
  have hn7 : 0 ≤ n7 ∧ n7 < 256 := isB_wf (l := [n7]) (fun x hx => by rw [List.mem_singleton.1 hx]; exact w5) n7 (List.mem_singleton.2 rfl)
  obtain ⟨hy, hne⟩ := turned_byte hx hn7 s4
  have hB' : isB ((bytes12 n0 n1 n2 l5).set c (IntKind.wrap .u8 (bXor .u8 (bytes12 n0 n1 n2 l5)[c] n7))) := fun z hz => by
    rcases List.mem_or_eq_of_mem_set hz with h | h
    · exact hB z h
    · exact h ▸ hy
  have hl' : ((bytes12 n0 n1 n2 l5).set c (IntKind.wrap .u8 (bXor .u8 (bytes12 n0 n1 n2 l5)[c] n7))).length = (bytes12 n0 n1 n2 l5).length := List.length_set ..
  rw [show decide ((0 : Int) ≤ (c : Int)) = true from decide_eq_true (by omega), show decide ((c : Int) < (((bytes12 n0 n1 n2 l5).length : Nat) : Int)) = true from decide_eq_true (by omega), Int.toNat_natCast, decide_eq_true hc, getD_at hc]
  simp only [cond_true]
  rcases decode_at false false _ hB' (by rw [hl']; omega) with ⟨h1, h2⟩ | ⟨h1, _⟩
  · rw [h2, Option.bind_some]
    dsimp only
    rw [bne_l, decide_eq_false h1, same_at _ _ _ _ _ _ _ _ _ _ _ _ (by decide)]
    rfl
  · have e1 := (why12_crc hb.1).2
    have e2 := (why12_crc h1).2
    rw [hl'] at e2
    exact absurd (crc_set hB hc hy e1 e2) hne
end Go.Proofs
