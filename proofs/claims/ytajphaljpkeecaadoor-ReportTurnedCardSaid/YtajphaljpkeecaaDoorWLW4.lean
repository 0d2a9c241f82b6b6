/-
  The laws ReportEncodes, ReportDecodes, ReportLong (plain).
-/
import Derived.Test.YtajphaljpkeecaaDoorWLW2
set_option linter.unusedSimpArgs false
set_option linter.unusedVariables false
set_option maxRecDepth 100000
namespace Go.Proofs
open Go Go.Fx
def num (l : List Int) (k : Nat) : Int := IntKind.wrap .i64 ((val ((l.drop (8 + 8 * k)).take 8) : Nat) : Int)
def nums (l : List Int) (a d : Nat) : List Int := (List.range' a d).map (num l)
def hdr (l : List Int) : Int := l.getD 2 0
def cnt (l : List Int) : Nat := (l.getD 3 0).toNat
def seqN (l : List Int) : Int := ((val ((l.drop 4).take 4) : Nat) : Int)
open Classical in
noncomputable def why18 (l : List Int) : Int :=
  if l.length < 12 then 2
  else if ¬ l.take 2 = [78, 82] ∨ 4 < cnt l ∨ ¬ (0 < cnt l ↔ hdr l / 32 % 2 = 1) then 4
  else if l.length < 12 + 16 * cnt l then 2
  else if 12 + 16 * cnt l < l.length then 5
  else if le 4 (crcV (l.take (l.length - 4))) = l.drop (l.length - 4) then 0 else 6
theorem hdr_b {l : List Int} (hl : isB l) : 0 ≤ hdr l ∧ hdr l < 256 := isB_getD hl 2
theorem cnt_int {l : List Int} (hl : isB l) : IntKind.wrap .i64 (l.getD 3 0) = ((cnt l : Nat) : Int) := by
  have := isB_getD hl 3
  unfold cnt
  rw [w64 (by omega) (by omega)]; omega
theorem hdr_int {l : List Int} (hl : isB l) : IntKind.wrap .i64 (l.getD 2 0) = hdr l := by
  have := isB_getD hl 2
  exact w64 (by omega) (by omega)
theorem nat_gt (m : Nat) : decide (((m : Nat) : Int) > 0) = decide (0 < m) := decide_eq_decide.2 (by omega)
theorem iff_beq (p q : Prop) [Decidable p] [Decidable q] : (decide p == decide q) = decide (p ↔ q) := by
  by_cases hp : p <;> by_cases hq : q <;> simp [hp, hq]
theorem bne_l (a b : Int) : (a != b) = !decide (a = b) := rfl
theorem lst_beq (a b : List Int) : (a == b) = decide (a = b) := by
  by_cases h : a = b
  · rw [decide_eq_true h, h]; exact beq_self_eq_true b
  · rw [decide_eq_false h]; exact beq_eq_false_iff_ne.2 h
theorem dec_loop (b6 b7 : Bool) (l : List Int) (hl : isB l) (m : Nat) (hm : m ≤ 4) (hn : l.length = 12 + 16 * m) (n12 n13 : Int) (b14 b15 : Bool) (l16 : List Int) (b17 b18 : Bool) (l19 : List Int) (n20 n21 : Int) :
    ∀ (d k : Nat) (u v u' v' : Bool) (X D : List Int), k + d = m → X.length + d ≤ 100 → D.length + d ≤ 100 → ∃ w x w' x',
    iterN (fun x => st_report_Decode_0 x.1 x.2.1 x.2.2.1 x.2.2.2.1 x.2.2.2.2.1 x.2.2.2.2.2.1 x.2.2.2.2.2.2.1 x.2.2.2.2.2.2.2.1 x.2.2.2.2.2.2.2.2.1 x.2.2.2.2.2.2.2.2.2.1 x.2.2.2.2.2.2.2.2.2.2.1 x.2.2.2.2.2.2.2.2.2.2.2.1 x.2.2.2.2.2.2.2.2.2.2.2.2.1 x.2.2.2.2.2.2.2.2.2.2.2.2.2.1 x.2.2.2.2.2.2.2.2.2.2.2.2.2.2.1 x.2.2.2.2.2.2.2.2.2.2.2.2.2.2.2.1 x.2.2.2.2.2.2.2.2.2.2.2.2.2.2.2.2.1 x.2.2.2.2.2.2.2.2.2.2.2.2.2.2.2.2.2.1 x.2.2.2.2.2.2.2.2.2.2.2.2.2.2.2.2.2.2.1 x.2.2.2.2.2.2.2.2.2.2.2.2.2.2.2.2.2.2.2.1 x.2.2.2.2.2.2.2.2.2.2.2.2.2.2.2.2.2.2.2.2.1 x.2.2.2.2.2.2.2.2.2.2.2.2.2.2.2.2.2.2.2.2.2) (d + 1)
      (b6, b7, l, (m : Int), (m : Int), (k : Int), n12, n13, b14, b15, l16, b17, b18, l19, n20, n21, u, v, X, u', v', D) =
      some (n12, n13, b14, b15, l16, b17, b18, l19, n20, n21, w, x, X ++ nums l k d, w', x', D ++ nums l (m + k) d)
  | 0, k, u, v, u', v', X, D, hk, hX, hD => by
    obtain rfl : k = m := by omega
    have e : st_report_Decode_0 b6 b7 l (k : Int) (k : Int) (k : Int) n12 n13 b14 b15 l16 b17 b18 l19 n20 n21 u v X u' v' D = some (.inr (n12, n13, b14, b15, l16, b17, b18, l19, n20, n21, u, v, X, u', v', D)) := by
      unfold st_report_Decode_0
      rw [decide_eq_false (Int.lt_irrefl _)]
      rfl
    exact ⟨u, v, u', v', by simp only [iterN, e, nums, List.range'_zero, List.map_nil, List.append_nil]⟩
  | d + 1, k, u, v, u', v', X, D, hk, hX, hD => by
    have e1 : IntKind.wrap .i64 (8 * (k : Int)) = ((8 * k : Nat) : Int) := by rw [w64 (by omega) (by omega)]; omega
    have e2 : IntKind.wrap .i64 (8 + ((8 * k : Nat) : Int)) = ((8 + 8 * k : Nat) : Int) := by rw [w64 (by omega) (by omega)]; omega
    have e3 : IntKind.wrap .i64 (8 * ((k + 1 : Nat) : Int)) = ((8 * (k + 1) : Nat) : Int) := by rw [w64 (by omega) (by omega)]; omega
    have e4 : IntKind.wrap .i64 (8 + ((8 * (k + 1) : Nat) : Int)) = ((8 + 8 * (k + 1) : Nat) : Int) := by rw [w64 (by omega) (by omega)]; omega
    have e5 : IntKind.wrap .i64 ((m : Int) + (k : Int)) = ((m + k : Nat) : Int) := by rw [w64 (by omega) (by omega)]; omega
    have e6 : IntKind.wrap .i64 (8 * ((m + k : Nat) : Int)) = ((8 * (m + k) : Nat) : Int) := by rw [w64 (by omega) (by omega)]; omega
    have e7 : IntKind.wrap .i64 (8 + ((8 * (m + k) : Nat) : Int)) = ((8 + 8 * (m + k) : Nat) : Int) := by rw [w64 (by omega) (by omega)]; omega
    have e8 : IntKind.wrap .i64 (((m + k : Nat) : Int) + 1) = ((m + k + 1 : Nat) : Int) := inc64 (by omega)
    have e9 : IntKind.wrap .i64 (8 * ((m + k + 1 : Nat) : Int)) = ((8 * (m + k + 1) : Nat) : Int) := by rw [w64 (by omega) (by omega)]; omega
    have e10 : IntKind.wrap .i64 (8 + ((8 * (m + k + 1) : Nat) : Int)) = ((8 + 8 * (m + k + 1) : Nat) : Int) := by rw [w64 (by omega) (by omega)]; omega
    have t1 : (((8 + 8 * (k + 1) : Nat) : Int) - ((8 + 8 * k : Nat) : Int)).toNat = 8 := by omega
    have t2 : (((8 + 8 * (m + k + 1) : Nat) : Int) - ((8 + 8 * (m + k) : Nat) : Int)).toNat = 8 := by omega
    have g1 := rget_at b6 false ((l.drop (8 + 8 * k)).take 8) (isB_take (isB_drop hl _) _) (by rw [List.length_take]; omega)
    have g2 := rget_at b6 false ((l.drop (8 + 8 * (m + k))).take 8) (isB_take (isB_drop hl _) _) (by rw [List.length_take]; omega)
    have e : st_report_Decode_0 b6 b7 l (m : Int) (m : Int) (k : Int) n12 n13 b14 b15 l16 b17 b18 l19 n20 n21 u v X u' v' D =
        some (.inl (b6, b7, l, (m : Int), (m : Int), ((k + 1 : Nat) : Int), n12, n13, b14, b15, l16, b17, b18, l19, n20, n21, (u && false), false, X ++ [num l k], (u' && false), false, D ++ [num l (m + k)])) := by
      unfold st_report_Decode_0
      rw [inc64 (by omega), e1, e2, e3, e4, e5, e6, e7, e8, e9, e10, t1, t2, Int.toNat_natCast, Int.toNat_natCast, g1, g2]
      simp only [Option.bind_some]
      rw [show decide ((k : Int) < (m : Int)) = true from decide_eq_true (by omega), show decide ((0 : Int) ≤ ((8 + 8 * k : Nat) : Int)) = true from decide_eq_true (by omega), show decide (((8 + 8 * k : Nat) : Int) ≤ ((8 + 8 * (k + 1) : Nat) : Int)) = true from decide_eq_true (by omega),
        show decide (((8 + 8 * (k + 1) : Nat) : Int) ≤ ((l.length : Nat) : Int)) = true from decide_eq_true (by omega), show decide ((X.length + 1) * 8 ≤ 140737488355328) = true from decide_eq_true (by omega), show decide (X.length + 1 ≤ 4611686018427387904) = true from decide_eq_true (by omega),
        show decide ((0 : Int) ≤ ((8 + 8 * (m + k) : Nat) : Int)) = true from decide_eq_true (by omega), show decide (((8 + 8 * (m + k) : Nat) : Int) ≤ ((8 + 8 * (m + k + 1) : Nat) : Int)) = true from decide_eq_true (by omega),
        show decide (((8 + 8 * (m + k + 1) : Nat) : Int) ≤ ((l.length : Nat) : Int)) = true from decide_eq_true (by omega), show decide ((D.length + 1) * 8 ≤ 140737488355328) = true from decide_eq_true (by omega), show decide (D.length + 1 ≤ 4611686018427387904) = true from decide_eq_true (by omega)]
      rfl
    obtain ⟨w, x, w', x', ih⟩ := dec_loop b6 b7 l hl m hm hn n12 n13 b14 b15 l16 b17 b18 l19 n20 n21 d (k + 1) (u && false) false (u' && false) false (X ++ [num l k]) (D ++ [num l (m + k)]) (by omega) (by simp; omega) (by simp; omega)
    refine ⟨w, x, w', x', ?_⟩
    rw [iterN]
    simp only [e]
    rw [ih]
    simp only [nums, List.range'_succ, List.map_cons, List.append_assoc, List.singleton_append, Nat.add_assoc]
theorem w4 {l : List Int} (hl : isB l) (h4 : l.length ≤ 4) : IntKind.wrap .i64 ((val l : Nat) : Int) = ((val l : Nat) : Int) := by
  have h1 := val_lt l hl
  have h2 : 256 ^ l.length ≤ 256 ^ 4 := Nat.pow_le_pow_right (by decide) h4
  exact w64 (by omega) (by omega)
theorem decode_at (b0 b1 : Bool) (l : List Int) (hl : isB l) (hn : l.length ≤ 10000) : (why18 l ≠ 0 ∧ go_report_Decode b0 b1 l = some (0, 0, true, true, [], true, true, [], why18 l)) ∨
    (why18 l = 0 ∧ ((R18 (hdr l) (seqN l) (nums l 0 (cnt l)) (nums l (cnt l) (cnt l)) ∧ ∃ u v u' v', go_report_Decode b0 b1 l = some (hdr l, seqN l, u, v, nums l 0 (cnt l), u', v', nums l (cnt l) (cnt l), 0)) ∨
      (¬ R18 (hdr l) (seqN l) (nums l 0 (cnt l)) (nums l (cnt l) (cnt l)) ∧ go_report_Decode b0 b1 l = some (0, 0, true, true, [], true, true, [], 3)))) := by
  have hh := hdr_b hl
  have ha := and32 hh.1 (by omega)
  have hc := cnt_int hl
  have hd := hdr_int hl
  unfold go_report_Decode why18
  by_cases c0 : l.length < 12
  · rw [show decide (((l.length : Nat) : Int) < 12) = true from decide_eq_true (by omega), if_pos c0]
    exact .inl ⟨by decide, rfl⟩
  have g4 := rget_at b0 false ((l.drop 4).take 4) (isB_take (isB_drop hl _) _) (by rw [List.length_take]; omega)
  rw [w4 (isB_take (isB_drop hl _) _) (by rw [List.length_take]; omega)] at g4
  have g4 : go_report_get b0 false ((l.drop 4).take 4) = some (seqN l) := g4
  rw [show decide (((l.length : Nat) : Int) < 12) = false from decide_eq_false (by omega), cond_false, if_neg c0, hc, hd]
  rw [show decide (2 < ((l.length : Nat) : Int)) = true from decide_eq_true (by omega), show decide (2 < l.length) = true from decide_eq_true (by omega), show decide (8 ≤ ((l.length : Nat) : Int)) = true from decide_eq_true (by omega), g4,
    show decide (3 < ((l.length : Nat) : Int)) = true from decide_eq_true (by omega), show decide (3 < l.length) = true from decide_eq_true (by omega), show decide (2 ≤ ((l.length : Nat) : Int)) = true from decide_eq_true (by omega), List.drop_zero, isB_all (isB_take hl 2), lst_beq, ha, nat_gt, iff_beq]
  simp only [cond_true, Option.bind_some]
  by_cases d2 : l.take 2 = [78, 82]
  case neg =>
    rw [decide_eq_false d2, if_pos (.inl d2)]
    exact .inl ⟨by decide, rfl⟩
  rw [decide_eq_true d2, Bool.not_true, cond_false]
  by_cases d3 : 4 < cnt l
  · rw [show decide (((cnt l : Nat) : Int) > 4) = true from decide_eq_true (by omega), if_pos (.inr (.inl d3))]
    exact .inl ⟨by decide, rfl⟩
  rw [show decide (((cnt l : Nat) : Int) > 4) = false from decide_eq_false (by omega), cond_false]
  by_cases d4 : (0 < cnt l ↔ hdr l / 32 % 2 = 1)
  case neg =>
    rw [decide_eq_false d4, if_pos (.inr (.inr d4))]
    exact .inl ⟨by decide, rfl⟩
  rw [decide_eq_true d4, if_neg (fun h => h.elim (fun x => x d2) fun x => x.elim d3 fun x => x d4), Bool.not_true, cond_false]
  have e16 : IntKind.wrap .i64 (8 + IntKind.wrap .i64 (16 * ((cnt l : Nat) : Int))) = ((8 + 16 * cnt l : Nat) : Int) := by
    rw [w64 (a := 16 * ((cnt l : Nat) : Int)) (by omega) (by omega), w64 (by omega) (by omega)]; omega
  have e12 : IntKind.wrap .i64 (((8 + 16 * cnt l : Nat) : Int) + 4) = ((12 + 16 * cnt l : Nat) : Int) := by rw [w64 (by omega) (by omega)]; omega
  rw [e16, e12]
  by_cases d5 : l.length < 12 + 16 * cnt l
  · rw [show decide (((l.length : Nat) : Int) < ((12 + 16 * cnt l : Nat) : Int)) = true from decide_eq_true (by omega), if_pos d5]
    exact .inl ⟨by decide, rfl⟩
  rw [show decide (((l.length : Nat) : Int) < ((12 + 16 * cnt l : Nat) : Int)) = false from decide_eq_false (by omega), if_neg d5, cond_false]
  by_cases d6 : 12 + 16 * cnt l < l.length
  · rw [show decide (((l.length : Nat) : Int) > ((12 + 16 * cnt l : Nat) : Int)) = true from decide_eq_true (by omega), if_pos d6]
    exact .inl ⟨by decide, rfl⟩
  have hlen : l.length = 12 + 16 * cnt l := by omega
  have hB := isB_take hl (8 + 16 * cnt l)
  have hD4 : (l.drop (8 + 16 * cnt l)).length = 4 := by rw [List.length_drop]; omega
  have hcr := crcV_lt hB
  have gd := rget_at b0 b1 (l.drop (8 + 16 * cnt l)) (isB_drop hl _) (by omega)
  rw [w4 (isB_drop hl _) (by omega)] at gd
  have hs := sum_at b0 false (l.take (8 + 16 * cnt l)) hB (by rw [List.length_take]; omega)
  rw [show decide (((l.length : Nat) : Int) > ((12 + 16 * cnt l : Nat) : Int)) = false from decide_eq_false (by omega), if_neg d6, cond_false, show decide ((0 : Int) ≤ ((8 + 16 * cnt l : Nat) : Int)) = true from decide_eq_true (by omega),
    show decide (((8 + 16 * cnt l : Nat) : Int) ≤ ((l.length : Nat) : Int)) = true from decide_eq_true (by omega), show decide (((l.length : Nat) : Int) ≤ ((l.length : Nat) : Int)) = true from decide_eq_true (by omega), Int.toNat_natCast,
    show (((l.length : Nat) : Int) - ((8 + 16 * cnt l : Nat) : Int)).toNat = 4 by omega, List.take_of_length_le (l := l.drop (8 + 16 * cnt l)) (by omega), gd, show (((8 + 16 * cnt l : Nat) : Int) - 0).toNat = 8 + 16 * cnt l by omega, hs]
  simp only [cond_true, Option.bind_some]
  rw [w64 (a := ((crcV (l.take (8 + 16 * cnt l)) : Nat) : Int)) (by omega) (by omega), bne_l]
  have hiff : ((val (l.drop (8 + 16 * cnt l)) : Nat) : Int) = ((crcV (l.take (8 + 16 * cnt l)) : Nat) : Int) ↔ le 4 (crcV (l.take (l.length - 4))) = l.drop (l.length - 4) := by
    rw [show l.length - 4 = 8 + 16 * cnt l by omega]
    constructor
    · intro h
      refine val_inj (le_isB _ _) (isB_drop hl _) (by rw [le_len, hD4]) ?_
      rw [val_le]
      omega
    · intro h
      rw [← h, val_le]
      omega
  by_cases d7 : ((val (l.drop (8 + 16 * cnt l)) : Nat) : Int) = ((crcV (l.take (8 + 16 * cnt l)) : Nat) : Int)
  case neg =>
    rw [decide_eq_false d7, if_neg (mt hiff.2 d7)]
    exact .inl ⟨by decide, rfl⟩
  rw [decide_eq_true d7, if_pos (hiff.1 d7), Bool.not_true, cond_false]
  refine .inr ⟨rfl, ?_⟩
  obtain ⟨w, x, w', x', hL⟩ := dec_loop b0 b1 l hl (cnt l) (by omega) hlen 0 0 true true [] true true [] (hdr l) (seqN l) (cnt l) 0 true true true true [] [] (by omega) (by simp; omega) (by simp; omega)
  rw [List.nil_append, List.nil_append, Nat.add_zero] at hL
  unfold lp_report_Decode_0
  rw [show ((0 : Nat) : Int) = 0 from rfl] at hL
  rw [loopN_of (cnt l + 1) (by omega) hL, Option.bind_some]
  dsimp only
  simp only [Nat.add_zero]
  rw [right_at, Option.bind_some]
  by_cases hR : R18 (hdr l) (seqN l) (nums l 0 (cnt l)) (nums l (cnt l) (cnt l))
  · rw [decide_eq_true hR]
    exact .inl ⟨hR, w, x, w', x', rfl⟩
  · rw [decide_eq_false hR]
    exact .inr ⟨hR, rfl⟩
end Go.Proofs
set_option linter.unusedSimpArgs false
set_option linter.unusedVariables false
set_option maxRecDepth 100000
namespace Go.Proofs
open Go Go.Fx
theorem isB_wf {l : List Int} (h : ∀ x ∈ l, (Lit.int .u8 x).wf = true) : isB l := fun x hx => by
  have := h x hx
  simp only [Lit.wf, Bool.and_eq_true, decide_eq_true_eq] at this
  have h1 : 0 ≤ x := this.1
  have h2 : x ≤ 255 := this.2
  exact ⟨h1, by omega⟩
theorem enc8_slice : ∀ (L : List Int) (t : List Int) (k : Nat) (hk : k < L.length), ((enc8 L ++ t).drop (8 * k)).take 8 = le 8 (u64 L[k])
  | n :: L, t, 0, _ => by
    unfold enc8
    rw [List.flatMap_cons, Nat.mul_zero, List.drop_zero, List.append_assoc, List.take_left' (le_len _ _)]
    rfl
  | n :: L, t, k + 1, hk => by
    have ih := enc8_slice L t k (by simpa using hk)
    unfold enc8 at ih ⊢
    rw [List.flatMap_cons, List.append_assoc, show 8 * (k + 1) = 8 + 8 * k by omega, ← List.drop_drop, List.drop_left' (le_len _ _), ih]
    rfl
theorem num_of {a t : List Int} (ha : a.length = 8) {L : List Int} {k : Nat} (hk : k < L.length) (hb : okF L[k]) : num (a ++ (enc8 L ++ t)) k = L[k] := by
  unfold num
  rw [← List.drop_drop, List.drop_left' ha, enc8_slice L t k hk, val_le, Nat.mod_eq_of_lt (u64_lt _)]
  unfold okF at hb
  exact wrap_i64_u (by omega) (by omega)
theorem nums_of {a t : List Int} (ha : a.length = 8) {L : List Int} (hb : ∀ x ∈ L, okF x) (i d : Nat) (h : i + d ≤ L.length) : nums (a ++ (enc8 L ++ t)) i d = (L.drop i).take d := by
  unfold nums
  apply List.ext_getElem?
  intro j
  by_cases hj : j < d
  · rw [List.getElem?_map, List.getElem?_range' hj, List.getElem?_take_of_lt hj, List.getElem?_drop, List.getElem?_eq_getElem (by omega : i + j < L.length)]
    show some (num _ (i + 1 * j)) = _
    rw [Nat.one_mul, num_of ha (by omega) (hb _ (List.getElem_mem _))]
  · rw [List.getElem?_eq_none (by simp; omega), List.getElem?_eq_none (by simp; omega)]
theorem seq_u64 {q : Int} (h0 : 0 ≤ q) (h1 : q ≤ 4294967295) : ((u64 q % 256 ^ 4 : Nat) : Int) = q := by unfold u64; omega
theorem bytes_read {h q : Int} {X D : List Int} (hr : R18 h q X D) : why18 (bytes18 h q X D) = 0 ∧ hdr (bytes18 h q X D) = h ∧ cnt (bytes18 h q X D) = X.length ∧ seqN (bytes18 h q X D) = q ∧
    nums (bytes18 h q X D) 0 X.length = X ∧ nums (bytes18 h q X D) X.length X.length = D := by
  obtain ⟨h0, h1, q0, q1, c5, c6, c7, c8⟩ := hr
  have e : bytes18 h q X D = ([78, 82, h, (X.length : Int)] ++ le 4 (u64 q)) ++ (enc8 (X ++ D) ++ le 4 (crcV (body18 h q X D))) := by
    unfold bytes18 body18
    rw [List.append_assoc]
  have ha : ([78, 82, h, (X.length : Int)] ++ le 4 (u64 q)).length = 8 := by rw [List.length_append, le_len]; rfl
  have eh : hdr (bytes18 h q X D) = h := by rw [e]; rfl
  have ec : cnt (bytes18 h q X D) = X.length := by rw [e]; show ((X.length : Int)).toNat = _; omega
  have es : seqN (bytes18 h q X D) = q := by
    rw [e]
    unfold seqN
    rw [List.append_assoc, show ([78, 82, h, (X.length : Int)] ++ (le 4 (u64 q) ++ (enc8 (X ++ D) ++ le 4 (crcV (body18 h q X D))))).drop 4 = le 4 (u64 q) ++ (enc8 (X ++ D) ++ le 4 (crcV (body18 h q X D))) from rfl,
      List.take_left' (le_len _ _), val_le, seq_u64 q0 q1]
  have eX : nums (bytes18 h q X D) 0 X.length = X := by
    rw [e, nums_of ha c8 0 X.length (by rw [List.length_append]; omega), List.drop_zero, List.take_left]
  have eD : nums (bytes18 h q X D) X.length X.length = D := by
    rw [e, nums_of ha c8 X.length X.length (by rw [List.length_append]; omega), List.drop_left, List.take_of_length_le (by omega)]
  refine ⟨?_, eh, ec, es, eX, eD⟩
  have hl := bytes18_len h q X D
  have hbl := body18_len h q X D
  unfold why18
  rw [if_neg (by omega), eh, ec, if_neg, if_neg (by omega), if_neg (by omega), if_pos]
  · unfold bytes18
    rw [show (body18 h q X D ++ le 4 (crcV (body18 h q X D))).length - 4 = (body18 h q X D).length by rw [List.length_append, le_len]; omega, List.take_left, List.drop_left]
  · rintro (h | h | h)
    · exact h (by rw [e]; rfl)
    · omega
    · exact h c7
theorem awake18 : go_coupletlaw18_awake = some true := by
  have hr : R18 33 5 [1] [2] := by decide
  have hb := bytes_read hr
  have hB := bytes18_isB (q := 5) (X := [1]) (D := [2]) (h := 33) (by decide) (by decide) (by decide)
  have hl := bytes18_len 33 5 [1] [2]
  have hh : go_report_Health 1 0 0 0 false false = some 33 := by decide +kernel
  unfold go_coupletlaw18_awake
  rw [encode_at _ _ _ _ hr, Option.bind_some]
  dsimp only
  rcases decode_at false false (bytes18 33 5 [1] [2]) hB (by rw [hl]; simp) with ⟨h1, _⟩ | ⟨_, h1⟩
  · exact absurd hb.1 h1
  rw [hb.2.1, hb.2.2.1, hb.2.2.2.1, hb.2.2.2.2.1, hb.2.2.2.2.2] at h1
  rcases h1 with ⟨_, u, v, u', v', h1⟩ | ⟨h1, _⟩
  case inr => exact absurd hr h1
  rw [h1, Option.bind_some, hh, Option.bind_some]
  simp only [beq_self_eq_true, cond_true]
  rw [same_at _ _ _ _ _ _ _ _ _ _ _ _ _ _ _ _ (by decide) (by decide), Option.bind_some, right_at, Option.bind_some, decide_eq_true hr, hl]
  rfl
end Go.Proofs
