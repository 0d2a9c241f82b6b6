/-
  Records: what bytes are read as; the laws ReportEncodes, ReportDecodes, ReportLong (plain).
-/
import Derived.Test.YtajphaljpkeecaaDoorWLW2
set_option linter.unusedSimpArgs false
set_option linter.unusedVariables false
set_option maxRecDepth 100000
namespace Go.Proofs
open Go Go.Fx

/-- The number at a place. -/
def num (l : List Int) (k : Nat) : Int := IntKind.wrap .i64 ((val ((l.drop (8 + 8 * k)).take 8) : Nat) : Int)
def nums (l : List Int) (a d : Nat) : List Int := (List.range' a d).map (num l)
def hdr (l : List Int) : Int := l.getD 2 0
def cnt (l : List Int) : Nat := (l.getD 3 0).toNat
def seqN (l : List Int) : Int := ((val ((l.drop 4).take 4) : Nat) : Int)
open Classical in
/-- What is amiss with bytes. -/
noncomputable def why18 (l : List Int) : Int :=
  if l.length < 12 then 2
  else if ¬ l.take 2 = [78, 82] ∨ 4 < cnt l ∨ ¬ (0 < cnt l ↔ hdr l / 32 % 2 = 1) then 4
  else if l.length < 12 + 16 * cnt l then 2
  else if 12 + 16 * cnt l < l.length then 5
  else if le 4 (crcV (l.take (l.length - 4))) = l.drop (l.length - 4) then 0 else 6
theorem take2 {l : List Int} (h : 2 ≤ l.length) : l.take 2 = [l.getD 0 0, l.getD 1 0] := by
  match l, h with
  | a :: b :: r, _ => rfl
theorem hdr_b {l : List Int} (hl : isB l) : 0 ≤ hdr l ∧ hdr l < 256 := isB_getD hl 2
theorem cnt_int {l : List Int} (hl : isB l) : IntKind.wrap .i64 (l.getD 3 0) = ((cnt l : Nat) : Int) := by
  have := isB_getD hl 3
  unfold cnt
  rw [w64 (by omega) (by omega)]; omega
theorem hdr_int {l : List Int} (hl : isB l) : IntKind.wrap .i64 (l.getD 2 0) = hdr l := by
  have := isB_getD hl 2
  exact w64 (by omega) (by omega)
theorem nat_gt (m : Nat) : decide (((m : Nat) : Int) > 0) = decide (0 < m) := decide_eq_decide.2 (by omega)
theorem iff_beq (p q : Prop) [Decidable p] [Decidable q] : (decide p == decide q) = decide (p ↔ q) := by
  by_cases hp : p <;> by_cases hq : q <;> simp [hp, hq]
theorem bne_l (a b : Int) : (a != b) = !decide (a = b) := rfl
theorem lst_beq (a b : List Int) : (a == b) = decide (a = b) := by
  by_cases h : a = b
  · rw [decide_eq_true h, h]; exact beq_self_eq_true b
  · rw [decide_eq_false h]; exact beq_eq_false_iff_ne.2 h

theorem rwhy_at (b0 b1 : Bool) (l : List Int) (hl : isB l) (hn : l.length ≤ 10000) : go_coupletref18_Why b0 b1 l = some (why18 l) := by
  have hh := hdr_b hl
  have ht := tm32 hh.1 (by omega)
  have hc := cnt_int hl
  have hd := hdr_int hl
  unfold go_coupletref18_Why why18
  by_cases c0 : l.length < 12
  · rw [show decide (((l.length : Nat) : Int) < 12) = true from decide_eq_true (by omega), if_pos c0]; rfl
  rw [show decide (((l.length : Nat) : Int) < 12) = false from decide_eq_false (by omega), cond_false, if_neg c0, hc, hd]
  rw [show decide (3 < ((l.length : Nat) : Int)) = true from decide_eq_true (by omega), show decide (3 < l.length) = true from decide_eq_true (by omega), show decide (0 < ((l.length : Nat) : Int)) = true from decide_eq_true (by omega), show decide (0 < l.length) = true from decide_eq_true (by omega),
    show decide (1 < ((l.length : Nat) : Int)) = true from decide_eq_true (by omega), show decide (1 < l.length) = true from decide_eq_true (by omega), show decide (2 < ((l.length : Nat) : Int)) = true from decide_eq_true (by omega), show decide (2 < l.length) = true from decide_eq_true (by omega)]
  simp only [cond_true]
  have h2 := take2 (l := l) (by omega)
  rw [bne_l, bne_l, ht, nat_gt, iff_beq]
  by_cases d0 : l.getD 0 0 = 78
  case neg =>
    rw [decide_eq_false d0, if_pos (.inl (by rw [h2]; exact fun h => d0 (List.cons.inj h).1))]; rfl
  by_cases d1 : l.getD 1 0 = 82
  case neg =>
    rw [decide_eq_true d0, decide_eq_false d1, if_pos (.inl (by rw [h2]; exact fun h => d1 (List.cons.inj (List.cons.inj h).2).1))]; rfl
  have d2 : l.take 2 = [78, 82] := by rw [h2, d0, d1]
  rw [decide_eq_true d0, decide_eq_true d1]
  by_cases d3 : 4 < cnt l
  · rw [show decide (((cnt l : Nat) : Int) > 4) = true from decide_eq_true (by omega), if_pos (.inr (.inl d3))]; rfl
  rw [show decide (((cnt l : Nat) : Int) > 4) = false from decide_eq_false (by omega)]
  by_cases d4 : (0 < cnt l ↔ hdr l / 32 % 2 = 1)
  case neg =>
    rw [decide_eq_false d4, if_pos (.inr (.inr d4))]; rfl
  rw [decide_eq_true d4, if_neg (fun h => h.elim (fun x => x d2) fun x => x.elim d3 fun x => x d4)]
  have e16 : IntKind.wrap .i64 (12 + IntKind.wrap .i64 (16 * ((cnt l : Nat) : Int))) = ((12 + 16 * cnt l : Nat) : Int) := by
    rw [w64 (a := 16 * ((cnt l : Nat) : Int)) (by omega) (by omega), w64 (by omega) (by omega)]; omega
  rw [e16]
  simp only [Bool.not_true, cond_false]
  by_cases d5 : l.length < 12 + 16 * cnt l
  · rw [show decide (((l.length : Nat) : Int) < ((12 + 16 * cnt l : Nat) : Int)) = true from decide_eq_true (by omega), if_pos d5]; rfl
  rw [show decide (((l.length : Nat) : Int) < ((12 + 16 * cnt l : Nat) : Int)) = false from decide_eq_false (by omega), if_neg d5, cond_false]
  by_cases d6 : 12 + 16 * cnt l < l.length
  · rw [show decide (((l.length : Nat) : Int) > ((12 + 16 * cnt l : Nat) : Int)) = true from decide_eq_true (by omega), if_pos d6]; rfl
  have e4 : IntKind.wrap .i64 (((l.length : Nat) : Int) - 4) = ((l.length - 4 : Nat) : Int) := by rw [w64 (by omega) (by omega)]; omega
  have hB := isB_take hl (l.length - 4)
  have hcr := crcV_lt hB
  obtain ⟨b, c, hq⟩ := rbytes_at (crcV (l.take (l.length - 4))) 4 (by decide) (by omega)
  rw [show decide (((l.length : Nat) : Int) > ((12 + 16 * cnt l : Nat) : Int)) = false from decide_eq_false (by omega), if_neg d6, cond_false, e4, show decide ((0 : Int) ≤ ((l.length - 4 : Nat) : Int)) = true from decide_eq_true (by omega), cond_true,
    show decide (((l.length - 4 : Nat) : Int) ≤ ((l.length : Nat) : Int)) = true from decide_eq_true (by omega), cond_true, List.drop_zero, show (((l.length - 4 : Nat) : Int) - 0).toNat = l.length - 4 by omega, ref_sum_at b0 false _ hB (by rw [List.length_take]; omega), Option.bind_some,
    wrap_u64_nat (by omega), show (4 : Int) = ((4 : Nat) : Int) from rfl, hq, Option.bind_some]
  dsimp only
  rw [isB_all (le_isB _ _), cond_true, show decide (((l.length : Nat) : Int) ≤ ((l.length : Nat) : Int)) = true from decide_eq_true (by omega), Int.toNat_natCast, show (((l.length : Nat) : Int) - ((l.length - 4 : Nat) : Int)).toNat = 4 by omega]
  rw [List.take_of_length_le (l := l.drop (l.length - 4)) (by rw [List.length_drop]; omega), isB_all (isB_drop hl _), lst_beq]
  simp only [cond_true]
  by_cases d7 : le 4 (crcV (l.take (l.length - 4))) = l.drop (l.length - 4)
  · rw [decide_eq_true d7, if_pos d7]; rfl
  · rw [decide_eq_false d7, if_neg d7]; rfl

theorem dec_loop (b6 b7 : Bool) (l : List Int) (hl : isB l) (m : Nat) (hm : m ≤ 4) (hn : l.length = 12 + 16 * m) (n12 n13 : Int) (b14 b15 : Bool) (l16 : List Int) (b17 b18 : Bool) (l19 : List Int) (n20 n21 : Int) :
    ∀ (d k : Nat) (u v u' v' : Bool) (X D : List Int), k + d = m → X.length + d ≤ 100 → D.length + d ≤ 100 → ∃ w x w' x',
    iterN (fun x => st_report_Decode_0 x.1 x.2.1 x.2.2.1 x.2.2.2.1 x.2.2.2.2.1 x.2.2.2.2.2.1 x.2.2.2.2.2.2.1 x.2.2.2.2.2.2.2.1 x.2.2.2.2.2.2.2.2.1 x.2.2.2.2.2.2.2.2.2.1 x.2.2.2.2.2.2.2.2.2.2.1 x.2.2.2.2.2.2.2.2.2.2.2.1 x.2.2.2.2.2.2.2.2.2.2.2.2.1 x.2.2.2.2.2.2.2.2.2.2.2.2.2.1 x.2.2.2.2.2.2.2.2.2.2.2.2.2.2.1 x.2.2.2.2.2.2.2.2.2.2.2.2.2.2.2.1 x.2.2.2.2.2.2.2.2.2.2.2.2.2.2.2.2.1 x.2.2.2.2.2.2.2.2.2.2.2.2.2.2.2.2.2.1 x.2.2.2.2.2.2.2.2.2.2.2.2.2.2.2.2.2.2.1 x.2.2.2.2.2.2.2.2.2.2.2.2.2.2.2.2.2.2.2.1 x.2.2.2.2.2.2.2.2.2.2.2.2.2.2.2.2.2.2.2.2.1 x.2.2.2.2.2.2.2.2.2.2.2.2.2.2.2.2.2.2.2.2.2) (d + 1)
      (b6, b7, l, (m : Int), (m : Int), (k : Int), n12, n13, b14, b15, l16, b17, b18, l19, n20, n21, u, v, X, u', v', D) =
      some (n12, n13, b14, b15, l16, b17, b18, l19, n20, n21, w, x, X ++ nums l k d, w', x', D ++ nums l (m + k) d)
  | 0, k, u, v, u', v', X, D, hk, hX, hD => by
    obtain rfl : k = m := by omega
    have e : st_report_Decode_0 b6 b7 l (k : Int) (k : Int) (k : Int) n12 n13 b14 b15 l16 b17 b18 l19 n20 n21 u v X u' v' D = some (.inr (n12, n13, b14, b15, l16, b17, b18, l19, n20, n21, u, v, X, u', v', D)) := by
      unfold st_report_Decode_0
      rw [decide_eq_false (Int.lt_irrefl _)]
      rfl
    exact ⟨u, v, u', v', by simp only [iterN, e, nums, List.range'_zero, List.map_nil, List.append_nil]⟩
  | d + 1, k, u, v, u', v', X, D, hk, hX, hD => by
    have e1 : IntKind.wrap .i64 (8 * (k : Int)) = ((8 * k : Nat) : Int) := by rw [w64 (by omega) (by omega)]; omega
    have e2 : IntKind.wrap .i64 (8 + ((8 * k : Nat) : Int)) = ((8 + 8 * k : Nat) : Int) := by rw [w64 (by omega) (by omega)]; omega
    have e3 : IntKind.wrap .i64 (8 * ((k + 1 : Nat) : Int)) = ((8 * (k + 1) : Nat) : Int) := by rw [w64 (by omega) (by omega)]; omega
    have e4 : IntKind.wrap .i64 (8 + ((8 * (k + 1) : Nat) : Int)) = ((8 + 8 * (k + 1) : Nat) : Int) := by rw [w64 (by omega) (by omega)]; omega
    have e5 : IntKind.wrap .i64 ((m : Int) + (k : Int)) = ((m + k : Nat) : Int) := by rw [w64 (by omega) (by omega)]; omega
    have e6 : IntKind.wrap .i64 (8 * ((m + k : Nat) : Int)) = ((8 * (m + k) : Nat) : Int) := by rw [w64 (by omega) (by omega)]; omega
    have e7 : IntKind.wrap .i64 (8 + ((8 * (m + k) : Nat) : Int)) = ((8 + 8 * (m + k) : Nat) : Int) := by rw [w64 (by omega) (by omega)]; omega
    have e8 : IntKind.wrap .i64 (((m + k : Nat) : Int) + 1) = ((m + k + 1 : Nat) : Int) := inc64 (by omega)
    have e9 : IntKind.wrap .i64 (8 * ((m + k + 1 : Nat) : Int)) = ((8 * (m + k + 1) : Nat) : Int) := by rw [w64 (by omega) (by omega)]; omega
    have e10 : IntKind.wrap .i64 (8 + ((8 * (m + k + 1) : Nat) : Int)) = ((8 + 8 * (m + k + 1) : Nat) : Int) := by rw [w64 (by omega) (by omega)]; omega
    have t1 : (((8 + 8 * (k + 1) : Nat) : Int) - ((8 + 8 * k : Nat) : Int)).toNat = 8 := by omega
    have t2 : (((8 + 8 * (m + k + 1) : Nat) : Int) - ((8 + 8 * (m + k) : Nat) : Int)).toNat = 8 := by omega
    have g1 := rget_at b6 false ((l.drop (8 + 8 * k)).take 8) (isB_take (isB_drop hl _) _) (by rw [List.length_take]; omega)
    have g2 := rget_at b6 false ((l.drop (8 + 8 * (m + k))).take 8) (isB_take (isB_drop hl _) _) (by rw [List.length_take]; omega)
    have e : st_report_Decode_0 b6 b7 l (m : Int) (m : Int) (k : Int) n12 n13 b14 b15 l16 b17 b18 l19 n20 n21 u v X u' v' D =
        some (.inl (b6, b7, l, (m : Int), (m : Int), ((k + 1 : Nat) : Int), n12, n13, b14, b15, l16, b17, b18, l19, n20, n21, (u && false), false, X ++ [num l k], (u' && false), false, D ++ [num l (m + k)])) := by
      unfold st_report_Decode_0
      rw [inc64 (by omega), e1, e2, e3, e4, e5, e6, e7, e8, e9, e10, t1, t2, Int.toNat_natCast, Int.toNat_natCast, g1, g2]
      simp only [Option.bind_some]
      rw [show decide ((k : Int) < (m : Int)) = true from decide_eq_true (by omega), show decide ((0 : Int) ≤ ((8 + 8 * k : Nat) : Int)) = true from decide_eq_true (by omega), show decide (((8 + 8 * k : Nat) : Int) ≤ ((8 + 8 * (k + 1) : Nat) : Int)) = true from decide_eq_true (by omega),
        show decide (((8 + 8 * (k + 1) : Nat) : Int) ≤ ((l.length : Nat) : Int)) = true from decide_eq_true (by omega), show decide ((X.length + 1) * 8 ≤ 140737488355328) = true from decide_eq_true (by omega), show decide (X.length + 1 ≤ 4611686018427387904) = true from decide_eq_true (by omega),
        show decide ((0 : Int) ≤ ((8 + 8 * (m + k) : Nat) : Int)) = true from decide_eq_true (by omega), show decide (((8 + 8 * (m + k) : Nat) : Int) ≤ ((8 + 8 * (m + k + 1) : Nat) : Int)) = true from decide_eq_true (by omega),
        show decide (((8 + 8 * (m + k + 1) : Nat) : Int) ≤ ((l.length : Nat) : Int)) = true from decide_eq_true (by omega), show decide ((D.length + 1) * 8 ≤ 140737488355328) = true from decide_eq_true (by omega), show decide (D.length + 1 ≤ 4611686018427387904) = true from decide_eq_true (by omega)]
      rfl
    obtain ⟨w, x, w', x', ih⟩ := dec_loop b6 b7 l hl m hm hn n12 n13 b14 b15 l16 b17 b18 l19 n20 n21 d (k + 1) (u && false) false (u' && false) false (X ++ [num l k]) (D ++ [num l (m + k)]) (by omega) (by simp; omega) (by simp; omega)
    refine ⟨w, x, w', x', ?_⟩
    rw [iterN]
    simp only [e]
    rw [ih]
    simp only [nums, List.range'_succ, List.map_cons, List.append_assoc, List.singleton_append, Nat.add_assoc]
theorem w4 {l : List Int} (hl : isB l) (h4 : l.length ≤ 4) : IntKind.wrap .i64 ((val l : Nat) : Int) = ((val l : Nat) : Int) := by
  have h1 := val_lt l hl
  have h2 : 256 ^ l.length ≤ 256 ^ 4 := Nat.pow_le_pow_right (by decide) h4
  exact w64 (by omega) (by omega)
theorem seqN_b {l : List Int} (hl : isB l) : 0 ≤ seqN l ∧ seqN l ≤ 4294967295 := by
  have h1 := val_lt _ (isB_take (isB_drop hl 4) 4)
  have h2 : 256 ^ ((l.drop 4).take 4).length ≤ 256 ^ 4 := Nat.pow_le_pow_right (by decide) (by rw [List.length_take]; omega)
  unfold seqN
  omega
/-- What bytes are read as. -/
theorem decode_at (b0 b1 : Bool) (l : List Int) (hl : isB l) (hn : l.length ≤ 10000) : (why18 l ≠ 0 ∧ go_report_Decode b0 b1 l = some (0, 0, true, true, [], true, true, [], why18 l)) ∨
    (why18 l = 0 ∧ ((R18 (hdr l) (seqN l) (nums l 0 (cnt l)) (nums l (cnt l) (cnt l)) ∧ ∃ u v u' v', go_report_Decode b0 b1 l = some (hdr l, seqN l, u, v, nums l 0 (cnt l), u', v', nums l (cnt l) (cnt l), 0)) ∨
      (¬ R18 (hdr l) (seqN l) (nums l 0 (cnt l)) (nums l (cnt l) (cnt l)) ∧ go_report_Decode b0 b1 l = some (0, 0, true, true, [], true, true, [], 3)))) := by
  have hh := hdr_b hl
  have ha := and32 hh.1 (by omega)
  have hc := cnt_int hl
  have hd := hdr_int hl
  unfold go_report_Decode why18
  by_cases c0 : l.length < 12
  · rw [show decide (((l.length : Nat) : Int) < 12) = true from decide_eq_true (by omega), if_pos c0]
    exact .inl ⟨by decide, rfl⟩
  have g4 := rget_at b0 false ((l.drop 4).take 4) (isB_take (isB_drop hl _) _) (by rw [List.length_take]; omega)
  rw [w4 (isB_take (isB_drop hl _) _) (by rw [List.length_take]; omega)] at g4
  have g4 : go_report_get b0 false ((l.drop 4).take 4) = some (seqN l) := g4
  rw [show decide (((l.length : Nat) : Int) < 12) = false from decide_eq_false (by omega), cond_false, if_neg c0, hc, hd]
  rw [show decide (2 < ((l.length : Nat) : Int)) = true from decide_eq_true (by omega), show decide (2 < l.length) = true from decide_eq_true (by omega), show decide (8 ≤ ((l.length : Nat) : Int)) = true from decide_eq_true (by omega), g4,
    show decide (3 < ((l.length : Nat) : Int)) = true from decide_eq_true (by omega), show decide (3 < l.length) = true from decide_eq_true (by omega), show decide (2 ≤ ((l.length : Nat) : Int)) = true from decide_eq_true (by omega), List.drop_zero, isB_all (isB_take hl 2), lst_beq, ha, nat_gt, iff_beq]
  simp only [cond_true, Option.bind_some]
  by_cases d2 : l.take 2 = [78, 82]
  case neg =>
    rw [decide_eq_false d2, if_pos (.inl d2)]
    exact .inl ⟨by decide, rfl⟩
  rw [decide_eq_true d2, Bool.not_true, cond_false]
  by_cases d3 : 4 < cnt l
  · rw [show decide (((cnt l : Nat) : Int) > 4) = true from decide_eq_true (by omega), if_pos (.inr (.inl d3))]
    exact .inl ⟨by decide, rfl⟩
  rw [show decide (((cnt l : Nat) : Int) > 4) = false from decide_eq_false (by omega), cond_false]
  by_cases d4 : (0 < cnt l ↔ hdr l / 32 % 2 = 1)
  case neg =>
    rw [decide_eq_false d4, if_pos (.inr (.inr d4))]
    exact .inl ⟨by decide, rfl⟩
  rw [decide_eq_true d4, if_neg (fun h => h.elim (fun x => x d2) fun x => x.elim d3 fun x => x d4), Bool.not_true, cond_false]
  have e16 : IntKind.wrap .i64 (8 + IntKind.wrap .i64 (16 * ((cnt l : Nat) : Int))) = ((8 + 16 * cnt l : Nat) : Int) := by
    rw [w64 (a := 16 * ((cnt l : Nat) : Int)) (by omega) (by omega), w64 (by omega) (by omega)]; omega
  have e12 : IntKind.wrap .i64 (((8 + 16 * cnt l : Nat) : Int) + 4) = ((12 + 16 * cnt l : Nat) : Int) := by rw [w64 (by omega) (by omega)]; omega
  rw [e16, e12]
  by_cases d5 : l.length < 12 + 16 * cnt l
  · rw [show decide (((l.length : Nat) : Int) < ((12 + 16 * cnt l : Nat) : Int)) = true from decide_eq_true (by omega), if_pos d5]
    exact .inl ⟨by decide, rfl⟩
  rw [show decide (((l.length : Nat) : Int) < ((12 + 16 * cnt l : Nat) : Int)) = false from decide_eq_false (by omega), if_neg d5, cond_false]
  by_cases d6 : 12 + 16 * cnt l < l.length
  · rw [show decide (((l.length : Nat) : Int) > ((12 + 16 * cnt l : Nat) : Int)) = true from decide_eq_true (by omega), if_pos d6]
    exact .inl ⟨by decide, rfl⟩
  have hlen : l.length = 12 + 16 * cnt l := by omega
  have hB := isB_take hl (8 + 16 * cnt l)
  have hD4 : (l.drop (8 + 16 * cnt l)).length = 4 := by rw [List.length_drop]; omega
  have hcr := crcV_lt hB
  have gd := rget_at b0 b1 (l.drop (8 + 16 * cnt l)) (isB_drop hl _) (by omega)
  rw [w4 (isB_drop hl _) (by omega)] at gd
  have hs := sum_at b0 false (l.take (8 + 16 * cnt l)) hB (by rw [List.length_take]; omega)
  rw [show decide (((l.length : Nat) : Int) > ((12 + 16 * cnt l : Nat) : Int)) = false from decide_eq_false (by omega), if_neg d6, cond_false, show decide ((0 : Int) ≤ ((8 + 16 * cnt l : Nat) : Int)) = true from decide_eq_true (by omega),
    show decide (((8 + 16 * cnt l : Nat) : Int) ≤ ((l.length : Nat) : Int)) = true from decide_eq_true (by omega), show decide (((l.length : Nat) : Int) ≤ ((l.length : Nat) : Int)) = true from decide_eq_true (by omega), Int.toNat_natCast,
    show (((l.length : Nat) : Int) - ((8 + 16 * cnt l : Nat) : Int)).toNat = 4 by omega, List.take_of_length_le (l := l.drop (8 + 16 * cnt l)) (by omega), gd, show (((8 + 16 * cnt l : Nat) : Int) - 0).toNat = 8 + 16 * cnt l by omega, hs]
  simp only [cond_true, Option.bind_some]
  rw [w64 (a := ((crcV (l.take (8 + 16 * cnt l)) : Nat) : Int)) (by omega) (by omega), bne_l]
  have hiff : ((val (l.drop (8 + 16 * cnt l)) : Nat) : Int) = ((crcV (l.take (8 + 16 * cnt l)) : Nat) : Int) ↔ le 4 (crcV (l.take (l.length - 4))) = l.drop (l.length - 4) := by
    rw [show l.length - 4 = 8 + 16 * cnt l by omega]
    constructor
    · intro h
      refine val_inj (le_isB _ _) (isB_drop hl _) (by rw [le_len, hD4]) ?_
      rw [val_le]
      omega
    · intro h
      rw [← h, val_le]
      omega
  by_cases d7 : ((val (l.drop (8 + 16 * cnt l)) : Nat) : Int) = ((crcV (l.take (8 + 16 * cnt l)) : Nat) : Int)
  case neg =>
    rw [decide_eq_false d7, if_neg (mt hiff.2 d7)]
    exact .inl ⟨by decide, rfl⟩
  rw [decide_eq_true d7, if_pos (hiff.1 d7), Bool.not_true, cond_false]
  refine .inr ⟨rfl, ?_⟩
  obtain ⟨w, x, w', x', hL⟩ := dec_loop b0 b1 l hl (cnt l) (by omega) hlen 0 0 true true [] true true [] (hdr l) (seqN l) (cnt l) 0 true true true true [] [] (by omega) (by simp; omega) (by simp; omega)
  rw [List.nil_append, List.nil_append, Nat.add_zero] at hL
  unfold lp_report_Decode_0
  rw [show ((0 : Nat) : Int) = 0 from rfl] at hL
  rw [loopN_of (cnt l + 1) (by omega) hL, Option.bind_some]
  dsimp only
  simp only [Nat.add_zero]
  rw [right_at, Option.bind_some]
  by_cases hR : R18 (hdr l) (seqN l) (nums l 0 (cnt l)) (nums l (cnt l) (cnt l))
  · rw [decide_eq_true hR]
    exact .inl ⟨hR, w, x, w', x', rfl⟩
  · rw [decide_eq_false hR]
    exact .inr ⟨hR, rfl⟩
end Go.Proofs
