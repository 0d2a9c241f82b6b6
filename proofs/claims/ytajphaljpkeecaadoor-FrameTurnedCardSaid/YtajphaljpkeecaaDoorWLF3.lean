/-
  Frames: what bytes are read as; the laws of layer 12 (plain).
-/
import Derived.Test.YtajphaljpkeecaaDoorWLF2
set_option linter.unusedSimpArgs false
set_option linter.unusedVariables false
set_option maxRecDepth 100000
namespace Go.Proofs
open Go Go.Fx

def kd (l : List Int) : Int := l.getD 2 0
def nn (l : List Int) : Int := l.getD 3 0
def mm (l : List Int) : Nat := (M12 (kd l) (nn l)).toNat
open Classical in
/-- What is amiss with bytes. -/
noncomputable def why12 (l : List Int) : Int :=
  if l.length < 12 then 2
  else if ¬ l.take 2 = [78, 86] ∨ mm l = 0 then 4
  else if l.length < 12 + 8 * mm l then 2
  else if 12 + 8 * mm l < l.length then 5
  else if le 4 (crcV (l.take (l.length - 4))) = l.drop (l.length - 4) then 0 else 6
theorem kd_int {l : List Int} (hl : isB l) : IntKind.wrap .i64 (l.getD 2 0) = kd l := by
  have := isB_getD hl 2
  exact w64 (by omega) (by omega)
theorem nn_int {l : List Int} (hl : isB l) : IntKind.wrap .i64 (l.getD 3 0) = nn l := by
  have := isB_getD hl 3
  exact w64 (by omega) (by omega)
theorem mm_int (l : List Int) : M12 (kd l) (nn l) = (mm l : Int) := by
  have := M12_b (kd l) (nn l)
  unfold mm; omega
theorem mm_le (l : List Int) : mm l ≤ 32 := by
  have := M12_b (kd l) (nn l)
  unfold mm; omega

theorem rwhy_at (b0 b1 : Bool) (l : List Int) (hl : isB l) (hn : l.length ≤ 10000) : go_coupletref12_Why b0 b1 l = some (why12 l) := by
  have hm := mm_le l
  unfold go_coupletref12_Why why12
  by_cases c0 : l.length < 12
  · rw [show decide (((l.length : Nat) : Int) < 12) = true from decide_eq_true (by omega), if_pos c0]; rfl
  rw [show decide (((l.length : Nat) : Int) < 12) = false from decide_eq_false (by omega), cond_false, if_neg c0, kd_int hl, nn_int hl, rmany_at, mm_int]
  rw [show decide (3 < ((l.length : Nat) : Int)) = true from decide_eq_true (by omega), show decide (3 < l.length) = true from decide_eq_true (by omega), show decide (0 < ((l.length : Nat) : Int)) = true from decide_eq_true (by omega), show decide (0 < l.length) = true from decide_eq_true (by omega),
    show decide (1 < ((l.length : Nat) : Int)) = true from decide_eq_true (by omega), show decide (1 < l.length) = true from decide_eq_true (by omega), show decide (2 < ((l.length : Nat) : Int)) = true from decide_eq_true (by omega), show decide (2 < l.length) = true from decide_eq_true (by omega)]
  simp only [cond_true, Option.bind_some]
  have h2 := take2 (l := l) (by omega)
  rw [bne_l, bne_l, ibeq]
  by_cases d0 : l.getD 0 0 = 78
  case neg =>
    rw [decide_eq_false d0, if_pos (.inl (by rw [h2]; exact fun h => d0 (List.cons.inj h).1))]; rfl
  by_cases d1 : l.getD 1 0 = 86
  case neg =>
    rw [decide_eq_true d0, decide_eq_false d1, if_pos (.inl (by rw [h2]; exact fun h => d1 (List.cons.inj (List.cons.inj h).2).1))]; rfl
  have d2 : l.take 2 = [78, 86] := by rw [h2, d0, d1]
  rw [decide_eq_true d0, decide_eq_true d1]
  by_cases d3 : mm l = 0
  · rw [show decide (((mm l : Nat) : Int) = 0) = true from decide_eq_true (by omega), if_pos (.inr d3)]; rfl
  rw [show decide (((mm l : Nat) : Int) = 0) = false from decide_eq_false (by omega), if_neg (fun h => h.elim (fun x => x d2) d3)]
  have e16 : IntKind.wrap .i64 (12 + IntKind.wrap .i64 (8 * ((mm l : Nat) : Int))) = ((12 + 8 * mm l : Nat) : Int) := by
    rw [w64 (a := 8 * ((mm l : Nat) : Int)) (by omega) (by omega), w64 (by omega) (by omega)]; omega
  rw [e16]
  simp only [Bool.not_true, cond_false]
  by_cases d5 : l.length < 12 + 8 * mm l
  · rw [show decide (((l.length : Nat) : Int) < ((12 + 8 * mm l : Nat) : Int)) = true from decide_eq_true (by omega), if_pos d5]; rfl
  rw [show decide (((l.length : Nat) : Int) < ((12 + 8 * mm l : Nat) : Int)) = false from decide_eq_false (by omega), if_neg d5, cond_false]
  by_cases d6 : 12 + 8 * mm l < l.length
  · rw [show decide (((l.length : Nat) : Int) > ((12 + 8 * mm l : Nat) : Int)) = true from decide_eq_true (by omega), if_pos d6]; rfl
  have e4 : IntKind.wrap .i64 (((l.length : Nat) : Int) - 4) = ((l.length - 4 : Nat) : Int) := by rw [w64 (by omega) (by omega)]; omega
  have hB := isB_take hl (l.length - 4)
  have hcr := crcV_lt hB
  obtain ⟨b, c, hq⟩ := rbytes_at (crcV (l.take (l.length - 4))) 4 (by decide) (by omega)
  rw [show decide (((l.length : Nat) : Int) > ((12 + 8 * mm l : Nat) : Int)) = false from decide_eq_false (by omega), if_neg d6, cond_false, e4, show decide ((0 : Int) ≤ ((l.length - 4 : Nat) : Int)) = true from decide_eq_true (by omega), cond_true,
    show decide (((l.length - 4 : Nat) : Int) ≤ ((l.length : Nat) : Int)) = true from decide_eq_true (by omega), cond_true, List.drop_zero, show (((l.length - 4 : Nat) : Int) - 0).toNat = l.length - 4 by omega, ref_sum_at b0 false _ hB (by rw [List.length_take]; omega), Option.bind_some,
    wrap_u64_nat (by omega), show (4 : Int) = ((4 : Nat) : Int) from rfl, hq, Option.bind_some]
  dsimp only
  rw [isB_all (le_isB _ _), cond_true, show decide (((l.length : Nat) : Int) ≤ ((l.length : Nat) : Int)) = true from decide_eq_true (by omega), Int.toNat_natCast, show (((l.length : Nat) : Int) - ((l.length - 4 : Nat) : Int)).toNat = 4 by omega]
  rw [List.take_of_length_le (l := l.drop (l.length - 4)) (by rw [List.length_drop]; omega), isB_all (isB_drop hl _), lst_beq]
  simp only [cond_true]
  by_cases d7 : le 4 (crcV (l.take (l.length - 4))) = l.drop (l.length - 4)
  · rw [decide_eq_true d7, if_pos d7]; rfl
  · rw [decide_eq_false d7, if_neg d7]; rfl

theorem dec_loop (b7 b8 : Bool) (l : List Int) (hl : isB l) (m : Nat) (hm : m ≤ 32) (hn : l.length = 12 + 8 * m) (n12 n13 n14 : Int) (b15 b16 : Bool) (l17 : List Int) (n18 n19 n20 : Int) :
    ∀ (d k : Nat) (u v : Bool) (X : List Int), k + d = m → X.length + d ≤ 100 → ∃ w x,
    iterN (fun x => st_frame_Decode_0 x.1 x.2.1 x.2.2.1 x.2.2.2.1 x.2.2.2.2.1 x.2.2.2.2.2.1 x.2.2.2.2.2.2.1 x.2.2.2.2.2.2.2.1 x.2.2.2.2.2.2.2.2.1 x.2.2.2.2.2.2.2.2.2.1 x.2.2.2.2.2.2.2.2.2.2.1 x.2.2.2.2.2.2.2.2.2.2.2.1 x.2.2.2.2.2.2.2.2.2.2.2.2.1 x.2.2.2.2.2.2.2.2.2.2.2.2.2.1 x.2.2.2.2.2.2.2.2.2.2.2.2.2.2.1 x.2.2.2.2.2.2.2.2.2.2.2.2.2.2.2.1 x.2.2.2.2.2.2.2.2.2.2.2.2.2.2.2.2) (d + 1)
      (b7, b8, l, ((8 + 8 * m : Nat) : Int), ((8 + 8 * k : Nat) : Int), n12, n13, n14, b15, b16, l17, n18, n19, n20, u, v, X) =
      some (n12, n13, n14, b15, b16, l17, n18, n19, n20, w, x, X ++ nums l k d)
  | 0, k, u, v, X, hk, hX => by
    obtain rfl : k = m := by omega
    have e : st_frame_Decode_0 b7 b8 l ((8 + 8 * k : Nat) : Int) ((8 + 8 * k : Nat) : Int) n12 n13 n14 b15 b16 l17 n18 n19 n20 u v X = some (.inr (n12, n13, n14, b15, b16, l17, n18, n19, n20, u, v, X)) := by
      unfold st_frame_Decode_0
      rw [decide_eq_false (Int.lt_irrefl _)]
      rfl
    exact ⟨u, v, by simp only [iterN, e, nums, List.range'_zero, List.map_nil, List.append_nil]⟩
  | d + 1, k, u, v, X, hk, hX => by
    have e1 : IntKind.wrap .i64 (((8 + 8 * k : Nat) : Int) + 8) = ((8 + 8 * (k + 1) : Nat) : Int) := by rw [w64 (by omega) (by omega)]; omega
    have t1 : (((8 + 8 * (k + 1) : Nat) : Int) - ((8 + 8 * k : Nat) : Int)).toNat = 8 := by omega
    have g1 := fget_at b7 false ((l.drop (8 + 8 * k)).take 8) (isB_take (isB_drop hl _) _) (by rw [List.length_take]; omega)
    have e : st_frame_Decode_0 b7 b8 l ((8 + 8 * m : Nat) : Int) ((8 + 8 * k : Nat) : Int) n12 n13 n14 b15 b16 l17 n18 n19 n20 u v X =
        some (.inl (b7, b8, l, ((8 + 8 * m : Nat) : Int), ((8 + 8 * (k + 1) : Nat) : Int), n12, n13, n14, b15, b16, l17, n18, n19, n20, (u && false), false, X ++ [num l k])) := by
      unfold st_frame_Decode_0
      rw [e1, t1, Int.toNat_natCast, g1]
      simp only [Option.bind_some]
      rw [show decide (((8 + 8 * k : Nat) : Int) < ((8 + 8 * m : Nat) : Int)) = true from decide_eq_true (by omega), show decide ((0 : Int) ≤ ((8 + 8 * k : Nat) : Int)) = true from decide_eq_true (by omega), show decide (((8 + 8 * k : Nat) : Int) ≤ ((8 + 8 * (k + 1) : Nat) : Int)) = true from decide_eq_true (by omega),
        show decide (((8 + 8 * (k + 1) : Nat) : Int) ≤ ((l.length : Nat) : Int)) = true from decide_eq_true (by omega), show decide ((X.length + 1) * 8 ≤ 140737488355328) = true from decide_eq_true (by omega), show decide (X.length + 1 ≤ 4611686018427387904) = true from decide_eq_true (by omega)]
      rfl
    obtain ⟨w, x, ih⟩ := dec_loop b7 b8 l hl m hm hn n12 n13 n14 b15 b16 l17 n18 n19 n20 d (k + 1) (u && false) false (X ++ [num l k]) (by omega) (by simp; omega)
    refine ⟨w, x, ?_⟩
    rw [iterN]
    simp only [e]
    rw [ih]
    simp only [nums, List.range'_succ, List.map_cons, List.append_assoc, List.singleton_append]
/-- What bytes are read as. -/
theorem decode_at (b0 b1 : Bool) (l : List Int) (hl : isB l) (hn : l.length ≤ 10000) : (why12 l ≠ 0 ∧ go_frame_Decode b0 b1 l = some (0, 0, 0, true, true, [], why12 l)) ∨
    (why12 l = 0 ∧ ((R12 (kd l) (seqN l) (nn l) (nums l 0 (mm l)) ∧ ∃ u v, go_frame_Decode b0 b1 l = some (kd l, seqN l, nn l, u, v, nums l 0 (mm l), 0)) ∨
      (¬ R12 (kd l) (seqN l) (nn l) (nums l 0 (mm l)) ∧ go_frame_Decode b0 b1 l = some (0, 0, 0, true, true, [], 3)))) := by
  have hm := mm_le l
  unfold go_frame_Decode why12
  by_cases c0 : l.length < 12
  · rw [show decide (((l.length : Nat) : Int) < 12) = true from decide_eq_true (by omega), if_pos c0]
    exact .inl ⟨by decide, rfl⟩
  have g4 := fget_at b0 false ((l.drop 4).take 4) (isB_take (isB_drop hl _) _) (by rw [List.length_take]; omega)
  rw [w4 (isB_take (isB_drop hl _) _) (by rw [List.length_take]; omega)] at g4
  have g4 : go_frame_get b0 false ((l.drop 4).take 4) = some (seqN l) := g4
  rw [show decide (((l.length : Nat) : Int) < 12) = false from decide_eq_false (by omega), cond_false, if_neg c0, kd_int hl, nn_int hl, many_at, mm_int]
  rw [show decide (2 < ((l.length : Nat) : Int)) = true from decide_eq_true (by omega), show decide (2 < l.length) = true from decide_eq_true (by omega), show decide (8 ≤ ((l.length : Nat) : Int)) = true from decide_eq_true (by omega), g4,
    show decide (3 < ((l.length : Nat) : Int)) = true from decide_eq_true (by omega), show decide (3 < l.length) = true from decide_eq_true (by omega), show decide (2 ≤ ((l.length : Nat) : Int)) = true from decide_eq_true (by omega), List.drop_zero, isB_all (isB_take hl 2), lst_beq]
  simp only [cond_true, Option.bind_some]
  rw [ibeq]
  by_cases d2 : l.take 2 = [78, 86]
  case neg =>
    rw [decide_eq_false d2, if_pos (.inl d2)]
    exact .inl ⟨by decide, rfl⟩
  rw [decide_eq_true d2, Bool.not_true, cond_false]
  by_cases d3 : mm l = 0
  · rw [show decide (((mm l : Nat) : Int) = 0) = true from decide_eq_true (by omega), if_pos (.inr d3)]
    exact .inl ⟨by decide, rfl⟩
  rw [show decide (((mm l : Nat) : Int) = 0) = false from decide_eq_false (by omega), cond_false, if_neg (fun h => h.elim (fun x => x d2) d3)]
  have e16 : IntKind.wrap .i64 (8 + IntKind.wrap .i64 (8 * ((mm l : Nat) : Int))) = ((8 + 8 * mm l : Nat) : Int) := by
    rw [w64 (a := 8 * ((mm l : Nat) : Int)) (by omega) (by omega), w64 (by omega) (by omega)]; omega
  have e12 : IntKind.wrap .i64 (((8 + 8 * mm l : Nat) : Int) + 4) = ((12 + 8 * mm l : Nat) : Int) := by rw [w64 (by omega) (by omega)]; omega
  rw [e16, e12]
  by_cases d5 : l.length < 12 + 8 * mm l
  · rw [show decide (((l.length : Nat) : Int) < ((12 + 8 * mm l : Nat) : Int)) = true from decide_eq_true (by omega), if_pos d5]
    exact .inl ⟨by decide, rfl⟩
  rw [show decide (((l.length : Nat) : Int) < ((12 + 8 * mm l : Nat) : Int)) = false from decide_eq_false (by omega), if_neg d5, cond_false]
  by_cases d6 : 12 + 8 * mm l < l.length
  · rw [show decide (((l.length : Nat) : Int) > ((12 + 8 * mm l : Nat) : Int)) = true from decide_eq_true (by omega), if_pos d6]
    exact .inl ⟨by decide, rfl⟩
  have hlen : l.length = 12 + 8 * mm l := by omega
  have hB := isB_take hl (8 + 8 * mm l)
  have hD4 : (l.drop (8 + 8 * mm l)).length = 4 := by rw [List.length_drop]; omega
  have hcr := crcV_lt hB
  have gd := fget_at b0 b1 (l.drop (8 + 8 * mm l)) (isB_drop hl _) (by omega)
  rw [w4 (isB_drop hl _) (by omega)] at gd
  have hs := sum_at b0 false (l.take (8 + 8 * mm l)) hB (by rw [List.length_take]; omega)
  rw [show decide (((l.length : Nat) : Int) > ((12 + 8 * mm l : Nat) : Int)) = false from decide_eq_false (by omega), if_neg d6, cond_false, show decide ((0 : Int) ≤ ((8 + 8 * mm l : Nat) : Int)) = true from decide_eq_true (by omega),
    show decide (((8 + 8 * mm l : Nat) : Int) ≤ ((l.length : Nat) : Int)) = true from decide_eq_true (by omega), show decide (((l.length : Nat) : Int) ≤ ((l.length : Nat) : Int)) = true from decide_eq_true (by omega), Int.toNat_natCast,
    show (((l.length : Nat) : Int) - ((8 + 8 * mm l : Nat) : Int)).toNat = 4 by omega, List.take_of_length_le (l := l.drop (8 + 8 * mm l)) (by omega), gd, show (((8 + 8 * mm l : Nat) : Int) - 0).toNat = 8 + 8 * mm l by omega, hs]
  simp only [cond_true, Option.bind_some]
  rw [w64 (a := ((crcV (l.take (8 + 8 * mm l)) : Nat) : Int)) (by omega) (by omega), bne_l]
  have hiff : ((val (l.drop (8 + 8 * mm l)) : Nat) : Int) = ((crcV (l.take (8 + 8 * mm l)) : Nat) : Int) ↔ le 4 (crcV (l.take (l.length - 4))) = l.drop (l.length - 4) := by
    rw [show l.length - 4 = 8 + 8 * mm l by omega]
    constructor
    · intro h
      refine val_inj (le_isB _ _) (isB_drop hl _) (by rw [le_len, hD4]) ?_
      rw [val_le]
      omega
    · intro h
      rw [← h, val_le]
      omega
  by_cases d7 : ((val (l.drop (8 + 8 * mm l)) : Nat) : Int) = ((crcV (l.take (8 + 8 * mm l)) : Nat) : Int)
  case neg =>
    rw [decide_eq_false d7, if_neg (mt hiff.2 d7)]
    exact .inl ⟨by decide, rfl⟩
  rw [decide_eq_true d7, if_pos (hiff.1 d7), Bool.not_true, cond_false]
  refine .inr ⟨rfl, ?_⟩
  obtain ⟨w, x, hL⟩ := dec_loop b0 b1 l hl (mm l) (by omega) hlen 0 0 0 true true [] (kd l) (seqN l) (nn l) (mm l) 0 true true [] (by omega) (by simp; omega)
  rw [List.nil_append, show ((8 + 8 * 0 : Nat) : Int) = 8 from rfl] at hL
  unfold lp_frame_Decode_0
  rw [loopN_of (mm l + 1) (by omega) hL, Option.bind_some]
  dsimp only
  rw [fright_at _ _ _ _ _ _ (by simp [nums]; omega), Option.bind_some]
  by_cases hR : R12 (kd l) (seqN l) (nn l) (nums l 0 (mm l))
  · rw [decide_eq_true hR]
    exact .inl ⟨hR, w, x, rfl⟩
  · rw [decide_eq_false hR]
    exact .inr ⟨hR, rfl⟩

/-- The bytes of a frame, read. -/
theorem bytes_read {k q n : Int} {L : List Int} (hM : 0 < M12 k n) (hL : (L.length : Int) = M12 k n) (q0 : 0 ≤ q) (q1 : q ≤ 4294967295) (hb : ∀ x ∈ L, i64b x) : why12 (bytes12 k q n L) = 0 ∧ kd (bytes12 k q n L) = k ∧ nn (bytes12 k q n L) = n ∧ seqN (bytes12 k q n L) = q ∧
    mm (bytes12 k q n L) = L.length ∧ nums (bytes12 k q n L) 0 L.length = L := by
  have hmb := M12_b k n
  have e : bytes12 k q n L = ([78, 86, k, n] ++ le 4 (u64 q)) ++ (enc8 L ++ le 4 (crcV (body12 k q n L))) := by
    unfold bytes12 body12
    rw [List.append_assoc]
  have ha : ([78, 86, k, n] ++ le 4 (u64 q)).length = 8 := by rw [List.length_append, le_len]; rfl
  have eh : kd (bytes12 k q n L) = k := by rw [e]; rfl
  have ec : nn (bytes12 k q n L) = n := by rw [e]; rfl
  have em : mm (bytes12 k q n L) = L.length := by unfold mm; rw [eh, ec]; omega
  have es : seqN (bytes12 k q n L) = q := by
    rw [e]
    unfold seqN
    rw [List.append_assoc, show ([78, 86, k, n] ++ (le 4 (u64 q) ++ (enc8 L ++ le 4 (crcV (body12 k q n L))))).drop 4 = le 4 (u64 q) ++ (enc8 L ++ le 4 (crcV (body12 k q n L))) from rfl,
      List.take_left' (le_len _ _), val_le, seq_u64 q0 q1]
  have eX : nums (bytes12 k q n L) 0 L.length = L := by
    rw [e, nums_of ha hb 0 L.length (by omega), List.drop_zero, List.take_of_length_le (by omega)]
  refine ⟨?_, eh, ec, es, em, eX⟩
  have hl := bytes12_len k q n L
  have hbl := body12_len k q n L
  unfold why12
  rw [if_neg (by omega), em, if_neg, if_neg (by omega), if_neg (by omega), if_pos]
  · unfold bytes12
    rw [show (body12 k q n L ++ le 4 (crcV (body12 k q n L))).length - 4 = (body12 k q n L).length by rw [List.length_append, le_len]; omega, List.take_left, List.drop_left]
  · rintro (h | h)
    · exact h (by rw [e]; rfl)
    · omega
theorem read12 {k q n : Int} {L : List Int} (hr : R12 k q n L) : why12 (bytes12 k q n L) = 0 ∧ kd (bytes12 k q n L) = k ∧ nn (bytes12 k q n L) = n ∧ seqN (bytes12 k q n L) = q ∧ mm (bytes12 k q n L) = L.length ∧ nums (bytes12 k q n L) 0 L.length = L :=
  bytes_read hr.1 hr.2.1 hr.2.2.1 hr.2.2.2.1 fun x hx => okF_i64 (hr.2.2.2.2 x hx)
theorem take4_of {l : List Int} (h : 4 ≤ l.length) (h2 : [78, 86] = [l.getD 0 0, l.getD 1 0]) : l.take 4 = [78, 86, l.getD 2 0, l.getD 3 0] := by
  match l, h with
  | a :: b :: c :: d :: r, _ =>
    have e1 : (78 : Int) = a := (List.cons.inj h2).1
    have e2 : (86 : Int) = b := (List.cons.inj (List.cons.inj h2).2).1
    rw [e1, e2]
    rfl
theorem read_bytes {l : List Int} (hl : isB l) (h0 : why12 l = 0) : bytes12 (kd l) (seqN l) (nn l) (nums l 0 (mm l)) = l := by
  unfold why12 at h0
  by_cases c0 : l.length < 12
  · rw [if_pos c0] at h0; exact absurd h0 (by decide)
  rw [if_neg c0] at h0
  split at h0
  · exact absurd h0 (by decide)
  rename_i c1
  split at h0
  · exact absurd h0 (by decide)
  split at h0
  · exact absurd h0 (by decide)
  split at h0
  case isFalse => exact absurd h0 (by decide)
  rename_i c2 c3 c4
  have hlen : l.length = 12 + 8 * mm l := by omega
  have d2 : l.take 2 = [78, 86] := Classical.byContradiction fun h => c1 (.inl h)
  have h2 := take2 (l := l) (by omega)
  rw [d2] at h2
  have e4 : l.take 4 = [78, 86, kd l, nn l] := take4_of (by omega) h2
  have hs : isB ((l.drop 4).take 4) := isB_take (isB_drop hl _) _
  have hsl : ((l.drop 4).take 4).length = 4 := by rw [List.length_take, List.length_drop]; omega
  have hv := val_lt _ hs
  rw [hsl] at hv
  have eq4 : le 4 (u64 (seqN l)) = (l.drop 4).take 4 := by
    have hu : u64 (seqN l) = val ((l.drop 4).take 4) := by unfold seqN u64; omega
    rw [hu]
    have := le_val _ hs
    rw [hsl] at this
    exact this
  have hbody : body12 (kd l) (seqN l) (nn l) (nums l 0 (mm l)) = l.take (l.length - 4) := by
    unfold body12
    rw [← e4, eq4, enc8_nums l hl _ 0 (by omega), ← List.take_add, Nat.mul_zero]
    rw [show l.length - 4 = (4 + 4) + 8 * mm l by omega, List.take_add (i := 4 + 4)]
  unfold bytes12
  rw [hbody, c4, List.take_append_drop]
theorem awake12 : go_coupletlaw12_awake = some true := by
  have hr : R12 3 7 1 [1, 2, -3] := by decide
  have hb := read12 hr
  have hB := bytes12_isB (k := 3) (q := 7) (n := 1) (L := [1, 2, -3]) (by decide) (by decide)
  have hl := bytes12_len 3 7 1 [1, 2, -3]
  unfold go_coupletlaw12_awake
  rw [encode_at _ _ hr, Option.bind_some]
  dsimp only
  rcases decode_at false false (bytes12 3 7 1 [1, 2, -3]) hB (by rw [hl]; simp) with ⟨h1, _⟩ | ⟨_, h1⟩
  · exact absurd hb.1 h1
  rw [hb.2.1, hb.2.2.1, hb.2.2.2.1, hb.2.2.2.2.1, hb.2.2.2.2.2] at h1
  rcases h1 with ⟨_, u, v, h1⟩ | ⟨h1, _⟩
  case inr => exact absurd hr h1
  rw [h1, Option.bind_some]
  simp only [beq_self_eq_true, cond_true]
  rw [same_at _ _ _ _ _ _ _ _ _ _ _ _ (by decide), Option.bind_some, many_at, Option.bind_some, fright_at _ _ _ _ _ _ (by decide), Option.bind_some, decide_eq_true hr, hl]
  rfl
end Go.Proofs
