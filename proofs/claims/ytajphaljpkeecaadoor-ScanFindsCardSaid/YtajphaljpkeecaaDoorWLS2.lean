/-
  Frames among bytes: frames that are joined; what the document fixes (plain).
-/
import Derived.Test.YtajphaljpkeecaaDoorWLF2
import Derived.Test.YtajphaljpkeecaaDoorWGC13
set_option linter.unusedSimpArgs false
set_option linter.unusedVariables false
set_option maxRecDepth 100000
namespace Go.Proofs
open Go Go.Fx
def kd (l : List Int) : Int := l.getD 2 0
def nn (l : List Int) : Int := l.getD 3 0
def mm (l : List Int) : Nat := (M12 (kd l) (nn l)).toNat
open Classical in
noncomputable def why12 (l : List Int) : Int :=
  if l.length < 12 then 2
  else if ¬ l.take 2 = [78, 86] ∨ mm l = 0 then 4
  else if l.length < 12 + 8 * mm l then 2
  else if 12 + 8 * mm l < l.length then 5
  else if le 4 (crcV (l.take (l.length - 4))) = l.drop (l.length - 4) then 0 else 6
theorem kd_int {l : List Int} (hl : isB l) : IntKind.wrap .i64 (l.getD 2 0) = kd l := by
  have := isB_getD hl 2
  exact w64 (by omega) (by omega)
theorem nn_int {l : List Int} (hl : isB l) : IntKind.wrap .i64 (l.getD 3 0) = nn l := by
  have := isB_getD hl 3
  exact w64 (by omega) (by omega)
theorem mm_int (l : List Int) : M12 (kd l) (nn l) = (mm l : Int) := by
  have := M12_b (kd l) (nn l)
  unfold mm; omega
theorem mm_le (l : List Int) : mm l ≤ 32 := by
  have := M12_b (kd l) (nn l)
  unfold mm; omega
theorem rwhy_at (b0 b1 : Bool) (l : List Int) (hl : isB l) (hn : l.length ≤ 10000) : go_coupletref12_Why b0 b1 l = some (why12 l) := by
  have hm := mm_le l
  unfold go_coupletref12_Why why12
  by_cases c0 : l.length < 12
  · rw [show decide (((l.length : Nat) : Int) < 12) = true from decide_eq_true (by omega), if_pos c0]; rfl
  rw [show decide (((l.length : Nat) : Int) < 12) = false from decide_eq_false (by omega), cond_false, if_neg c0, kd_int hl, nn_int hl, rmany_at, mm_int]
  rw [show decide (3 < ((l.length : Nat) : Int)) = true from decide_eq_true (by omega), show decide (3 < l.length) = true from decide_eq_true (by omega), show decide (0 < ((l.length : Nat) : Int)) = true from decide_eq_true (by omega), show decide (0 < l.length) = true from decide_eq_true (by omega),
    show decide (1 < ((l.length : Nat) : Int)) = true from decide_eq_true (by omega), show decide (1 < l.length) = true from decide_eq_true (by omega), show decide (2 < ((l.length : Nat) : Int)) = true from decide_eq_true (by omega), show decide (2 < l.length) = true from decide_eq_true (by omega)]
  simp only [cond_true, Option.bind_some]
  have h2 := take2 (l := l) (by omega)
  rw [bne_l, bne_l, ibeq]
  by_cases d0 : l.getD 0 0 = 78
  case neg =>
    rw [decide_eq_false d0, if_pos (.inl (by rw [h2]; exact fun h => d0 (List.cons.inj h).1))]; rfl
  by_cases d1 : l.getD 1 0 = 86
  case neg =>
    rw [decide_eq_true d0, decide_eq_false d1, if_pos (.inl (by rw [h2]; exact fun h => d1 (List.cons.inj (List.cons.inj h).2).1))]; rfl
  have d2 : l.take 2 = [78, 86] := by rw [h2, d0, d1]
  rw [decide_eq_true d0, decide_eq_true d1]
  by_cases d3 : mm l = 0
  · rw [show decide (((mm l : Nat) : Int) = 0) = true from decide_eq_true (by omega), if_pos (.inr d3)]; rfl
  rw [show decide (((mm l : Nat) : Int) = 0) = false from decide_eq_false (by omega), if_neg (fun h => h.elim (fun x => x d2) d3)]
  have e16 : IntKind.wrap .i64 (12 + IntKind.wrap .i64 (8 * ((mm l : Nat) : Int))) = ((12 + 8 * mm l : Nat) : Int) := by
    rw [w64 (a := 8 * ((mm l : Nat) : Int)) (by omega) (by omega), w64 (by omega) (by omega)]; omega
  rw [e16]
  simp only [Bool.not_true, cond_false]
  by_cases d5 : l.length < 12 + 8 * mm l
  · rw [show decide (((l.length : Nat) : Int) < ((12 + 8 * mm l : Nat) : Int)) = true from decide_eq_true (by omega), if_pos d5]; rfl
  rw [show decide (((l.length : Nat) : Int) < ((12 + 8 * mm l : Nat) : Int)) = false from decide_eq_false (by omega), if_neg d5, cond_false]
  by_cases d6 : 12 + 8 * mm l < l.length
  · rw [show decide (((l.length : Nat) : Int) > ((12 + 8 * mm l : Nat) : Int)) = true from decide_eq_true (by omega), if_pos d6]; rfl
  have e4 : IntKind.wrap .i64 (((l.length : Nat) : Int) - 4) = ((l.length - 4 : Nat) : Int) := by rw [w64 (by omega) (by omega)]; omega
  have hB := isB_take hl (l.length - 4)
  have hcr := crcV_lt hB
  obtain ⟨b, c, hq⟩ := rbytes_at (crcV (l.take (l.length - 4))) 4 (by decide) (by omega)
  rw [show decide (((l.length : Nat) : Int) > ((12 + 8 * mm l : Nat) : Int)) = false from decide_eq_false (by omega), if_neg d6, cond_false, e4, show decide ((0 : Int) ≤ ((l.length - 4 : Nat) : Int)) = true from decide_eq_true (by omega), cond_true,
    show decide (((l.length - 4 : Nat) : Int) ≤ ((l.length : Nat) : Int)) = true from decide_eq_true (by omega), cond_true, List.drop_zero, show (((l.length - 4 : Nat) : Int) - 0).toNat = l.length - 4 by omega, ref_sum_at b0 false _ hB (by rw [List.length_take]; omega), Option.bind_some,
    wrap_u64_nat (by omega), show (4 : Int) = ((4 : Nat) : Int) from rfl, hq, Option.bind_some]
  dsimp only
  rw [isB_all (le_isB _ _), cond_true, show decide (((l.length : Nat) : Int) ≤ ((l.length : Nat) : Int)) = true from decide_eq_true (by omega), Int.toNat_natCast, show (((l.length : Nat) : Int) - ((l.length - 4 : Nat) : Int)).toNat = 4 by omega]
  rw [List.take_of_length_le (l := l.drop (l.length - 4)) (by rw [List.length_drop]; omega), isB_all (isB_drop hl _), lst_beq]
  simp only [cond_true]
  by_cases d7 : le 4 (crcV (l.take (l.length - 4))) = l.drop (l.length - 4)
  · rw [decide_eq_true d7, if_pos d7]; rfl
  · rw [decide_eq_false d7, if_neg d7]; rfl
theorem dec_loop (b7 b8 : Bool) (l : List Int) (hl : isB l) (m : Nat) (hm : m ≤ 32) (hn : l.length = 12 + 8 * m) (n12 n13 n14 : Int) (b15 b16 : Bool) (l17 : List Int) (n18 n19 n20 : Int) :
    ∀ (d k : Nat) (u v : Bool) (X : List Int), k + d = m → X.length + d ≤ 100 → ∃ w x,
    iterN (fun x => st_frame_Decode_0 x.1 x.2.1 x.2.2.1 x.2.2.2.1 x.2.2.2.2.1 x.2.2.2.2.2.1 x.2.2.2.2.2.2.1 x.2.2.2.2.2.2.2.1 x.2.2.2.2.2.2.2.2.1 x.2.2.2.2.2.2.2.2.2.1 x.2.2.2.2.2.2.2.2.2.2.1 x.2.2.2.2.2.2.2.2.2.2.2.1 x.2.2.2.2.2.2.2.2.2.2.2.2.1 x.2.2.2.2.2.2.2.2.2.2.2.2.2.1 x.2.2.2.2.2.2.2.2.2.2.2.2.2.2.1 x.2.2.2.2.2.2.2.2.2.2.2.2.2.2.2.1 x.2.2.2.2.2.2.2.2.2.2.2.2.2.2.2.2) (d + 1)
      (b7, b8, l, ((8 + 8 * m : Nat) : Int), ((8 + 8 * k : Nat) : Int), n12, n13, n14, b15, b16, l17, n18, n19, n20, u, v, X) =
      some (n12, n13, n14, b15, b16, l17, n18, n19, n20, w, x, X ++ nums l k d)
  | 0, k, u, v, X, hk, hX => by
    obtain rfl : k = m := by omega
    have e : st_frame_Decode_0 b7 b8 l ((8 + 8 * k : Nat) : Int) ((8 + 8 * k : Nat) : Int) n12 n13 n14 b15 b16 l17 n18 n19 n20 u v X = some (.inr (n12, n13, n14, b15, b16, l17, n18, n19, n20, u, v, X)) := by
      unfold st_frame_Decode_0
      rw [decide_eq_false (Int.lt_irrefl _)]
      rfl
    exact ⟨u, v, by simp only [iterN, e, nums, List.range'_zero, List.map_nil, List.append_nil]⟩
  | d + 1, k, u, v, X, hk, hX => by
    have e1 : IntKind.wrap .i64 (((8 + 8 * k : Nat) : Int) + 8) = ((8 + 8 * (k + 1) : Nat) : Int) := by rw [w64 (by omega) (by omega)]; omega
    have t1 : (((8 + 8 * (k + 1) : Nat) : Int) - ((8 + 8 * k : Nat) : Int)).toNat = 8 := by omega
    have g1 := fget_at b7 false ((l.drop (8 + 8 * k)).take 8) (isB_take (isB_drop hl _) _) (by rw [List.length_take]; omega)
    have e : st_frame_Decode_0 b7 b8 l ((8 + 8 * m : Nat) : Int) ((8 + 8 * k : Nat) : Int) n12 n13 n14 b15 b16 l17 n18 n19 n20 u v X =
        some (.inl (b7, b8, l, ((8 + 8 * m : Nat) : Int), ((8 + 8 * (k + 1) : Nat) : Int), n12, n13, n14, b15, b16, l17, n18, n19, n20, (u && false), false, X ++ [num l k])) := by
      unfold st_frame_Decode_0
      rw [e1, t1, Int.toNat_natCast, g1]
      simp only [Option.bind_some]
      rw [show decide (((8 + 8 * k : Nat) : Int) < ((8 + 8 * m : Nat) : Int)) = true from decide_eq_true (by omega), show decide ((0 : Int) ≤ ((8 + 8 * k : Nat) : Int)) = true from decide_eq_true (by omega), show decide (((8 + 8 * k : Nat) : Int) ≤ ((8 + 8 * (k + 1) : Nat) : Int)) = true from decide_eq_true (by omega),
        show decide (((8 + 8 * (k + 1) : Nat) : Int) ≤ ((l.length : Nat) : Int)) = true from decide_eq_true (by omega), show decide ((X.length + 1) * 8 ≤ 140737488355328) = true from decide_eq_true (by omega), show decide (X.length + 1 ≤ 4611686018427387904) = true from decide_eq_true (by omega)]
      rfl
    obtain ⟨w, x, ih⟩ := dec_loop b7 b8 l hl m hm hn n12 n13 n14 b15 b16 l17 n18 n19 n20 d (k + 1) (u && false) false (X ++ [num l k]) (by omega) (by simp; omega)
    refine ⟨w, x, ?_⟩
    rw [iterN]
    simp only [e]
    rw [ih]
    simp only [nums, List.range'_succ, List.map_cons, List.append_assoc, List.singleton_append]
theorem decode_at (b0 b1 : Bool) (l : List Int) (hl : isB l) (hn : l.length ≤ 10000) : (why12 l ≠ 0 ∧ go_frame_Decode b0 b1 l = some (0, 0, 0, true, true, [], why12 l)) ∨
    (why12 l = 0 ∧ ((R12 (kd l) (seqN l) (nn l) (nums l 0 (mm l)) ∧ ∃ u v, go_frame_Decode b0 b1 l = some (kd l, seqN l, nn l, u, v, nums l 0 (mm l), 0)) ∨
      (¬ R12 (kd l) (seqN l) (nn l) (nums l 0 (mm l)) ∧ go_frame_Decode b0 b1 l = some (0, 0, 0, true, true, [], 3)))) := by
  have hm := mm_le l
  unfold go_frame_Decode why12
  by_cases c0 : l.length < 12
  · rw [show decide (((l.length : Nat) : Int) < 12) = true from decide_eq_true (by omega), if_pos c0]
    exact .inl ⟨by decide, rfl⟩
  have g4 := fget_at b0 false ((l.drop 4).take 4) (isB_take (isB_drop hl _) _) (by rw [List.length_take]; omega)
  rw [w4 (isB_take (isB_drop hl _) _) (by rw [List.length_take]; omega)] at g4
  have g4 : go_frame_get b0 false ((l.drop 4).take 4) = some (seqN l) := g4
  rw [show decide (((l.length : Nat) : Int) < 12) = false from decide_eq_false (by omega), cond_false, if_neg c0, kd_int hl, nn_int hl, many_at, mm_int]
  rw [show decide (2 < ((l.length : Nat) : Int)) = true from decide_eq_true (by omega), show decide (2 < l.length) = true from decide_eq_true (by omega), show decide (8 ≤ ((l.length : Nat) : Int)) = true from decide_eq_true (by omega), g4,
    show decide (3 < ((l.length : Nat) : Int)) = true from decide_eq_true (by omega), show decide (3 < l.length) = true from decide_eq_true (by omega), show decide (2 ≤ ((l.length : Nat) : Int)) = true from decide_eq_true (by omega), List.drop_zero, isB_all (isB_take hl 2), lst_beq]
  simp only [cond_true, Option.bind_some]
  rw [ibeq]
  by_cases d2 : l.take 2 = [78, 86]
  case neg =>
    rw [decide_eq_false d2, if_pos (.inl d2)]
    exact .inl ⟨by decide, rfl⟩
  rw [decide_eq_true d2, Bool.not_true, cond_false]
  by_cases d3 : mm l = 0
  · rw [show decide (((mm l : Nat) : Int) = 0) = true from decide_eq_true (by omega), if_pos (.inr d3)]
    exact .inl ⟨by decide, rfl⟩
  rw [show decide (((mm l : Nat) : Int) = 0) = false from decide_eq_false (by omega), cond_false, if_neg (fun h => h.elim (fun x => x d2) d3)]
  have e16 : IntKind.wrap .i64 (8 + IntKind.wrap .i64 (8 * ((mm l : Nat) : Int))) = ((8 + 8 * mm l : Nat) : Int) := by
    rw [w64 (a := 8 * ((mm l : Nat) : Int)) (by omega) (by omega), w64 (by omega) (by omega)]; omega
  have e12 : IntKind.wrap .i64 (((8 + 8 * mm l : Nat) : Int) + 4) = ((12 + 8 * mm l : Nat) : Int) := by rw [w64 (by omega) (by omega)]; omega
  rw [e16, e12]
  by_cases d5 : l.length < 12 + 8 * mm l
  · rw [show decide (((l.length : Nat) : Int) < ((12 + 8 * mm l : Nat) : Int)) = true from decide_eq_true (by omega), if_pos d5]
    exact .inl ⟨by decide, rfl⟩
  rw [show decide (((l.length : Nat) : Int) < ((12 + 8 * mm l : Nat) : Int)) = false from decide_eq_false (by omega), if_neg d5, cond_false]
  by_cases d6 : 12 + 8 * mm l < l.length
  · rw [show decide (((l.length : Nat) : Int) > ((12 + 8 * mm l : Nat) : Int)) = true from decide_eq_true (by omega), if_pos d6]
    exact .inl ⟨by decide, rfl⟩
  have hlen : l.length = 12 + 8 * mm l := by omega
  have hB := isB_take hl (8 + 8 * mm l)
  have hD4 : (l.drop (8 + 8 * mm l)).length = 4 := by rw [List.length_drop]; omega
  have hcr := crcV_lt hB
  have gd := fget_at b0 b1 (l.drop (8 + 8 * mm l)) (isB_drop hl _) (by omega)
  rw [w4 (isB_drop hl _) (by omega)] at gd
  have hs := sum_at b0 false (l.take (8 + 8 * mm l)) hB (by rw [List.length_take]; omega)
  rw [show decide (((l.length : Nat) : Int) > ((12 + 8 * mm l : Nat) : Int)) = false from decide_eq_false (by omega), if_neg d6, cond_false, show decide ((0 : Int) ≤ ((8 + 8 * mm l : Nat) : Int)) = true from decide_eq_true (by omega),
    show decide (((8 + 8 * mm l : Nat) : Int) ≤ ((l.length : Nat) : Int)) = true from decide_eq_true (by omega), show decide (((l.length : Nat) : Int) ≤ ((l.length : Nat) : Int)) = true from decide_eq_true (by omega), Int.toNat_natCast,
    show (((l.length : Nat) : Int) - ((8 + 8 * mm l : Nat) : Int)).toNat = 4 by omega, List.take_of_length_le (l := l.drop (8 + 8 * mm l)) (by omega), gd, show (((8 + 8 * mm l : Nat) : Int) - 0).toNat = 8 + 8 * mm l by omega, hs]
  simp only [cond_true, Option.bind_some]
  rw [w64 (a := ((crcV (l.take (8 + 8 * mm l)) : Nat) : Int)) (by omega) (by omega), bne_l]
  have hiff : ((val (l.drop (8 + 8 * mm l)) : Nat) : Int) = ((crcV (l.take (8 + 8 * mm l)) : Nat) : Int) ↔ le 4 (crcV (l.take (l.length - 4))) = l.drop (l.length - 4) := by
    rw [show l.length - 4 = 8 + 8 * mm l by omega]
    constructor
    · intro h
      refine val_inj (le_isB _ _) (isB_drop hl _) (by rw [le_len, hD4]) ?_
      rw [val_le]
      omega
    · intro h
      rw [← h, val_le]
      omega
  by_cases d7 : ((val (l.drop (8 + 8 * mm l)) : Nat) : Int) = ((crcV (l.take (8 + 8 * mm l)) : Nat) : Int)
  case neg =>
    rw [decide_eq_false d7, if_neg (mt hiff.2 d7)]
    exact .inl ⟨by decide, rfl⟩
  rw [decide_eq_true d7, if_pos (hiff.1 d7), Bool.not_true, cond_false]
  refine .inr ⟨rfl, ?_⟩
  obtain ⟨w, x, hL⟩ := dec_loop b0 b1 l hl (mm l) (by omega) hlen 0 0 0 true true [] (kd l) (seqN l) (nn l) (mm l) 0 true true [] (by omega) (by simp; omega)
  rw [List.nil_append, show ((8 + 8 * 0 : Nat) : Int) = 8 from rfl] at hL
  unfold lp_frame_Decode_0
  rw [loopN_of (mm l + 1) (by omega) hL, Option.bind_some]
  dsimp only
  rw [fright_at _ _ _ _ _ _ (by simp [nums]; omega), Option.bind_some]
  by_cases hR : R12 (kd l) (seqN l) (nn l) (nums l 0 (mm l))
  · rw [decide_eq_true hR]
    exact .inl ⟨hR, w, x, rfl⟩
  · rw [decide_eq_false hR]
    exact .inr ⟨hR, rfl⟩
theorem bytes_read {k q n : Int} {L : List Int} (hM : 0 < M12 k n) (hL : (L.length : Int) = M12 k n) (q0 : 0 ≤ q) (q1 : q ≤ 4294967295) (hb : ∀ x ∈ L, i64b x) : why12 (bytes12 k q n L) = 0 ∧ kd (bytes12 k q n L) = k ∧ nn (bytes12 k q n L) = n ∧ seqN (bytes12 k q n L) = q ∧
    mm (bytes12 k q n L) = L.length ∧ nums (bytes12 k q n L) 0 L.length = L := by
  have hmb := M12_b k n
  have e : bytes12 k q n L = ([78, 86, k, n] ++ le 4 (u64 q)) ++ (enc8 L ++ le 4 (crcV (body12 k q n L))) := by
    unfold bytes12 body12
    rw [List.append_assoc]
  have ha : ([78, 86, k, n] ++ le 4 (u64 q)).length = 8 := by rw [List.length_append, le_len]; rfl
  have eh : kd (bytes12 k q n L) = k := by rw [e]; rfl
  have ec : nn (bytes12 k q n L) = n := by rw [e]; rfl
  have em : mm (bytes12 k q n L) = L.length := by unfold mm; rw [eh, ec]; omega
  have es : seqN (bytes12 k q n L) = q := by
    rw [e]
    unfold seqN
    rw [List.append_assoc, show ([78, 86, k, n] ++ (le 4 (u64 q) ++ (enc8 L ++ le 4 (crcV (body12 k q n L))))).drop 4 = le 4 (u64 q) ++ (enc8 L ++ le 4 (crcV (body12 k q n L))) from rfl,
      List.take_left' (le_len _ _), val_le, seq_u64 q0 q1]
  have eX : nums (bytes12 k q n L) 0 L.length = L := by
    rw [e, nums_of ha hb 0 L.length (by omega), List.drop_zero, List.take_of_length_le (by omega)]
  refine ⟨?_, eh, ec, es, em, eX⟩
  have hl := bytes12_len k q n L
  have hbl := body12_len k q n L
  unfold why12
  rw [if_neg (by omega), em, if_neg, if_neg (by omega), if_neg (by omega), if_pos]
  · unfold bytes12
    rw [show (body12 k q n L ++ le 4 (crcV (body12 k q n L))).length - 4 = (body12 k q n L).length by rw [List.length_append, le_len]; omega, List.take_left, List.drop_left]
  · rintro (h | h)
    · exact h (by rw [e]; rfl)
    · omega
theorem read12 {k q n : Int} {L : List Int} (hr : R12 k q n L) : why12 (bytes12 k q n L) = 0 ∧ kd (bytes12 k q n L) = k ∧ nn (bytes12 k q n L) = n ∧ seqN (bytes12 k q n L) = q ∧ mm (bytes12 k q n L) = L.length ∧ nums (bytes12 k q n L) 0 L.length = L :=
  bytes_read hr.1 hr.2.1 hr.2.2.1 hr.2.2.2.1 fun x hx => okF_i64 (hr.2.2.2.2 x hx)
theorem take4_of {l : List Int} (h : 4 ≤ l.length) (h2 : [78, 86] = [l.getD 0 0, l.getD 1 0]) : l.take 4 = [78, 86, l.getD 2 0, l.getD 3 0] := by
  match l, h with
  | a :: b :: c :: d :: r, _ =>
    have e1 : (78 : Int) = a := (List.cons.inj h2).1
    have e2 : (86 : Int) = b := (List.cons.inj (List.cons.inj h2).2).1
    rw [e1, e2]
    rfl
theorem read_bytes {l : List Int} (hl : isB l) (h0 : why12 l = 0) : bytes12 (kd l) (seqN l) (nn l) (nums l 0 (mm l)) = l := by
  unfold why12 at h0
  by_cases c0 : l.length < 12
  · rw [if_pos c0] at h0; exact absurd h0 (by decide)
  rw [if_neg c0] at h0
  split at h0
  · exact absurd h0 (by decide)
  rename_i c1
  split at h0
  · exact absurd h0 (by decide)
  split at h0
  · exact absurd h0 (by decide)
  split at h0
  case isFalse => exact absurd h0 (by decide)
  rename_i c2 c3 c4
  have hlen : l.length = 12 + 8 * mm l := by omega
  have d2 : l.take 2 = [78, 86] := Classical.byContradiction fun h => c1 (.inl h)
  have h2 := take2 (l := l) (by omega)
  rw [d2] at h2
  have e4 : l.take 4 = [78, 86, kd l, nn l] := take4_of (by omega) h2
  have hs : isB ((l.drop 4).take 4) := isB_take (isB_drop hl _) _
  have hsl : ((l.drop 4).take 4).length = 4 := by rw [List.length_take, List.length_drop]; omega
  have hv := val_lt _ hs
  rw [hsl] at hv
  have eq4 : le 4 (u64 (seqN l)) = (l.drop 4).take 4 := by
    have hu : u64 (seqN l) = val ((l.drop 4).take 4) := by unfold seqN u64; omega
    rw [hu]
    have := le_val _ hs
    rw [hsl] at this
    exact this
  have hbody : body12 (kd l) (seqN l) (nn l) (nums l 0 (mm l)) = l.take (l.length - 4) := by
    unfold body12
    rw [← e4, eq4, enc8_nums l hl _ 0 (by omega), ← List.take_add, Nat.mul_zero]
    rw [show l.length - 4 = (4 + 4) + 8 * mm l by omega, List.take_add (i := 4 + 4)]
  unfold bytes12
  rw [hbody, c4, List.take_append_drop]
end Go.Proofs
set_option linter.unusedSimpArgs false
set_option linter.unusedVariables false
set_option maxRecDepth 100000
namespace Go.Proofs
open Go Go.Fx
theorem encode_not' {k q n : Int} {L : List Int} (b3 b4 : Bool) (hr : ¬ R12 k q n L) : go_new_frame_Encode k q n b3 b4 L = some (true, true, [], 1) := by
  have hb := M12_b k n
  by_cases c2 : (L.length : Int) = M12 k n
  · exact encode_not b3 b4 (by omega) hr
  · unfold go_new_frame_Encode go_frame_Right
    rw [many_at, Option.bind_some, ibeq, decide_eq_false c2]
    cases decide (M12 k n > 0) <;> rfl
theorem R12_b {k q n : Int} {L : List Int} (hr : R12 k q n L) : (0 ≤ k ∧ k < 256) ∧ (0 ≤ n ∧ n < 256) ∧ L.length ≤ 32 := by
  have h1 := hr.1
  have h2 := hr.2.1
  have h3 := M12_b k n
  have := M12_pos (k := k) (n := n) (by omega)
  omega
end Go.Proofs
set_option linter.unusedSimpArgs false
set_option linter.unusedVariables false
set_option maxRecDepth 100000
namespace Go.Proofs
open Go Go.Fx
end Go.Proofs
set_option linter.unusedSimpArgs false
set_option linter.unusedVariables false
set_option maxRecDepth 100000
namespace Go.Proofs
open Go Go.Fx
abbrev Fr := Int × Int × Int × Bool × Bool × List Int
def frP (r : Fr) : PV := .agg [.int .i64 r.1, .int .i64 r.2.1, .int .i64 r.2.2.1, .isl r.2.2.2.1 r.2.2.2.2.1 .i64 r.2.2.2.2.2]
open Classical in
noncomputable def sizeV (l : List Int) : Nat := if l.length < 4 ∨ ¬ l.take 2 = [78, 86] ∨ mm l = 0 then 0 else 12 + 8 * mm l
theorem sizeV_le (l : List Int) : sizeV l ≤ 300 := by
  have := mm_le l
  unfold sizeV
  split <;> omega
theorem size_at (b0 b1 : Bool) (l : List Int) (hl : isB l) : go_scan_Size b0 b1 l = some ((sizeV l : Nat) : Int) := by
  have hm := mm_le l
  unfold go_scan_Size sizeV
  by_cases c0 : l.length < 4
  · rw [show decide (((l.length : Nat) : Int) < 4) = true from decide_eq_true (by omega), if_pos (.inl c0)]; rfl
  rw [show decide (((l.length : Nat) : Int) < 4) = false from decide_eq_false (by omega), cond_false, show decide (2 ≤ ((l.length : Nat) : Int)) = true from decide_eq_true (by omega), cond_true, List.drop_zero, isB_all (isB_take hl 2), cond_true, lst_beq]
  by_cases c1 : l.take 2 = [78, 86]
  case neg => rw [decide_eq_false c1, if_pos (.inr (.inl c1))]; rfl
  rw [decide_eq_true c1, Bool.not_true, cond_false, kd_int hl, nn_int hl, many_at, mm_int,
    show decide (2 < ((l.length : Nat) : Int)) = true from decide_eq_true (by omega), show decide (2 < l.length) = true from decide_eq_true (by omega), show decide (3 < ((l.length : Nat) : Int)) = true from decide_eq_true (by omega), show decide (3 < l.length) = true from decide_eq_true (by omega)]
  simp only [cond_true, Option.bind_some]
  rw [ibeq]
  by_cases c2 : mm l = 0
  · rw [show decide (((mm l : Nat) : Int) = 0) = true from decide_eq_true (by omega), if_pos (.inr (.inr c2))]; rfl
  rw [show decide (((mm l : Nat) : Int) = 0) = false from decide_eq_false (by omega), if_neg (fun h => h.elim c0 fun h => h.elim (fun h => h c1) c2), cond_false, w64 (a := 8 * ((mm l : Nat) : Int)) (by omega) (by omega), w64 (by omega) (by omega)]
  congr 1
def good (d : List Int) : Prop := why12 d = 0 ∧ R12 (kd d) (seqN d) (nn d) (nums d 0 (mm d))
noncomputable def fr (d : List Int) : Fr := match go_frame_Decode false true d with
  | some r => (r.1, r.2.1, r.2.2.1, r.2.2.2.1, r.2.2.2.2.1, r.2.2.2.2.2.1)
  | none => (0, 0, 0, true, true, [])
theorem dec_good {d : List Int} (hd : isB d) (hn : d.length ≤ 10000) (h : good d) : ∃ u v, go_frame_Decode false true d = some (kd d, seqN d, nn d, u, v, nums d 0 (mm d), 0) ∧ fr d = (kd d, seqN d, nn d, u, v, nums d 0 (mm d)) := by
  rcases decode_at false true d hd hn with ⟨h1, _⟩ | ⟨_, ⟨_, u, v, h1⟩ | ⟨h1, _⟩⟩
  · exact absurd h.1 h1
  · exact ⟨u, v, h1, by unfold fr; rw [h1]⟩
  · exact absurd h.2 h1
theorem dec_bad {d : List Int} (hd : isB d) (hn : d.length ≤ 10000) (h : ¬ good d) : ∃ r, go_frame_Decode false true d = some r ∧ r.2.2.2.2.2.2 ≠ 0 := by
  rcases decode_at false true d hd hn with ⟨h1, h2⟩ | ⟨h0, ⟨h2, _⟩ | ⟨_, h2⟩⟩
  · exact ⟨_, h2, h1⟩
  · exact absurd ⟨h0, h2⟩ h
  · exact ⟨_, h2, by decide⟩
def heads (s : List Int) : Prop := 0 < sizeV s ∧ sizeV s ≤ s.length ∧ good (s.take (sizeV s))
open Classical in
noncomputable def its (p : Nat) (s : List Int) : List (Nat × Fr) :=
  if h0 : s = [] then [] else if h : heads s then (p, fr (s.take (sizeV s))) :: its (p + sizeV s) (s.drop (sizeV s)) else its (p + 1) (s.drop 1)
termination_by s.length
decreasing_by
  · have := List.length_pos_iff.2 h0
    have := h.1
    rw [List.length_drop]; omega
  · have := List.length_pos_iff.2 h0
    rw [List.length_drop]; omega
open Classical in
noncomputable def lost (s : List Int) : Nat :=
  if h0 : s = [] then 0 else if h : heads s then lost (s.drop (sizeV s)) else 1 + lost (s.drop 1)
termination_by s.length
decreasing_by
  · have := List.length_pos_iff.2 h0
    have := h.1
    rw [List.length_drop]; omega
  · have := List.length_pos_iff.2 h0
    rw [List.length_drop]; omega
theorem its_nil (p : Nat) : its p [] = [] := by rw [its]; exact dif_pos rfl
theorem its_head {s : List Int} (h : heads s) (p : Nat) : its p s = (p, fr (s.take (sizeV s))) :: its (p + sizeV s) (s.drop (sizeV s)) := by
  have h0 : s ≠ [] := fun e => by subst e; have := h.1; have := h.2.1; simp at this; omega
  rw [its, dif_neg h0, dif_pos h]
theorem its_skip {c : Int} {s : List Int} (h : ¬ heads (c :: s)) (p : Nat) : its p (c :: s) = its (p + 1) s := by
  rw [its, dif_neg (by simp), dif_neg h]; rfl
theorem lost_nil : lost [] = 0 := by rw [lost]; exact dif_pos rfl
theorem lost_head {s : List Int} (h : heads s) : lost s = lost (s.drop (sizeV s)) := by
  have h0 : s ≠ [] := fun e => by subst e; have := h.1; have := h.2.1; simp at this; omega
  rw [lost, dif_neg h0, dif_pos h]
theorem lost_skip {c : Int} {s : List Int} (h : ¬ heads (c :: s)) : lost (c :: s) = 1 + lost s := by
  rw [lost, dif_neg (by simp), dif_neg h]; rfl
theorem its_ind {M : List Int → Prop} (h0 : M []) (h1 : ∀ s, heads s → M (s.drop (sizeV s)) → M s) (h2 : ∀ c s, ¬ heads (c :: s) → M s → M (c :: s)) : ∀ (n : Nat) (s : List Int), s.length ≤ n → M s
  | 0, s, hs => by
    obtain rfl : s = [] := List.eq_nil_of_length_eq_zero (by omega)
    exact h0
  | n + 1, [], _ => h0
  | n + 1, c :: s, hs => by
    by_cases h : heads (c :: s)
    · refine h1 _ h (its_ind h0 h1 h2 n _ ?_)
      have := h.1
      rw [List.length_drop]
      simp only [List.length_cons] at hs ⊢
      omega
    · exact h2 c s h (its_ind h0 h1 h2 n s (by simpa using hs))
theorem lost_le (s : List Int) : lost s ≤ s.length := by
  refine its_ind (M := fun s => lost s ≤ s.length) (by rw [lost_nil]; exact Nat.zero_le _) (fun s h ih => ?_) (fun c s h ih => ?_) s.length s (Nat.le_refl _)
  · rw [lost_head h]; rw [List.length_drop] at ih; omega
  · rw [lost_skip h, List.length_cons]; omega
def conv (q : Nat × Fr) : FrIt := ((q.1 : Int), q.2)
theorem frames_its (l : List Int) (hl : isB l) (hn : l.length ≤ 10000) : ∀ (f p : Nat), p ≤ l.length → l.length - p < f → framesGo (fun l => go_scan_Size false false l) (fun l => go_frame_Decode false true l) l f p = some ((its p (l.drop p)).map conv) ∧
    framesGo (fun l => go_scan_Size false true l) (fun l => go_frame_Decode false true l) l f p = some ((its p (l.drop p)).map conv)
  | 0, p, _, h => by omega
  | f + 1, p, hp, h => by
    rcases Nat.lt_or_ge p l.length with hlt | hge
    · have hs := isB_drop hl p
      have hlen : (l.drop p).length = l.length - p := List.length_drop
      have hsz := sizeV_le (l.drop p)
      have hd := isB_take hs (sizeV (l.drop p))
      have step : ∀ ex : Bool, (∀ p', p < p' → p' ≤ l.length → framesGo (fun l => go_scan_Size false ex l) (fun l => go_frame_Decode false true l) l f p' = some ((its p' (l.drop p')).map conv)) →
          framesGo (fun l => go_scan_Size false ex l) (fun l => go_frame_Decode false true l) l (f + 1) p = some ((its p (l.drop p)).map conv) := fun ex ih => by
        have e0 : l.drop p = l[p] :: l.drop (p + 1) := List.drop_eq_getElem_cons hlt
        have key : ¬ heads (l.drop p) → framesGo (fun l => go_scan_Size false ex l) (fun l => go_frame_Decode false true l) l f (p + 1) = some ((its p (l.drop p)).map conv) := fun hh => by
          rw [ih (p + 1) (by omega) (by omega)]
          rw [e0] at hh ⊢
          rw [its_skip hh]
        rw [framesGo, if_pos hlt]
        rw [size_at false ex _ hs]
        dsimp only
        by_cases c1 : ((sizeV (l.drop p) : Nat) : Int) = 0 ∨ ((sizeV (l.drop p) : Nat) : Int) > ((l.length - p : Nat) : Int)
        · rw [if_pos c1]
          exact key fun hh => by
            have := hh.1
            have := hh.2.1
            omega
        rw [if_neg c1, if_neg (by omega), Int.toNat_natCast]
        by_cases hg : good ((l.drop p).take (sizeV (l.drop p)))
        · have hh : heads (l.drop p) := ⟨by omega, by omega, hg⟩
          obtain ⟨u, v, e1, e2⟩ := dec_good hd (by rw [List.length_take]; omega) hg
          rw [e1]
          dsimp only
          rw [if_neg (fun h => h rfl), ih (p + sizeV (l.drop p)) (by omega) (by omega), Option.map_some, its_head hh, List.map_cons, List.drop_drop, e2]
          rfl
        · obtain ⟨r, e1, e2⟩ := dec_bad hd (by rw [List.length_take]; omega) hg
          rw [e1]
          dsimp only
          rw [if_pos e2]
          exact key fun hh => hg hh.2.2
      exact ⟨step false fun p' h1 h2 => (frames_its l hl hn f p' h2 (by omega)).1, step true fun p' h1 h2 => (frames_its l hl hn f p' h2 (by omega)).2⟩
    · have e : l.drop p = [] := List.drop_eq_nil_of_le hge
      rw [framesGo, framesGo, if_neg (by omega), if_neg (by omega), e, its_nil]
      exact ⟨rfl, rfl⟩
theorem it_frames_at (nil ex : Bool) (l : List Int) (hl : isB l) (hn : l.length ≤ 10000) : it_frames nil ex l = some ((its 0 l).map conv) := by
  have h := frames_its l hl hn (l.length + 1) 0 (Nat.zero_le _) (by omega)
  rw [List.drop_zero] at h
  unfold it_frames
  rw [if_pos (by omega)]
  cases ex
  · exact h.1
  · exact h.2
theorem all_fold (b4 b5 b7 b8 : Bool) (l : List Int) (hl : isB l) (hn : l.length ≤ 10000) : ∀ (f p : Nat) (n : Int) (u v : Bool) (es : List PV), p ≤ l.length → l.length - p < f → es.length + (l.length - p) ≤ 20000 → 0 ≤ n → n ≤ 100000 → ((l.length - p : Nat) : Int) ≤ n →
    foldS (X := (Bool × Bool × List Int × Bool × Bool × List Int × Int × Bool × Bool × List PV)) (Y := Unit) (fun x i => st_scan_All_0 x.1 x.2.1 x.2.2.1 x.2.2.2.1 x.2.2.2.2.1 x.2.2.2.2.2.1 x.2.2.2.2.2.2.1 x.2.2.2.2.2.2.2.1 x.2.2.2.2.2.2.2.2.1 x.2.2.2.2.2.2.2.2.2 i) ((its p (l.drop p)).map conv) (b4, b5, l, b7, b8, l, n, u, v, es) =
      some (.inl (b4, b5, l, b7, b8, l, n - ((l.length - p : Nat) : Int) + ((lost (l.drop p) : Nat) : Int), (u && (its p (l.drop p)).isEmpty), (v && (its p (l.drop p)).isEmpty), es ++ (its p (l.drop p)).map fun q => frP q.2))
  | 0, p, n, u, v, es, _, h, _, _, _, _ => by omega
  | f + 1, p, n, u, v, es, hp, h, he, n0, n1, hpn => by
    rcases Nat.lt_or_ge p l.length with hlt | hge
    · have e0 : l.drop p = l[p] :: l.drop (p + 1) := List.drop_eq_getElem_cons hlt
      by_cases hh : heads (l.drop p)
      · have hs1 := hh.1
        have hs2 := hh.2.1
        rw [List.length_drop] at hs2
        have hst : st_scan_All_0 b4 b5 l b7 b8 l n u v es (conv (p, fr ((l.drop p).take (sizeV (l.drop p))))) = some (.inl (b4, b5, l, b7, b8, l, n - ((sizeV (l.drop p) : Nat) : Int), (u && false), false, es ++ [frP (fr ((l.drop p).take (sizeV (l.drop p))))])) := by
          unfold st_scan_All_0 conv
          dsimp only
          rw [show ((((l.length : Nat) : Int) - ((p : Nat) : Int)).toNat) = l.length - p by omega, Int.toNat_natCast, show List.take (l.length - p) (l.drop p) = l.drop p from List.take_of_length_le (by rw [List.length_drop]; exact Nat.le_refl _), size_at b7 b8 _ (isB_drop hl p), Option.bind_some,
            decide_eq_true (by omega), decide_eq_true (by omega), decide_eq_true (by omega), decide_eq_true (by omega), decide_eq_true (by omega), w64 (by omega) (by omega)]
          rfl
        rw [its_head hh, lost_head hh, List.map_cons, foldS]
        dsimp only
        rw [hst]
        dsimp only
        have ih := all_fold b4 b5 b7 b8 l hl hn f (p + sizeV (l.drop p)) (n - ((sizeV (l.drop p) : Nat) : Int)) (u && false) false (es ++ [frP (fr ((l.drop p).take (sizeV (l.drop p))))]) (by omega) (by omega) (by rw [List.length_append]; simp; omega) (by omega) (by omega) (by omega)
        rw [List.drop_drop, ih, List.map_cons, List.append_assoc]
        simp only [Bool.and_false, Bool.false_and, List.isEmpty_cons, List.singleton_append]
        rw [show n - ((sizeV (l.drop p) : Nat) : Int) - ((l.length - (p + sizeV (l.drop p)) : Nat) : Int) = n - ((l.length - p : Nat) : Int) by omega]
      · have ih := all_fold b4 b5 b7 b8 l hl hn f (p + 1) n u v es (by omega) (by omega) (by omega) n0 n1 (by omega)
        rw [e0] at hh ⊢
        rw [its_skip hh, lost_skip hh, ih, show n - ((l.length - p : Nat) : Int) + ((1 + lost (l.drop (p + 1)) : Nat) : Int) = n - ((l.length - (p + 1) : Nat) : Int) + ((lost (l.drop (p + 1)) : Nat) : Int) by omega]
    · have e : l.drop p = [] := List.drop_eq_nil_of_le hge
      rw [e, its_nil, lost_nil]
      simp only [List.map_nil, foldS, List.isEmpty_nil, Bool.and_true, List.append_nil]
      rw [show n - ((l.length - p : Nat) : Int) + ((0 : Nat) : Int) = n by omega]
theorem all_at (b0 b1 : Bool) (l : List Int) (hl : isB l) (hn : l.length ≤ 10000) : go_scan_All b0 b1 l = some ((its 0 l).isEmpty, (its 0 l).isEmpty, (its 0 l).map (fun q => frP q.2), ((lost l : Nat) : Int)) := by
  have h := all_fold b0 b1 b0 b1 l hl hn (l.length + 1) 0 (l.length : Int) true true [] (Nat.zero_le _) (by omega) (by simp; omega) (by omega) (by omega) (by omega)
  rw [List.drop_zero] at h
  unfold go_scan_All go_scan_Frames lp_scan_All_0 it_scan_All_0
  rw [Option.bind_some]
  dsimp only
  rw [it_frames_at b0 b1 l hl hn, Option.bind_some, h, Option.bind_some]
  simp only [Sum.elim_inl, Bool.true_and, List.nil_append]
  rw [show ((l.length : Nat) : Int) - ((l.length - 0 : Nat) : Int) + ((lost l : Nat) : Int) = ((lost l : Nat) : Int) by omega]
end Go.Proofs
set_option linter.unusedSimpArgs false
set_option linter.unusedVariables false
set_option maxRecDepth 100000
namespace Go.Proofs
open Go Go.Fx
theorem getD_app {l m : List Int} {i : Nat} (h : i < l.length) : (l ++ m).getD i 0 = l.getD i 0 := by
  rw [List.getD_eq_getElem?_getD, List.getD_eq_getElem?_getD, List.getElem?_append_left h]
theorem no_head {c : Int} {s : List Int} (h : c ≠ 78) : ¬ heads (c :: s) := fun hh => by
  have h1 := hh.1
  unfold sizeV at h1
  rw [if_pos] at h1
  · omega
  · refine .inr (.inl fun e => ?_)
    cases s with
    | nil => cases e
    | cons a s => exact h (List.cons.inj e).1
theorem no_many {s : List Int} (h : mm s = 0) : ¬ heads s := fun hh => by
  have h1 := hh.1
  unfold sizeV at h1
  rw [if_pos (.inr (.inr h))] at h1
  omega
theorem size_bytes {k q n : Int} {L : List Int} (hr : R12 k q n L) (t : List Int) : sizeV (bytes12 k q n L ++ t) = (bytes12 k q n L).length := by
  have hb := read12 hr
  have hl := bytes12_len k q n L
  have h1 := hr.1
  have h2 := hr.2.1
  have ek : kd (bytes12 k q n L ++ t) = kd (bytes12 k q n L) := getD_app (by omega)
  have en : nn (bytes12 k q n L ++ t) = nn (bytes12 k q n L) := getD_app (by omega)
  have em : mm (bytes12 k q n L ++ t) = L.length := by
    rw [← hb.2.2.2.2.1]; unfold mm; rw [ek, en]
  unfold sizeV
  rw [em, if_neg, hl]
  rintro (h | h | h)
  · rw [List.length_append] at h; omega
  · exact h rfl
  · omega
theorem good_bytes {k q n : Int} {L : List Int} (hr : R12 k q n L) : good (bytes12 k q n L) := by
  obtain ⟨h1, h2, h3, h4, h5, h6⟩ := read12 hr
  exact ⟨h1, by rw [h2, h3, h4, h5, h6]; exact hr⟩
theorem heads_bytes {k q n : Int} {L : List Int} (hr : R12 k q n L) (t : List Int) : heads (bytes12 k q n L ++ t) := by
  have hl := bytes12_len k q n L
  have hs := size_bytes hr t
  refine ⟨by omega, by rw [hs, List.length_append]; omega, ?_⟩
  rw [hs, List.take_left]
  exact good_bytes hr
theorem fr_bytes {k q n : Int} {L : List Int} (hr : R12 k q n L) : ∃ u v, fr (bytes12 k q n L) = (k, q, n, u, v, L) := by
  obtain ⟨k1, k2, k3⟩ := R12_b hr
  obtain ⟨u, v, _, h⟩ := dec_good (bytes12_isB (q := q) (L := L) k1 k2) (by rw [bytes12_len]; omega) (good_bytes hr)
  obtain ⟨h1, h2, h3, h4, h5, h6⟩ := read12 hr
  rw [h2, h3, h4, h5, h6] at h
  exact ⟨u, v, h⟩
theorem its_bytes {k q n : Int} {L : List Int} (hr : R12 k q n L) (t : List Int) (p : Nat) : ∃ u v, its p (bytes12 k q n L ++ t) = (p, (k, q, n, u, v, L)) :: its (p + (bytes12 k q n L).length) t := by
  obtain ⟨u, v, h⟩ := fr_bytes hr
  refine ⟨u, v, ?_⟩
  rw [its_head (heads_bytes hr t), size_bytes hr t, List.take_left, List.drop_left, h]
theorem lost_bytes {k q n : Int} {L : List Int} (hr : R12 k q n L) (t : List Int) : lost (bytes12 k q n L ++ t) = lost t := by
  rw [lost_head (heads_bytes hr t), size_bytes hr t, List.drop_left]
def RF (f : Fr) : Prop := R12 f.1 f.2.1 f.2.2.1 f.2.2.2.2.2
instance (f : Fr) : Decidable (RF f) := by unfold RF; infer_instance
def bytesF (f : Fr) : List Int := bytes12 f.1 f.2.1 f.2.2.1 f.2.2.2.2.2
def joinB (fs : List Fr) : List Int := fs.flatMap bytesF
theorem bytesF_len {f : Fr} (h : RF f) : 12 < (bytesF f).length ∧ (bytesF f).length ≤ 268 := by
  have := R12_b h
  have h1 := h.1
  have h2 := h.2.1
  unfold bytesF
  rw [bytes12_len]; omega
theorem bytesF_isB {f : Fr} (h : RF f) : isB (bytesF f) := by
  obtain ⟨k1, k2, k3⟩ := R12_b h
  exact bytes12_isB k1 k2
theorem getD_frP {fs : List Fr} {i : Nat} (h : i < fs.length) : (fs.map frP).getD i .nilSl = frP fs[i] := by
  rw [List.getD_eq_getElem?_getD, List.getElem?_map, List.getElem?_eq_getElem h]; rfl
theorem fl (f : Fr) : decide (List.length (PV.cells (frP f)) = 4) = true := rfl
theorem fo (f : Fr) : Shp.ok (.agg [(.int .i64), (.int .i64), (.int .i64), (.isl .i64)]) (.agg (PV.cells (frP f))) = true := rfl
theorem p1 (f : Fr) : PV.num (List.headD (PV.subs (.agg (PV.cells (frP f)))) .nilSl) = f.1 := rfl
theorem p2 (f : Fr) : PV.num (List.headD (List.tail (PV.subs (.agg (PV.cells (frP f))))) .nilSl) = f.2.1 := rfl
theorem p3 (f : Fr) : PV.num (List.headD (List.tail (List.tail (PV.subs (.agg (PV.cells (frP f)))))) .nilSl) = f.2.2.1 := rfl
theorem p4 (f : Fr) : PV.nl (List.headD (List.tail (List.tail (List.tail (PV.subs (.agg (PV.cells (frP f))))))) .nilSl) = f.2.2.2.1 := rfl
theorem p5 (f : Fr) : PV.ex (List.headD (List.tail (List.tail (List.tail (PV.subs (.agg (PV.cells (frP f))))))) .nilSl) = f.2.2.2.2.1 := rfl
theorem p6 (f : Fr) : PV.ints (List.headD (List.tail (List.tail (List.tail (PV.subs (.agg (PV.cells (frP f))))))) .nilSl) = f.2.2.2.2.2 := rfl
theorem join_loop (b3 b4 : Bool) (fs : List Fr) (hn : fs.length ≤ 100) : ∀ (d j : Nat) (u v : Bool) (acc : List Int), j + d = fs.length → acc.length + 300 * d ≤ 100000 →
    ((∀ f ∈ fs.drop j, RF f) → ∃ u' v', iterN (fun x => st_new_scan_Join_0 x.1 x.2.1 x.2.2.1 x.2.2.2.1 x.2.2.2.2.1 x.2.2.2.2.2.1 x.2.2.2.2.2.2.1 x.2.2.2.2.2.2.2) (d + 1) (b3, b4, fs.map frP, (fs.length : Int), (j : Int), u, v, acc) = some (.inl (u', v', acc ++ joinB (fs.drop j)))) ∧
    ((¬ ∀ f ∈ fs.drop j, RF f) → iterN (fun x => st_new_scan_Join_0 x.1 x.2.1 x.2.2.1 x.2.2.2.1 x.2.2.2.2.1 x.2.2.2.2.2.1 x.2.2.2.2.2.2.1 x.2.2.2.2.2.2.2) (d + 1) (b3, b4, fs.map frP, (fs.length : Int), (j : Int), u, v, acc) = some (.inr (true, true, [], 1)))
  | 0, j, u, v, acc, hj, hb => by
    obtain rfl : j = fs.length := by omega
    have e : st_new_scan_Join_0 b3 b4 (fs.map frP) (fs.length : Int) (fs.length : Int) u v acc = some (.inr (.inl (u, v, acc))) := by
      unfold st_new_scan_Join_0
      rw [decide_eq_false (Int.lt_irrefl _)]
      rfl
    simp only [iterN, e]
    rw [List.drop_length]
    exact ⟨fun _ => ⟨u, v, by simp [joinB]⟩, fun h => absurd (fun f hf => by cases hf) h⟩
  | d + 1, j, u, v, acc, hj, hb => by
    have hlt : j < fs.length := by omega
    have e : st_new_scan_Join_0 b3 b4 (fs.map frP) (fs.length : Int) (j : Int) u v acc = if RF fs[j] then some (.inl (b3, b4, fs.map frP, (fs.length : Int), ((j + 1 : Nat) : Int), (u && (bytesF fs[j]).isEmpty), false, acc ++ bytesF fs[j])) else some (.inr (.inr (true, true, [], 1))) := by
      unfold st_new_scan_Join_0
      rw [Int.toNat_natCast, getD_frP hlt, List.length_map]
      simp only [fl, fo, p1, p2, p3, p4, p5, p6]
      rw [decide_eq_true (show (j : Int) < ((fs.length : Nat) : Int) by omega), decide_eq_true (show (0 : Int) ≤ (j : Int) by omega), decide_eq_true hlt]
      simp only [cond_true]
      by_cases hr : RF fs[j]
      · have hbl := bytesF_len hr
        rw [encode_at _ _ hr, if_pos hr, Option.bind_some]
        dsimp only
        rw [bne_self_eq_false, cond_false]
        have hbl' : (bytes12 fs[j].1 fs[j].2.1 fs[j].2.2.1 fs[j].2.2.2.2.2).length ≤ 268 := hbl.2
        rw [decide_eq_true (by omega), decide_eq_true (by omega), inc64 (by omega)]
        rfl
      · rw [encode_not' _ _ hr, if_neg hr]
        rfl
    have hd : fs.drop j = fs[j] :: fs.drop (j + 1) := List.drop_eq_getElem_cons hlt
    rw [iterN]
    simp only [e]
    rw [hd]
    by_cases hr : RF fs[j]
    · have := bytesF_len hr
      have ih := join_loop b3 b4 fs hn d (j + 1) (u && (bytesF fs[j]).isEmpty) false (acc ++ bytesF fs[j]) (by omega) (by rw [List.length_append]; omega)
      rw [if_pos hr]
      refine ⟨fun h => ?_, fun h => ?_⟩
      · obtain ⟨u', v', h1⟩ := ih.1 fun f hf => h f (List.mem_cons_of_mem _ hf)
        refine ⟨u', v', ?_⟩
        dsimp only
        rw [h1, List.append_assoc]
        rfl
      · exact ih.2 fun h1 => h fun f hf => (List.mem_cons.1 hf).elim (fun e => e ▸ hr) (h1 f)
    · rw [if_neg hr]
      exact ⟨fun h => absurd (h _ (List.mem_cons_self ..)) hr, fun _ => rfl⟩
theorem join_at (b0 b1 : Bool) (fs : List Fr) (hn : fs.length ≤ 100) : ((∀ f ∈ fs, RF f) → ∃ u v, go_new_scan_Join b0 b1 (fs.map frP) = some (u, v, joinB fs, 0)) ∧ ((¬ ∀ f ∈ fs, RF f) → go_new_scan_Join b0 b1 (fs.map frP) = some (true, true, [], 1)) := by
  have h := join_loop b0 b1 fs hn fs.length 0 true true [] (by omega) (by simp; omega)
  rw [List.drop_zero] at h
  unfold go_new_scan_Join lp_new_scan_Join_0
  rw [List.length_map]
  refine ⟨fun hr => ?_, fun hr => ?_⟩
  · obtain ⟨u, v, h1⟩ := h.1 hr
    refine ⟨u, v, ?_⟩
    rw [show (0 : Int) = ((0 : Nat) : Int) from rfl, loopN_of (fs.length + 1) (by omega) h1]
    rfl
  · rw [show (0 : Int) = ((0 : Nat) : Int) from rfl, loopN_of (fs.length + 1) (by omega) (h.2 hr)]
    rfl
theorem awake13 : go_coupletlaw13_awake = some true := by
  have hr : RF (3, 0, 1, false, true, [1, 2, 3]) := by decide
  have hj := (join_at false true [(3, 0, 1, false, true, [1, 2, 3])] (by decide)).1 (fun f hf => by rw [List.mem_singleton.1 hf]; exact hr)
  obtain ⟨u, v, hj⟩ := hj
  have hB := bytesF_isB hr
  have hlen : (bytes12 3 0 1 [1, 2, 3]).length = 36 := bytes12_len 3 0 1 [1, 2, 3]
  have ej : joinB [(3, 0, 1, false, true, [1, 2, 3])] = bytes12 3 0 1 [1, 2, 3] := List.append_nil _
  rw [ej] at hj
  have hB : isB (bytes12 3 0 1 [1, 2, 3]) := hB
  obtain ⟨c, d, hcd⟩ : ∃ c d, bytes12 3 0 1 [1, 2, 3] = 78 :: 86 :: 3 :: c :: d := ⟨_, _, rfl⟩
  have eL : ([120] ++ bytes12 3 0 1 [1, 2, 3]) ++ [78, 86] ++ bytes12 3 0 1 [1, 2, 3] = 120 :: (bytes12 3 0 1 [1, 2, 3] ++ (78 :: 86 :: (bytes12 3 0 1 [1, 2, 3] ++ []))) := by simp
  obtain ⟨u1, v1, i1⟩ := its_bytes hr (78 :: 86 :: (bytes12 3 0 1 [1, 2, 3] ++ [])) 1
  obtain ⟨u2, v2, i2⟩ := its_bytes hr [] 39
  have nm : ¬ heads (78 :: 86 :: (bytes12 3 0 1 [1, 2, 3] ++ [])) := no_many (by rw [hcd]; rfl)
  have hits : its 0 (120 :: (bytes12 3 0 1 [1, 2, 3] ++ (78 :: 86 :: (bytes12 3 0 1 [1, 2, 3] ++ [])))) = [(1, (3, 0, 1, u1, v1, [1, 2, 3])), (39, (3, 0, 1, u2, v2, [1, 2, 3]))] := by
    rw [its_skip (no_head (by decide))]
    have i1 : its (0 + 1) (bytes12 3 0 1 [1, 2, 3] ++ (78 :: 86 :: (bytes12 3 0 1 [1, 2, 3] ++ []))) = _ := i1
    rw [i1]
    have e1 : (1 + (bytes12 3 0 1 [1, 2, 3]).length) = 37 := by rw [hlen]
    have i3 : its (1 + (bytes12 3 0 1 [1, 2, 3]).length) (78 :: 86 :: (bytes12 3 0 1 [1, 2, 3] ++ [])) = [(39, (3, 0, 1, u2, v2, [1, 2, 3]))] := by
      rw [e1, its_skip nm, its_skip (no_head (by decide))]
      have i2 : its (37 + 1 + 1) (bytes12 3 0 1 [1, 2, 3] ++ []) = _ := i2
      rw [i2, its_nil]
    have i3 : its (1 + (bytes12 (3, 0, 1, false, true, [1, 2, 3]).1 (3, 0, 1, false, true, [1, 2, 3]).2.1 (3, 0, 1, false, true, [1, 2, 3]).2.2.1 (3, 0, 1, false, true, [1, 2, 3]).2.2.2.2.2).length) (78 :: 86 :: (bytes12 3 0 1 [1, 2, 3] ++ [])) = _ := i3
    rw [i3]
  have hlost : lost (120 :: (bytes12 3 0 1 [1, 2, 3] ++ (78 :: 86 :: (bytes12 3 0 1 [1, 2, 3] ++ [])))) = 3 := by
    rw [lost_skip (no_head (by decide)), lost_bytes hr, lost_skip nm, lost_skip (no_head (by decide)), lost_bytes hr, lost_nil]
  have hBB : isB (120 :: (bytes12 3 0 1 [1, 2, 3] ++ (78 :: 86 :: (bytes12 3 0 1 [1, 2, 3] ++ [])))) := by
    rw [isB_cons, isB_append, isB_cons, isB_cons, List.append_nil]
    exact ⟨by decide, hB, by decide, by decide, hB⟩
  have hall := all_at ((false && false) && (bytes12 3 0 1 [1, 2, 3]).isEmpty) false _ hBB (by simp; omega)
  rw [hits, hlost] at hall
  have hsz := size_bytes hr []
  rw [List.append_nil] at hsz
  have hsz : sizeV (bytes12 3 0 1 [1, 2, 3]) = 36 := hsz.trans hlen
  have hem : (bytes12 3 0 1 [1, 2, 3]).isEmpty = false := rfl
  unfold go_coupletlaw13_awake
  have hj : go_new_scan_Join false true [(.agg [(.int .i64 3), (.int .i64 0), (.int .i64 1), (.isl false true .i64 [1, 2, 3])])] = some (u, v, bytes12 3 0 1 [1, 2, 3], 0) := hj
  rw [hj, Option.bind_some]
  dsimp only
  rw [eL, hall, hlen, hem, size_at _ _ _ hB, hsz]
  simp only [Option.bind_some, cond_false, Bool.and_false, Bool.false_and]
  simp only [List.map_cons, List.map_nil, List.getD_cons_succ, List.getD_cons_zero, fl, fo, p1, p2, p3, p4, p5, p6]
  rw [same_at _ _ _ _ _ _ _ _ _ _ _ _ (by decide)]
  simp [hlen]
end Go.Proofs
