/-
  The laws ReportEncodes, ReportDecodes, ReportLong (plain).
-/
import Derived.Test.YtajphaljpkeecaaDoorWLW3
set_option linter.unusedSimpArgs false
set_option linter.unusedVariables false
set_option maxRecDepth 100000
namespace Go.Proofs
open Go Go.Fx

theorem wf64b {n : Int} (h : (Lit.int .i64 n).wf = true) : -9223372036854775808 ≤ n ∧ n ≤ 9223372036854775807 := by
  simp only [Lit.wf, Bool.and_eq_true, decide_eq_true_eq] at h
  exact ⟨h.1, h.2⟩
theorem isB_wf {l : List Int} (h : ∀ x ∈ l, (Lit.int .u8 x).wf = true) : isB l := fun x hx => by
  have := h x hx
  simp only [Lit.wf, Bool.and_eq_true, decide_eq_true_eq] at this
  have h1 : 0 ≤ x := this.1
  have h2 : x ≤ 255 := this.2
  exact ⟨h1, by omega⟩
/-- A number among others, by its bytes. -/
theorem enc8_slice : ∀ (L : List Int) (t : List Int) (k : Nat) (hk : k < L.length), ((enc8 L ++ t).drop (8 * k)).take 8 = le 8 (u64 L[k])
  | n :: L, t, 0, _ => by
    unfold enc8
    rw [List.flatMap_cons, Nat.mul_zero, List.drop_zero, List.append_assoc, List.take_left' (le_len _ _)]
    rfl
  | n :: L, t, k + 1, hk => by
    have ih := enc8_slice L t k (by simpa using hk)
    unfold enc8 at ih ⊢
    rw [List.flatMap_cons, List.append_assoc, show 8 * (k + 1) = 8 + 8 * k by omega, ← List.drop_drop, List.drop_left' (le_len _ _), ih]
    rfl
theorem num_of {a t : List Int} (ha : a.length = 8) {L : List Int} {k : Nat} (hk : k < L.length) (hb : okF L[k]) : num (a ++ (enc8 L ++ t)) k = L[k] := by
  unfold num
  rw [← List.drop_drop, List.drop_left' ha, enc8_slice L t k hk, val_le, Nat.mod_eq_of_lt (u64_lt _)]
  unfold okF at hb
  exact wrap_i64_u (by omega) (by omega)
theorem nums_of {a t : List Int} (ha : a.length = 8) {L : List Int} (hb : ∀ x ∈ L, okF x) (i d : Nat) (h : i + d ≤ L.length) : nums (a ++ (enc8 L ++ t)) i d = (L.drop i).take d := by
  unfold nums
  apply List.ext_getElem?
  intro j
  by_cases hj : j < d
  · rw [List.getElem?_map, List.getElem?_range' hj, List.getElem?_take_of_lt hj, List.getElem?_drop, List.getElem?_eq_getElem (by omega : i + j < L.length)]
    show some (num _ (i + 1 * j)) = _
    rw [Nat.one_mul, num_of ha (by omega) (hb _ (List.getElem_mem _))]
  · rw [List.getElem?_eq_none (by simp; omega), List.getElem?_eq_none (by simp; omega)]
theorem seq_u64 {q : Int} (h0 : 0 ≤ q) (h1 : q ≤ 4294967295) : ((u64 q % 256 ^ 4 : Nat) : Int) = q := by unfold u64; omega
/-- The bytes of a record, read. -/
theorem bytes_read {h q : Int} {X D : List Int} (hr : R18 h q X D) : why18 (bytes18 h q X D) = 0 ∧ hdr (bytes18 h q X D) = h ∧ cnt (bytes18 h q X D) = X.length ∧ seqN (bytes18 h q X D) = q ∧
    nums (bytes18 h q X D) 0 X.length = X ∧ nums (bytes18 h q X D) X.length X.length = D := by
  obtain ⟨h0, h1, q0, q1, c5, c6, c7, c8⟩ := hr
  have e : bytes18 h q X D = ([78, 82, h, (X.length : Int)] ++ le 4 (u64 q)) ++ (enc8 (X ++ D) ++ le 4 (crcV (body18 h q X D))) := by
    unfold bytes18 body18
    rw [List.append_assoc]
  have ha : ([78, 82, h, (X.length : Int)] ++ le 4 (u64 q)).length = 8 := by rw [List.length_append, le_len]; rfl
  have eh : hdr (bytes18 h q X D) = h := by rw [e]; rfl
  have ec : cnt (bytes18 h q X D) = X.length := by rw [e]; show ((X.length : Int)).toNat = _; omega
  have es : seqN (bytes18 h q X D) = q := by
    rw [e]
    unfold seqN
    rw [List.append_assoc, show ([78, 82, h, (X.length : Int)] ++ (le 4 (u64 q) ++ (enc8 (X ++ D) ++ le 4 (crcV (body18 h q X D))))).drop 4 = le 4 (u64 q) ++ (enc8 (X ++ D) ++ le 4 (crcV (body18 h q X D))) from rfl,
      List.take_left' (le_len _ _), val_le, seq_u64 q0 q1]
  have eX : nums (bytes18 h q X D) 0 X.length = X := by
    rw [e, nums_of ha c8 0 X.length (by rw [List.length_append]; omega), List.drop_zero, List.take_left]
  have eD : nums (bytes18 h q X D) X.length X.length = D := by
    rw [e, nums_of ha c8 X.length X.length (by rw [List.length_append]; omega), List.drop_left, List.take_of_length_le (by omega)]
  refine ⟨?_, eh, ec, es, eX, eD⟩
  have hl := bytes18_len h q X D
  have hbl := body18_len h q X D
  unfold why18
  rw [if_neg (by omega), eh, ec, if_neg, if_neg (by omega), if_neg (by omega), if_pos]
  · unfold bytes18
    rw [show (body18 h q X D ++ le 4 (crcV (body18 h q X D))).length - 4 = (body18 h q X D).length by rw [List.length_append, le_len]; omega, List.take_left, List.drop_left]
  · rintro (h | h | h)
    · exact h (by rw [e]; rfl)
    · omega
    · exact h c7
theorem take4_of {l : List Int} (h : 4 ≤ l.length) (h2 : [78, 82] = [l.getD 0 0, l.getD 1 0]) : l.take 4 = [78, 82, l.getD 2 0, l.getD 3 0] := by
  match l, h with
  | a :: b :: c :: d :: r, _ =>
    have e1 : (78 : Int) = a := (List.cons.inj h2).1
    have e2 : (82 : Int) = b := (List.cons.inj (List.cons.inj h2).2).1
    rw [e1, e2]
    rfl
/-- Bytes are those of what they are read as. -/
theorem enc8_nums (l : List Int) (hl : isB l) : ∀ (d a : Nat), 8 + 8 * (a + d) ≤ l.length → enc8 (nums l a d) = (l.drop (8 + 8 * a)).take (8 * d)
  | 0, a, _ => by simp [nums, enc8]
  | d + 1, a, h => by
    have ih := enc8_nums l hl d (a + 1) (by omega)
    have e : le 8 (u64 (num l a)) = (l.drop (8 + 8 * a)).take 8 := by
      have hs : isB ((l.drop (8 + 8 * a)).take 8) := isB_take (isB_drop hl _) _
      have hlen : ((l.drop (8 + 8 * a)).take 8).length = 8 := by rw [List.length_take, List.length_drop]; omega
      have hv := val_lt _ hs
      rw [hlen] at hv
      unfold num
      rw [u64_wrap (by omega)]
      have := le_val _ hs
      rw [hlen] at this
      exact this
    unfold nums enc8 at ih ⊢
    rw [List.range'_succ, List.map_cons, List.flatMap_cons, ih, e, show 8 * (d + 1) = 8 + 8 * d by omega, List.take_add, List.drop_drop]
    rw [show 8 + 8 * (a + 1) = 8 + 8 * a + 8 by omega]
theorem nums_append (l : List Int) (a d : Nat) : nums l 0 d ++ nums l d d = nums l 0 (d + d) := by
  unfold nums
  rw [← List.map_append]
  congr 1
  have := List.range'_append (s := 0) (m := d) (n := d) (step := 1)
  simpa using this
theorem read_bytes {l : List Int} (hl : isB l) (h0 : why18 l = 0) : bytes18 (hdr l) (seqN l) (nums l 0 (cnt l)) (nums l (cnt l) (cnt l)) = l := by
  unfold why18 at h0
  by_cases c0 : l.length < 12
  · rw [if_pos c0] at h0; exact absurd h0 (by decide)
  rw [if_neg c0] at h0
  split at h0
  · exact absurd h0 (by decide)
  rename_i c1
  split at h0
  · exact absurd h0 (by decide)
  split at h0
  · exact absurd h0 (by decide)
  split at h0
  case isFalse => exact absurd h0 (by decide)
  rename_i c2 c3 c4
  have hlen : l.length = 12 + 16 * cnt l := by omega
  have d2 : l.take 2 = [78, 82] := Classical.byContradiction fun h => c1 (.inl h)
  have hc := isB_getD hl 3
  have e4 : l.take 4 = [78, 82, hdr l, (cnt l : Int)] := by
    have h2 := take2 (l := l) (by omega)
    rw [d2] at h2
    have hcn : (cnt l : Int) = l.getD 3 0 := by unfold cnt; omega
    rw [hcn]
    unfold hdr
    exact take4_of (by omega) h2
  have hs : isB ((l.drop 4).take 4) := isB_take (isB_drop hl _) _
  have hsl : ((l.drop 4).take 4).length = 4 := by rw [List.length_take, List.length_drop]; omega
  have hv := val_lt _ hs
  rw [hsl] at hv
  have eq4 : le 4 (u64 (seqN l)) = (l.drop 4).take 4 := by
    have hu : u64 (seqN l) = val ((l.drop 4).take 4) := by unfold seqN u64; omega
    rw [hu]
    have := le_val _ hs
    rw [hsl] at this
    exact this
  have hnl : (nums l 0 (cnt l)).length = cnt l := by simp [nums]
  have hbody : body18 (hdr l) (seqN l) (nums l 0 (cnt l)) (nums l (cnt l) (cnt l)) = l.take (l.length - 4) := by
    unfold body18
    rw [hnl, ← e4, eq4, nums_append l 0, enc8_nums l hl _ 0 (by omega), ← List.take_add, Nat.mul_zero]
    rw [show l.length - 4 = (4 + 4) + 8 * (cnt l + cnt l) by omega, List.take_add (i := 4 + 4)]
  unfold bytes18
  rw [hbody, c4, List.take_append_drop]

theorem awake18 : go_coupletlaw18_awake = some true := by
  have hr : R18 33 5 [1] [2] := by decide
  have hb := bytes_read hr
  have hB := bytes18_isB (q := 5) (X := [1]) (D := [2]) (h := 33) (by decide) (by decide) (by decide)
  have hl := bytes18_len 33 5 [1] [2]
  have hh : go_report_Health 1 0 0 0 false false = some 33 := by decide +kernel
  unfold go_coupletlaw18_awake
  rw [encode_at _ _ _ _ hr, Option.bind_some]
  dsimp only
  rcases decode_at false false (bytes18 33 5 [1] [2]) hB (by rw [hl]; simp) with ⟨h1, _⟩ | ⟨_, h1⟩
  · exact absurd hb.1 h1
  rw [hb.2.1, hb.2.2.1, hb.2.2.2.1, hb.2.2.2.2.1, hb.2.2.2.2.2] at h1
  rcases h1 with ⟨_, u, v, u', v', h1⟩ | ⟨h1, _⟩
  case inr => exact absurd hr h1
  rw [h1, Option.bind_some, hh, Option.bind_some]
  simp only [beq_self_eq_true, cond_true]
  rw [same_at _ _ _ _ _ _ _ _ _ _ _ _ _ _ _ _ (by decide) (by decide), Option.bind_some, right_at, Option.bind_some, decide_eq_true hr, hl]
  rfl
theorem law_ReportEncodes {n0 n1 : Int} {b2 b3 : Bool} {l4 : List Int} {b5 b6 : Bool} {l7 : List Int} (w0 : (Lit.int .i64 n0).wf = true) (w1 : (Lit.int .i64 n1).wf = true) (w2 : l4.length ≤ maxLen) (c2 : ∀ x ∈ l4, (Lit.int .i64 x).wf = true) (g2 : b2 = true → l4 = [])
    (w3 : l7.length ≤ maxLen) (c3 : ∀ x ∈ l7, (Lit.int .i64 x).wf = true) (g3 : b5 = true → l7 = []) : go_coupletlaw18_ReportEncodes n0 n1 b2 b3 l4 b5 b6 l7 = some true := by
  unfold go_coupletlaw18_ReportEncodes
  rw [awake18]
  by_cases s1 : ((l4.length : Nat) : Int) > 20
  · rw [decide_eq_true s1]; rfl
  by_cases s2 : ((l7.length : Nat) : Int) > 20
  · rw [decide_eq_false s1, decide_eq_true s2]; rfl
  rw [decide_eq_false s1, decide_eq_false s2, cond_false, cond_false]
  by_cases hr : R18 n0 n1 l4 l7
  · have hB := bytes18_isB (q := n1) (X := l4) (D := l7) hr.1 hr.2.1 hr.2.2.2.2.1
    have hb := bytes_read hr
    have hl := bytes18_len n0 n1 l4 l7
    rw [encode_at _ _ _ _ hr, Option.bind_some]
    unfold go_coupletlaw18_Given
    simp only [Option.bind_some]
    rw [rright_at, decide_eq_true hr, Option.bind_some, Bool.not_true, cond_false]
    rcases decode_at false false (bytes18 n0 n1 l4 l7) hB (by omega) with ⟨h1, _⟩ | ⟨_, h1⟩
    · exact absurd hb.1 h1
    rw [hb.2.1, hb.2.2.1, hb.2.2.2.1, hb.2.2.2.2.1, hb.2.2.2.2.2] at h1
    rcases h1 with ⟨_, u, v, u', v', h1⟩ | ⟨h1, _⟩
    case inr => exact absurd hr h1
    rw [h1, Option.bind_some, isB_all hB, cond_true, rencode_at _ _ _ _ hr, Option.bind_some]
    dsimp only
    rw [isB_all hB, cond_true]
    simp only [beq_self_eq_true, cond_true]
    rw [same_at _ _ _ _ _ _ _ _ _ _ _ _ _ _ _ _ (by omega) (by omega), Option.bind_some, decide_eq_true ⟨rfl, rfl, rfl, rfl⟩, cond_true, right_at, decide_eq_true hr]
    rfl
  · rw [encode_not _ _ _ _ hr, Option.bind_some]
    unfold go_coupletlaw18_Given
    simp only [Option.bind_some]
    rw [rright_at, decide_eq_false hr, Option.bind_some, right_at, decide_eq_false hr]
    rfl
theorem law_ReportDecodes {b0 b1 : Bool} {l2 : List Int} (w0 : l2.length ≤ maxLen) (c0 : ∀ x ∈ l2, (Lit.int .u8 x).wf = true) (g0 : b0 = true → l2 = []) : go_coupletlaw18_ReportDecodes b0 b1 l2 = some true := by
  unfold go_coupletlaw18_ReportDecodes
  rw [awake18]
  by_cases s1 : ((l2.length : Nat) : Int) > 300
  · rw [decide_eq_true s1]; rfl
  have hl := isB_wf c0
  rw [decide_eq_false s1, cond_false]
  rcases decode_at b0 b1 l2 hl (by omega) with ⟨h1, h2⟩ | ⟨h1, ⟨hr, u, v, u', v', h2⟩ | ⟨hr, h2⟩⟩
  · rw [h2, Option.bind_some, rwhy_at b0 b1 l2 hl (by omega), Option.bind_some, bne_l, decide_eq_false h1, Bool.not_false, cond_true]
    simp only [beq_self_eq_true, cond_true]
    rw [same_at _ _ _ _ _ _ _ _ _ _ _ _ _ _ _ _ (by decide) (by decide)]
    rfl
  · have hB := bytes18_isB (q := seqN l2) (X := nums l2 0 (cnt l2)) (D := nums l2 (cnt l2) (cnt l2)) hr.1 hr.2.1 hr.2.2.2.2.1
    have he := read_bytes hl h1
    rw [h2, Option.bind_some, rwhy_at b0 b1 l2 hl (by omega), Option.bind_some, h1]
    unfold go_coupletlaw18_Given
    simp only [bne_self_eq_false, cond_false, beq_self_eq_true, cond_true, Option.bind_some]
    rw [rright_at, decide_eq_true hr, Option.bind_some, cond_true, rencode_at _ _ _ _ hr, Option.bind_some]
    dsimp only
    rw [isB_all hB, isB_all hl, he]
    simp only [beq_self_eq_true, cond_true]
  · rw [h2, Option.bind_some, rwhy_at b0 b1 l2 hl (by omega), Option.bind_some, h1]
    rw [show ((0 : Int) != 0) = false from rfl, cond_false, show ((3 : Int) == 0) = false from rfl, cond_false, show ((3 : Int) == 3) = true from rfl, cond_true, same_at _ _ _ _ _ _ _ _ _ _ _ _ _ _ _ _ (by decide) (by decide)]
    rfl
theorem bytes_same {h q h' q' : Int} {X D X' D' : List Int} (hr : R18 h q X D) (hr' : R18 h' q' X' D') : bytes18 h q X D = bytes18 h' q' X' D' ↔ (h = h' ∧ q = q' ∧ X = X' ∧ D = D') := by
  constructor
  · intro e
    have a := bytes_read hr
    have b := bytes_read hr'
    rw [e] at a
    have e1 : h = h' := a.2.1.symm.trans b.2.1
    have e2 : q = q' := a.2.2.2.1.symm.trans b.2.2.2.1
    have e3 : X.length = X'.length := a.2.2.1.symm.trans b.2.2.1
    have e4 := a.2.2.2.2.1
    have e5 := a.2.2.2.2.2
    rw [e3] at e4 e5
    exact ⟨e1, e2, e4.symm.trans b.2.2.2.2.1, e5.symm.trans b.2.2.2.2.2⟩
  · rintro ⟨rfl, rfl, rfl, rfl⟩
    rfl
theorem law_ReportLong {n0 n1 : Int} {b2 b3 : Bool} {l4 : List Int} {b5 b6 : Bool} {l7 : List Int} {n8 n9 : Int} {b10 b11 : Bool} {l12 : List Int} {b13 b14 : Bool} {l15 : List Int} (w0 : (Lit.int .i64 n0).wf = true) (w1 : (Lit.int .i64 n1).wf = true)
    (w2 : l4.length ≤ maxLen) (c2 : ∀ x ∈ l4, (Lit.int .i64 x).wf = true) (g2 : b2 = true → l4 = []) (w3 : l7.length ≤ maxLen) (c3 : ∀ x ∈ l7, (Lit.int .i64 x).wf = true) (g3 : b5 = true → l7 = [])
    (w5 : (Lit.int .i64 n8).wf = true) (w6 : (Lit.int .i64 n9).wf = true) (w7 : l12.length ≤ maxLen) (c7 : ∀ x ∈ l12, (Lit.int .i64 x).wf = true) (g7 : b10 = true → l12 = []) (w8 : l15.length ≤ maxLen) (c8 : ∀ x ∈ l15, (Lit.int .i64 x).wf = true) (g8 : b13 = true → l15 = []) :
    go_coupletlaw18_ReportLong n0 n1 b2 b3 l4 b5 b6 l7 n8 n9 b10 b11 l12 b13 b14 l15 = some true := by
  unfold go_coupletlaw18_ReportLong
  rw [awake18]
  by_cases hr : R18 n0 n1 l4 l7
  case neg =>
    rw [encode_not _ _ _ _ hr, Option.bind_some]
    by_cases hr' : R18 n8 n9 l12 l15
    · rw [encode_at _ _ _ _ hr', Option.bind_some]
      cases decide (((l4.length : Nat) : Int) > 20) <;> cases decide (((l12.length : Nat) : Int) > 20) <;> rfl
    · rw [encode_not _ _ _ _ hr', Option.bind_some]
      cases decide (((l4.length : Nat) : Int) > 20) <;> cases decide (((l12.length : Nat) : Int) > 20) <;> rfl
  rw [encode_at _ _ _ _ hr, Option.bind_some]
  by_cases hr' : R18 n8 n9 l12 l15
  case neg =>
    rw [encode_not _ _ _ _ hr', Option.bind_some]
    cases decide (((l4.length : Nat) : Int) > 20) <;> cases decide (((l12.length : Nat) : Int) > 20) <;> rfl
  have k1 := hr.2.2.2.2.1
  have k2 := hr'.2.2.2.2.1
  have k3 := hr.2.2.2.2.2.1
  have k4 := hr'.2.2.2.2.2.1
  have hB := bytes18_isB (q := n1) (X := l4) (D := l7) hr.1 hr.2.1 k1
  have hB' := bytes18_isB (q := n9) (X := l12) (D := l15) hr'.1 hr'.2.1 k2
  rw [encode_at _ _ _ _ hr', Option.bind_some, decide_eq_false (by omega), cond_false, decide_eq_false (by omega), cond_false]
  simp only [bne_self_eq_false, cond_false]
  have e16 : IntKind.wrap .i64 (12 + IntKind.wrap .i64 (16 * ((l4.length : Nat) : Int))) = ((12 + 16 * l4.length : Nat) : Int) := by
    rw [w64 (a := 16 * ((l4.length : Nat) : Int)) (by omega) (by omega), w64 (by omega) (by omega)]; omega
  rw [e16, bytes18_len, show (((12 + 8 * (l4.length + l7.length) : Nat) : Int) == ((12 + 16 * l4.length : Nat) : Int)) = true by rw [ibeq]; exact decide_eq_true (by omega), cond_true, isB_all hB, cond_true, isB_all hB', cond_true,
    same_at _ _ _ _ _ _ _ _ _ _ _ _ _ _ _ _ (by omega) (by omega), Option.bind_some, lst_beq]
  rw [show decide (bytes18 n0 n1 l4 l7 = bytes18 n8 n9 l12 l15) = decide (n0 = n8 ∧ n1 = n9 ∧ l4 = l12 ∧ l7 = l15) from decide_eq_decide.2 (bytes_same hr hr'), beq_self_eq_true]
  rfl
end Go.Proofs
