/-
  Laws of layer 12 (plain).
-/
import Derived.Test.YtajphaljpkeecaaDoorWLF3
set_option linter.unusedSimpArgs false
set_option linter.unusedVariables false
set_option maxRecDepth 100000
namespace Go.Proofs
open Go Go.Fx

theorem M12_out {k n : Int} (h : k < 1 ∨ k > 3 ∨ n < 1 ∨ n > 4) : M12 k n = 0 := by
  by_cases h0 : M12 k n = 0
  · exact h0
  · have := M12_pos h0
    omega
theorem M12_in {k n : Int} (h : ¬ (k < 1 ∨ k > 3 ∨ n < 1 ∨ n > 4)) : 2 ≤ M12 k n := by
  have hk : k = 1 ∨ k = 2 ∨ k = 3 := by omega
  rcases hk with rfl | rfl | rfl <;> rcases four (n := n) (by omega) (by omega) with rfl | rfl | rfl | rfl <;> decide
theorem law_FrameMany {n0 n1 : Int} (w0 : (Lit.int .i64 n0).wf = true) (w1 : (Lit.int .i64 n1).wf = true) : go_coupletlaw12_FrameMany n0 n1 = some true := by
  unfold go_coupletlaw12_FrameMany
  rw [many_at, awake12, rmany_at, Option.bind_some]
  simp only [Option.bind_some]
  have hb := M12_b n0 n1
  by_cases s1 : n0 < 1
  · rw [decide_eq_true s1, M12_out (.inl s1)]; rfl
  by_cases s2 : n0 > 3
  · rw [decide_eq_false s1, decide_eq_true s2, M12_out (.inr (.inl s2))]; rfl
  by_cases s3 : n1 < 1
  · rw [decide_eq_false s1, decide_eq_false s2, decide_eq_true s3, M12_out (.inr (.inr (.inl s3)))]; rfl
  by_cases s4 : n1 > 4
  · rw [decide_eq_false s1, decide_eq_false s2, decide_eq_false s3, decide_eq_true s4, M12_out (.inr (.inr (.inr s4)))]; rfl
  have h2 := M12_in (k := n0) (n := n1) (by omega)
  rw [decide_eq_false s1, decide_eq_false s2, decide_eq_false s3, decide_eq_false s4, decide_eq_true (show M12 n0 n1 ≥ 2 from h2), decide_eq_true hb.2, beq_self_eq_true]
  rfl
theorem encode_not' {k q n : Int} {L : List Int} (b3 b4 : Bool) (hr : ¬ R12 k q n L) : go_new_frame_Encode k q n b3 b4 L = some (true, true, [], 1) := by
  have hb := M12_b k n
  by_cases c2 : (L.length : Int) = M12 k n
  · exact encode_not b3 b4 (by omega) hr
  · unfold go_new_frame_Encode go_frame_Right
    rw [many_at, Option.bind_some, ibeq, decide_eq_false c2]
    cases decide (M12 k n > 0) <;> rfl
theorem R12_b {k q n : Int} {L : List Int} (hr : R12 k q n L) : (0 ≤ k ∧ k < 256) ∧ (0 ≤ n ∧ n < 256) ∧ L.length ≤ 32 := by
  have h1 := hr.1
  have h2 := hr.2.1
  have h3 := M12_b k n
  have := M12_pos (k := k) (n := n) (by omega)
  omega
theorem law_FrameEncodes {n0 n1 n2 : Int} {b3 b4 : Bool} {l5 : List Int} (w0 : (Lit.int .i64 n0).wf = true) (w1 : (Lit.int .i64 n1).wf = true) (w2 : (Lit.int .i64 n2).wf = true) (w3 : l5.length ≤ maxLen) (c3 : ∀ x ∈ l5, (Lit.int .i64 x).wf = true) (g3 : b3 = true → l5 = []) :
    go_coupletlaw12_FrameEncodes n0 n1 n2 b3 b4 l5 = some true := by
  unfold go_coupletlaw12_FrameEncodes
  rw [awake12]
  by_cases s1 : ((l5.length : Nat) : Int) > 40
  · rw [decide_eq_true s1]; rfl
  rw [decide_eq_false s1, cond_false, many_at, rmany_at]
  have hle : l5.length < 9223372036854775807 := by omega
  by_cases hr : R12 n0 n1 n2 l5
  · obtain ⟨hk, hn, hm⟩ := R12_b hr
    have hB := bytes12_isB (q := n1) (L := l5) hk hn
    have hb := read12 hr
    have hl := bytes12_len n0 n1 n2 l5
    rw [encode_at _ _ hr, Option.bind_some]
    unfold go_coupletlaw12_Given
    simp only [Option.bind_some, bne_self_eq_false, cond_false]
    rw [rfright_at _ _ _ _ _ _ hle, decide_eq_true hr, Option.bind_some, Bool.not_true, cond_false]
    rcases decode_at false false (bytes12 n0 n1 n2 l5) hB (by omega) with ⟨h1, _⟩ | ⟨_, h1⟩
    · exact absurd hb.1 h1
    rw [hb.2.1, hb.2.2.1, hb.2.2.2.1, hb.2.2.2.2.1, hb.2.2.2.2.2] at h1
    rcases h1 with ⟨_, u, v, h1⟩ | ⟨h1, _⟩
    case inr => exact absurd hr h1
    rw [h1, Option.bind_some, isB_all hB, cond_true, rencode_at _ _ hk hn (by omega), Option.bind_some]
    dsimp only
    rw [isB_all hB, cond_true]
    simp only [beq_self_eq_true, cond_true]
    rw [same_at _ _ _ _ _ _ _ _ _ _ _ _ hle, Option.bind_some, decide_eq_true ⟨rfl, rfl, rfl, rfl⟩, cond_true, fright_at _ _ _ _ _ _ hle, decide_eq_true hr]
    rfl
  · rw [encode_not _ _ hle hr, Option.bind_some]
    unfold go_coupletlaw12_Given
    simp only [Option.bind_some, bne_self_eq_false, cond_false]
    rw [rfright_at _ _ _ _ _ _ hle, decide_eq_false hr, Option.bind_some, fright_at _ _ _ _ _ _ hle, decide_eq_false hr]
    rfl
theorem law_FrameDecodes {b0 b1 : Bool} {l2 : List Int} (w0 : l2.length ≤ maxLen) (c0 : ∀ x ∈ l2, (Lit.int .u8 x).wf = true) (g0 : b0 = true → l2 = []) : go_coupletlaw12_FrameDecodes b0 b1 l2 = some true := by
  unfold go_coupletlaw12_FrameDecodes
  rw [awake12]
  by_cases s1 : ((l2.length : Nat) : Int) > 600
  · rw [decide_eq_true s1]; rfl
  have hl := isB_wf c0
  rw [decide_eq_false s1, cond_false]
  rcases decode_at b0 b1 l2 hl (by omega) with ⟨h1, h2⟩ | ⟨h1, ⟨hr, u, v, h2⟩ | ⟨hr, h2⟩⟩
  · rw [h2, Option.bind_some, rwhy_at b0 b1 l2 hl (by omega), Option.bind_some, bne_l, decide_eq_false h1, Bool.not_false, cond_true]
    simp only [beq_self_eq_true, cond_true]
    rw [same_at _ _ _ _ _ _ _ _ _ _ _ _ (by decide)]
    rfl
  · obtain ⟨hk, hn, hm⟩ := R12_b hr
    have hB := bytes12_isB (q := seqN l2) (L := nums l2 0 (mm l2)) hk hn
    have he := read_bytes hl h1
    rw [h2, Option.bind_some, rwhy_at b0 b1 l2 hl (by omega), Option.bind_some, h1]
    unfold go_coupletlaw12_Given
    simp only [bne_self_eq_false, cond_false, beq_self_eq_true, cond_true, Option.bind_some]
    rw [rfright_at _ _ _ _ _ _ (by omega), decide_eq_true hr, Option.bind_some, cond_true, rencode_at _ _ hk hn (by omega), Option.bind_some]
    dsimp only
    rw [isB_all hB, isB_all hl, he]
    simp only [beq_self_eq_true, cond_true]
  · rw [h2, Option.bind_some, rwhy_at b0 b1 l2 hl (by omega), Option.bind_some, h1]
    rw [show ((0 : Int) != 0) = false from rfl, cond_false, show ((3 : Int) == 0) = false from rfl, cond_false, show ((3 : Int) == 3) = true from rfl, cond_true, same_at _ _ _ _ _ _ _ _ _ _ _ _ (by decide)]
    rfl
theorem bytes_same {k q n k' q' n' : Int} {L L' : List Int} (hr : R12 k q n L) (hr' : R12 k' q' n' L') : bytes12 k q n L = bytes12 k' q' n' L' ↔ (k = k' ∧ q = q' ∧ n = n' ∧ L = L') := by
  constructor
  · intro e
    have a := read12 hr
    have b := read12 hr'
    rw [e] at a
    have e3 : L.length = L'.length := a.2.2.2.2.1.symm.trans b.2.2.2.2.1
    have e4 := a.2.2.2.2.2
    rw [e3] at e4
    exact ⟨a.2.1.symm.trans b.2.1, a.2.2.2.1.symm.trans b.2.2.2.1, a.2.2.1.symm.trans b.2.2.1, e4.symm.trans b.2.2.2.2.2⟩
  · rintro ⟨rfl, rfl, rfl, rfl⟩
    rfl
theorem law_FrameLong {n0 n1 n2 : Int} {b3 b4 : Bool} {l5 : List Int} {n6 n7 n8 : Int} {b9 b10 : Bool} {l11 : List Int} (w0 : (Lit.int .i64 n0).wf = true) (w1 : (Lit.int .i64 n1).wf = true) (w2 : (Lit.int .i64 n2).wf = true) (w3 : l5.length ≤ maxLen) (c3 : ∀ x ∈ l5, (Lit.int .i64 x).wf = true) (g3 : b3 = true → l5 = [])
    (w5 : (Lit.int .i64 n6).wf = true) (w6 : (Lit.int .i64 n7).wf = true) (w7 : (Lit.int .i64 n8).wf = true) (w8 : l11.length ≤ maxLen) (c8 : ∀ x ∈ l11, (Lit.int .i64 x).wf = true) (g8 : b9 = true → l11 = []) :
    go_coupletlaw12_FrameLong n0 n1 n2 b3 b4 l5 n6 n7 n8 b9 b10 l11 = some true := by
  unfold go_coupletlaw12_FrameLong
  rw [awake12]
  by_cases hr : R12 n0 n1 n2 l5
  case neg =>
    rw [encode_not' _ _ hr, Option.bind_some]
    by_cases hr' : R12 n6 n7 n8 l11
    · rw [encode_at _ _ hr', Option.bind_some]
      cases decide (((l5.length : Nat) : Int) > 40) <;> cases decide (((l11.length : Nat) : Int) > 40) <;> rfl
    · rw [encode_not' _ _ hr', Option.bind_some]
      cases decide (((l5.length : Nat) : Int) > 40) <;> cases decide (((l11.length : Nat) : Int) > 40) <;> rfl
  rw [encode_at _ _ hr, Option.bind_some]
  by_cases hr' : R12 n6 n7 n8 l11
  case neg =>
    rw [encode_not' _ _ hr', Option.bind_some]
    cases decide (((l5.length : Nat) : Int) > 40) <;> cases decide (((l11.length : Nat) : Int) > 40) <;> rfl
  obtain ⟨k1, k2, k3⟩ := R12_b hr
  obtain ⟨k4, k5, k6⟩ := R12_b hr'
  have hB := bytes12_isB (q := n1) (L := l5) k1 k2
  have hB' := bytes12_isB (q := n7) (L := l11) k4 k5
  rw [encode_at _ _ hr', Option.bind_some, decide_eq_false (by omega), cond_false, decide_eq_false (by omega), cond_false]
  simp only [bne_self_eq_false, cond_false]
  have e16 : IntKind.wrap .i64 (12 + IntKind.wrap .i64 (8 * ((l5.length : Nat) : Int))) = ((12 + 8 * l5.length : Nat) : Int) := by
    rw [w64 (a := 8 * ((l5.length : Nat) : Int)) (by omega) (by omega), w64 (by omega) (by omega)]; omega
  rw [e16, bytes12_len, beq_self_eq_true, cond_true, isB_all hB, cond_true, isB_all hB', cond_true,
    same_at _ _ _ _ _ _ _ _ _ _ _ _ (by omega), Option.bind_some, lst_beq]
  rw [show decide (bytes12 n0 n1 n2 l5 = bytes12 n6 n7 n8 l11) = decide (n0 = n6 ∧ n1 = n7 ∧ n2 = n8 ∧ l5 = l11) from decide_eq_decide.2 (bytes_same hr hr'), beq_self_eq_true]
  rfl

theorem R12_set {k q n v : Int} {L : List Int} {i : Nat} (hi : i < L.length) (hr : R12 k q n L) : R12 k q n (L.set i v) ↔ okF v := by
  constructor
  · intro h
    exact h.2.2.2.2 v (List.mem_iff_getElem?.2 ⟨i, List.getElem?_set_self hi⟩)
  · intro h
    refine ⟨hr.1, by rw [List.length_set]; exact hr.2.1, hr.2.2.1, hr.2.2.2.1, fun x hx => ?_⟩
    rcases List.mem_or_eq_of_mem_set hx with h1 | h1
    · exact hr.2.2.2.2 x h1
    · exact h1 ▸ h
theorem set_i64 {v : Int} {L : List Int} {i : Nat} (hL : ∀ x ∈ L, okF x) (hv : i64b v) : ∀ x ∈ L.set i v, i64b x := fun x hx => by
  rcases List.mem_or_eq_of_mem_set hx with h1 | h1
  · exact okF_i64 (hL x h1)
  · exact h1 ▸ hv
theorem getD_set {L : List Int} {i : Nat} (v : Int) (hi : i < L.length) : (L.set i v).getD i 0 = v := by
  rw [List.getD_eq_getElem?_getD, List.getElem?_set_self hi]; rfl
theorem law_FrameRange {n0 n1 n2 : Int} {b3 b4 : Bool} {l5 : List Int} {n6 n7 : Int} (w0 : (Lit.int .i64 n0).wf = true) (w1 : (Lit.int .i64 n1).wf = true) (w2 : (Lit.int .i64 n2).wf = true) (w3 : l5.length ≤ maxLen) (c3 : ∀ x ∈ l5, (Lit.int .i64 x).wf = true) (g3 : b3 = true → l5 = [])
    (w4 : (Lit.int .i64 n6).wf = true) (w5 : (Lit.int .i64 n7).wf = true) : go_coupletlaw12_FrameRange n0 n1 n2 b3 b4 l5 n6 n7 = some true := by
  unfold go_coupletlaw12_FrameRange
  rw [awake12]
  by_cases s1 : ((l5.length : Nat) : Int) > 40
  · rw [decide_eq_true s1]; rfl
  rw [decide_eq_false s1, cond_false]
  have hle : l5.length < 9223372036854775807 := by omega
  unfold go_coupletlaw12_Given
  simp only [Option.bind_some]
  rw [rfright_at _ _ _ _ _ _ hle, Option.bind_some]
  by_cases hr : R12 n0 n1 n2 l5
  case neg => rw [decide_eq_false hr]; rfl
  rw [decide_eq_true hr, Bool.not_true, cond_false]
  by_cases s2 : n6 < 0
  · rw [decide_eq_true s2]; rfl
  rw [decide_eq_false s2, cond_false]
  by_cases s3 : n6 ≥ ((l5.length : Nat) : Int)
  · rw [decide_eq_true s3]; rfl
  obtain ⟨i, rfl⟩ : ∃ i : Nat, n6 = (i : Int) := ⟨n6.toNat, by omega⟩
  have hi : i < l5.length := by omega
  obtain ⟨k1, k2, k3⟩ := R12_b hr
  have hls : (l5.set i n7).length = l5.length := List.length_set ..
  have hb := bytes_read (k := n0) (q := n1) (n := n2) (L := l5.set i n7) hr.1 (by rw [hls]; exact hr.2.1) hr.2.2.1 hr.2.2.2.1 (set_i64 hr.2.2.2.2 (wf64b w5))
  have hB := bytes12_isB (q := n1) (L := l5.set i n7) k1 k2
  have hl := bytes12_len n0 n1 n2 (l5.set i n7)
  rw [hls] at hl
  rw [decide_eq_false s3, cond_false, List.nil_append, Int.toNat_natCast, rencode_at _ _ k1 k2 (by rw [hls]; omega), Option.bind_some,
    show decide ((0 + l5.length) * 8 ≤ 140737488355328) = true from decide_eq_true (by omega), show decide (0 + l5.length ≤ 4611686018427387904) = true from decide_eq_true (by omega), show decide ((0 : Int) ≤ (i : Int)) = true from decide_eq_true (by omega),
    show decide ((i : Int) < ((l5.length : Nat) : Int)) = true from decide_eq_true (by omega), show decide (i < l5.length) = true from decide_eq_true hi]
  simp only [cond_true]
  rcases decode_at false false (bytes12 n0 n1 n2 (l5.set i n7)) hB (by omega) with ⟨h1, _⟩ | ⟨_, h1⟩
  · exact absurd hb.1 h1
  rw [hb.2.1, hb.2.2.1, hb.2.2.2.1, hb.2.2.2.2.1, hb.2.2.2.2.2, R12_set hi hr] at h1
  rcases h1 with ⟨ho, u, v, h1⟩ | ⟨ho, h1⟩
  · rw [h1, Option.bind_some]
    dsimp only
    rw [hls, getD_set n7 hi, show decide (n7 ≥ -1125899906842624) = true from decide_eq_true ho.1, show decide (n7 ≤ 1125899906842624) = true from decide_eq_true ho.2]
    simp only [cond_true, beq_self_eq_true]
    rw [show decide ((i : Int) < ((l5.length : Nat) : Int)) = true from decide_eq_true (by omega), show decide (i < l5.length) = true from decide_eq_true hi]
    rfl
  · rw [h1, Option.bind_some]
    dsimp only
    rw [show ((3 : Int) == 0) = false from rfl, show ((3 : Int) == 3) = true from rfl, same_at _ _ _ _ _ _ _ _ _ _ _ _ (by decide)]
    by_cases s5 : n7 ≥ -1125899906842624
    · have s6 : ¬ n7 ≤ 1125899906842624 := fun h => ho ⟨s5, h⟩
      rw [decide_eq_true s5, decide_eq_false s6]; rfl
    · rw [decide_eq_false s5]; rfl

end Go.Proofs
