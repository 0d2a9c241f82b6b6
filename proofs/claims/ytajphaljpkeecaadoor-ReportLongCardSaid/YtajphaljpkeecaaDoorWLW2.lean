/-
  Records: which may be, their bytes, what bytes are read as (plain).
-/
import Derived.Test.YtajphaljpkeecaaDoorWLW1
set_option linter.unusedSimpArgs false
set_option linter.unusedVariables false
set_option maxRecDepth 100000
namespace Go.Proofs
open Go Go.Fx

/-- Which record may be. -/
def R18 (h q : Int) (X D : List Int) : Prop := 0 ≤ h ∧ h ≤ 255 ∧ 0 ≤ q ∧ q ≤ 4294967295 ∧ X.length ≤ 4 ∧ X.length = D.length ∧ (0 < X.length ↔ h / 32 % 2 = 1) ∧ ∀ x ∈ X ++ D, okF x
instance (h q : Int) (X D : List Int) : Decidable (R18 h q X D) := by unfold R18; infer_instance
theorem and32 {h : Int} (h0 : 0 ≤ h) (h1 : h ≤ 255) : ((IntKind.wrap .i64 (bAnd .i64 h 32)) != 0) = decide (h / 32 % 2 = 1) := by
  obtain ⟨n, rfl⟩ := Int.eq_ofNat_of_zero_le h0
  have : ∀ n : Nat, n < 256 → ((IntKind.wrap .i64 (bAnd .i64 (n : Int) 32)) != 0) = decide ((n : Int) / 32 % 2 = 1) := by decide +kernel
  exact this n (by omega)
theorem some_len (X : List Int) (b : Bool) (P : Prop) [Decidable P] (hb : b = decide P) : (decide (((X.length : Nat) : Int) > 0) == b) = decide (0 < X.length ↔ P) := by
  subst hb
  by_cases h1 : 0 < X.length
  · by_cases h2 : P
    · rw [decide_eq_true (by omega), decide_eq_true h2, decide_eq_true (iff_of_true h1 h2)]; rfl
    · rw [decide_eq_true (by omega), decide_eq_false h2, decide_eq_false (fun h => h2 (h.1 h1))]; rfl
  · by_cases h2 : P
    · rw [decide_eq_false (by omega), decide_eq_true h2, decide_eq_false (fun h => h1 (h.2 h2))]; rfl
    · rw [decide_eq_false (by omega), decide_eq_false h2, decide_eq_true (iff_of_false h1 h2)]; rfl
theorem right_at (h q : Int) (b2 b3 b5 b6 : Bool) (X D : List Int) : go_report_Right h q b2 b3 X b5 b6 D = some (decide (R18 h q X D)) := by
  unfold go_report_Right
  by_cases c1 : h ≥ 0
  case neg =>
    rw [decide_eq_false c1, cond_false, decide_eq_false (fun r : R18 h q X D => c1 r.1)]
  by_cases c2 : h ≤ 255
  case neg =>
    rw [decide_eq_true c1, cond_true, decide_eq_false c2, cond_false, decide_eq_false (fun r : R18 h q X D => c2 r.2.1)]
  by_cases c3 : q ≥ 0
  case neg =>
    rw [decide_eq_true c1, cond_true, decide_eq_true c2, cond_true, decide_eq_false c3, cond_false, decide_eq_false (fun r : R18 h q X D => c3 r.2.2.1)]
  by_cases c4 : q ≤ 4294967295
  case neg =>
    rw [decide_eq_true c1, cond_true, decide_eq_true c2, cond_true, decide_eq_true c3, cond_true, decide_eq_false c4, cond_false, decide_eq_false (fun r : R18 h q X D => c4 r.2.2.2.1)]
  rw [decide_eq_true c1, cond_true, decide_eq_true c2, cond_true, decide_eq_true c3, cond_true, decide_eq_true c4, cond_true]
  by_cases c5 : X.length ≤ 4
  case neg =>
    rw [decide_eq_false (by omega), cond_false, decide_eq_false (fun r : R18 h q X D => c5 r.2.2.2.2.1)]
  rw [decide_eq_true (by omega), cond_true]
  by_cases c6 : X.length = D.length
  case neg =>
    rw [show (((X.length : Nat) : Int) == ((D.length : Nat) : Int)) = false by rw [ibeq]; exact decide_eq_false (by omega), cond_false, decide_eq_false (fun r : R18 h q X D => c6 r.2.2.2.2.2.1)]
  rw [show (((X.length : Nat) : Int) == ((D.length : Nat) : Int)) = true by rw [ibeq]; exact decide_eq_true (by omega), cond_true, some_len X _ _ (and32 c1 c2)]
  by_cases c7 : (0 < X.length ↔ h / 32 % 2 = 1)
  case neg =>
    rw [decide_eq_false c7, cond_false, decide_eq_false (fun r : R18 h q X D => c7 r.2.2.2.2.2.2.1)]
  obtain ⟨u, v, hc⟩ := concat_at false true b2 b3 b5 b6 X D (by omega) (by omega)
  rw [decide_eq_true c7, cond_true, hc, Option.bind_some, bad_at _ _ _ (by rw [List.length_append]; omega), Option.bind_some, Bool.not_not]
  congr 1
  exact decide_eq_decide.2 ⟨fun r => ⟨c1, c2, c3, c4, c5, c6, c7, r⟩, fun r => r.2.2.2.2.2.2.2⟩
theorem rr_loop (h q : Int) (b11 b12 b14 b15 : Bool) (X D : List Int) (hl : X.length = D.length) (hb : X.length < 9223372036854775807) : ∀ (d k : Nat), k + d = X.length →
    iterN (fun x => st_coupletref18_Right_0 x.1 x.2.1 x.2.2.1 x.2.2.2.1 x.2.2.2.2.1 x.2.2.2.2.2.1 x.2.2.2.2.2.2.1 x.2.2.2.2.2.2.2.1 x.2.2.2.2.2.2.2.2) (d + 1) ((k : Int), h, q, b11, b12, X, b14, b15, D) =
      some (if ∀ x ∈ X.drop k ++ D.drop k, okF x then .inl (h, q, b11, b12, X, b14, b15, D) else .inr false)
  | 0, k, hk => by
    obtain rfl : k = X.length := by omega
    have e : st_coupletref18_Right_0 (X.length : Int) h q b11 b12 X b14 b15 D = some (.inr (.inl (h, q, b11, b12, X, b14, b15, D))) := by
      unfold st_coupletref18_Right_0
      rw [decide_eq_false (Int.lt_irrefl _)]
      rfl
    simp only [iterN, e]
    rw [List.drop_length, hl, List.drop_length, if_pos (by simp)]
  | d + 1, k, hk => by
    have h1 : k < X.length := by omega
    have h2 : k < D.length := by omega
    have e : st_coupletref18_Right_0 (k : Int) h q b11 b12 X b14 b15 D = if okF X[k] ∧ okF D[k] then some (.inl (((k + 1 : Nat) : Int), h, q, b11, b12, X, b14, b15, D)) else some (.inr (.inr false)) := by
      unfold st_coupletref18_Right_0
      rw [Int.toNat_natCast, getD_at h1, getD_at h2, ref02_right, ref02_right, show decide ((k : Int) < (X.length : Int)) = true from decide_eq_true (by omega), show decide (0 ≤ (k : Int)) = true from decide_eq_true (by omega), show decide (k < X.length) = true from decide_eq_true h1,
        show decide ((k : Int) < (D.length : Int)) = true from decide_eq_true (by omega), show decide (k < D.length) = true from decide_eq_true h2, inc64 (by omega)]
      by_cases x1 : okF X[k]
      · by_cases x2 : okF D[k]
        · rw [if_pos ⟨x1, x2⟩, decide_eq_true x1, decide_eq_true x2]; rfl
        · rw [if_neg (fun x => x2 x.2), decide_eq_true x1, decide_eq_false x2]; rfl
      · rw [if_neg (fun x => x1 x.1), decide_eq_false x1]; rfl
    rw [iterN]
    simp only [e]
    rw [List.drop_eq_getElem_cons h1, List.drop_eq_getElem_cons h2]
    by_cases hx : okF X[k] ∧ okF D[k]
    · rw [if_pos hx]
      dsimp only
      rw [rr_loop h q b11 b12 b14 b15 X D hl hb d (k + 1) (by omega)]
      by_cases hr : ∀ x ∈ X.drop (k + 1) ++ D.drop (k + 1), okF x
      · rw [if_pos hr, if_pos]
        intro x hm
        simp only [List.mem_append, List.mem_cons] at hm hr
        rcases hm with (rfl | hm) | (rfl | hm)
        · exact hx.1
        · exact hr x (.inl hm)
        · exact hx.2
        · exact hr x (.inr hm)
      · rw [if_neg hr, if_neg]
        intro hm
        refine hr fun x hx => hm x ?_
        simp only [List.mem_append, List.mem_cons] at hx ⊢
        rcases hx with hx | hx
        · exact .inl (.inr hx)
        · exact .inr (.inr hx)
    · rw [if_neg hx, if_neg]
      intro hm
      exact hx ⟨hm X[k] (List.mem_append_left _ (List.mem_cons_self ..)), hm D[k] (List.mem_append_right _ (List.mem_cons_self ..))⟩
theorem tm32 {h : Int} (h0 : 0 ≤ h) (h1 : h ≤ 255) : ((Int.tmod (IntKind.wrap .i64 (Int.tdiv h 32)) 2) == 1) = decide (h / 32 % 2 = 1) := by
  rw [Int.tdiv_eq_ediv_of_nonneg h0, w64 (by omega) (by omega), Int.tmod_eq_emod_of_nonneg (by omega), ibeq]
theorem rright_at (h q : Int) (b2 b3 b5 b6 : Bool) (X D : List Int) : go_coupletref18_Right h q b2 b3 X b5 b6 D = some (decide (R18 h q X D)) := by
  unfold go_coupletref18_Right
  by_cases c1 : h < 0
  · rw [decide_eq_true c1, cond_true, decide_eq_false (fun r : R18 h q X D => by have := r.1; omega)]
  by_cases c2 : h > 255
  · rw [decide_eq_false c1, cond_false, decide_eq_true c2, cond_true, decide_eq_false (fun r : R18 h q X D => by have := r.2.1; omega)]
  by_cases c3 : q < 0
  · rw [decide_eq_false c1, cond_false, decide_eq_false c2, cond_false, decide_eq_true c3, cond_true, decide_eq_false (fun r : R18 h q X D => by have := r.2.2.1; omega)]
  by_cases c4 : q > 4294967295
  · rw [decide_eq_false c1, cond_false, decide_eq_false c2, cond_false, decide_eq_false c3, cond_false, decide_eq_true c4, cond_true, decide_eq_false (fun r : R18 h q X D => by have := r.2.2.2.1; omega)]
  rw [decide_eq_false c1, cond_false, decide_eq_false c2, cond_false, decide_eq_false c3, cond_false, decide_eq_false c4, cond_false]
  by_cases c5 : X.length ≤ 4
  case neg =>
    rw [decide_eq_true (by omega), cond_true, decide_eq_false (fun r : R18 h q X D => c5 r.2.2.2.2.1)]
  rw [decide_eq_false (by omega), cond_false]
  by_cases c6 : X.length = D.length
  case neg =>
    rw [show (((X.length : Nat) : Int) != ((D.length : Nat) : Int)) = true by rw [ibne, decide_eq_false (by omega)]; rfl, cond_true, decide_eq_false (fun r : R18 h q X D => c6 r.2.2.2.2.2.1)]
  unfold lp_coupletref18_Right_0
  rw [show (((X.length : Nat) : Int) != ((D.length : Nat) : Int)) = false by rw [ibne, decide_eq_true (by omega)]; rfl, cond_false, show (0 : Int) = ((0 : Nat) : Int) from rfl,
    loopN_of (X.length + 1) (by omega) (rr_loop h q b2 b3 b5 b6 X D c6 (by omega) X.length 0 (by omega)), Option.bind_some, List.drop_zero, List.drop_zero]
  by_cases c8 : ∀ x ∈ X ++ D, okF x
  · rw [if_pos c8]
    show some (decide (((X.length : Nat) : Int) > 0) == (Int.tmod (IntKind.wrap .i64 (Int.tdiv h 32)) 2 == 1)) = _
    rw [some_len X _ _ (tm32 (by omega) (by omega))]
    congr 1
    exact decide_eq_decide.2 ⟨fun r => ⟨by omega, by omega, by omega, by omega, c5, c6, r, c8⟩, fun r => r.2.2.2.2.2.2.1⟩
  · rw [if_neg c8, decide_eq_false (fun r : R18 h q X D => c8 r.2.2.2.2.2.2.2)]
    rfl

/-! ### bytes of a record -/
def enc8 (L : List Int) : List Int := L.flatMap fun n => le 8 (u64 n)
theorem enc8_len : ∀ L : List Int, (enc8 L).length = 8 * L.length
  | [] => rfl
  | n :: L => by
    have := enc8_len L
    unfold enc8 at this ⊢
    rw [List.flatMap_cons, List.length_append, le_len, this, List.length_cons]; omega
theorem enc8_append (A B : List Int) : enc8 (A ++ B) = enc8 A ++ enc8 B := List.flatMap_append
theorem enc8_isB (L : List Int) : isB (enc8 L) := fun x hx => by
  obtain ⟨n, _, h⟩ := List.mem_flatMap.1 hx
  exact le_isB _ _ x h
def body18 (h q : Int) (X D : List Int) : List Int := [78, 82, h, (X.length : Int)] ++ le 4 (u64 q) ++ enc8 (X ++ D)
def bytes18 (h q : Int) (X D : List Int) : List Int := body18 h q X D ++ le 4 (crcV (body18 h q X D))
theorem body18_len (h q : Int) (X D : List Int) : (body18 h q X D).length = 8 + 8 * (X.length + D.length) := by
  unfold body18
  simp only [List.length_append, List.length_cons, List.length_nil, le_len, enc8_len]
theorem body18_isB {h q : Int} {X D : List Int} (h0 : 0 ≤ h) (h1 : h ≤ 255) (hl : X.length ≤ 4) : isB (body18 h q X D) := by
  unfold body18
  rw [isB_append, isB_append]
  refine ⟨⟨?_, le_isB _ _⟩, enc8_isB _⟩
  simp only [isB_cons]
  exact ⟨⟨by decide, by decide⟩, ⟨by decide, by decide⟩, ⟨h0, by omega⟩, ⟨by omega, by omega⟩, isB_nil⟩
theorem bytes18_isB {h q : Int} {X D : List Int} (h0 : 0 ≤ h) (h1 : h ≤ 255) (hl : X.length ≤ 4) : isB (bytes18 h q X D) := isB_append.2 ⟨body18_isB h0 h1 hl, le_isB _ _⟩
theorem bytes18_len (h q : Int) (X D : List Int) : (bytes18 h q X D).length = 12 + 8 * (X.length + D.length) := by
  unfold bytes18
  rw [List.length_append, body18_len, le_len]; omega
theorem wu8 {h : Int} (h0 : 0 ≤ h) (h1 : h ≤ 255) : IntKind.wrap .u8 h = h := by rw [IntKind.wrap_u8]; omega
theorem enc_loop (b11 b12 : Bool) (L : List Int) (hL : L.length ≤ 100) : ∀ (d k : Nat) (acc : List Int), k + d = L.length → acc.length + 8 * d ≤ 10000 →
    iterN (fun x => st_report_Encode_0 x.1 x.2.1 x.2.2.1 x.2.2.2.1 x.2.2.2.2.1 x.2.2.2.2.2.1 x.2.2.2.2.2.2.1 x.2.2.2.2.2.2.2) (d + 1) (b11, b12, L, (L.length : Int), (k : Int), false, false, acc) = some (false, false, acc ++ enc8 (L.drop k))
  | 0, k, acc, hk, hb => by
    obtain rfl : k = L.length := by omega
    have e : st_report_Encode_0 b11 b12 L (L.length : Int) (L.length : Int) false false acc = some (.inr (false, false, acc)) := by
      unfold st_report_Encode_0
      rw [decide_eq_false (Int.lt_irrefl _)]
      rfl
    simp only [iterN, e]
    rw [List.drop_length]
    simp [enc8]
  | d + 1, k, acc, hk, hb => by
    have hk' : k < L.length := by omega
    have hp := rput_at false acc L[k] 8 (by decide) (by omega)
    have e : st_report_Encode_0 b11 b12 L (L.length : Int) (k : Int) false false acc = some (.inl (b11, b12, L, (L.length : Int), ((k + 1 : Nat) : Int), false, false, acc ++ le 8 (u64 L[k]))) := by
      unfold st_report_Encode_0
      rw [Int.toNat_natCast, getD_at hk', show (8 : Int) = ((8 : Nat) : Int) from rfl, hp, decide_eq_true (by omega), decide_eq_true (by omega), decide_eq_true hk', inc64 (by omega)]
      rfl
    rw [iterN]
    simp only [e]
    rw [enc_loop b11 b12 L hL d (k + 1) _ (by omega) (by rw [List.length_append, le_len]; omega), List.drop_eq_getElem_cons hk', List.append_assoc]
    rfl
theorem encode_at {h q : Int} {X D : List Int} (b2 b3 b5 b6 : Bool) (hr : R18 h q X D) : go_report_Encode h q b2 b3 X b5 b6 D = some (false, false, bytes18 h q X D, 0) := by
  obtain ⟨h0, h1, q0, q1, c5, c6, c7, c8⟩ := hr
  obtain ⟨u, v, hc⟩ := concat_at false true b2 b3 b5 b6 X D (by omega) (by omega)
  have hx : IntKind.wrap .u8 ((X.length : Nat) : Int) = (X.length : Int) := wu8 (by omega) (by omega)
  have hp := rput_at true [78, 82, h, (X.length : Int)] q 4 (by decide) (by simp)
  have hl := enc_loop u v (X ++ D) (by rw [List.length_append]; omega) (X ++ D).length 0 ([78, 82, h, (X.length : Int)] ++ le 4 (u64 q)) (by omega) (by simp only [List.length_append, le_len, List.length_cons, List.length_nil]; omega)
  rw [List.drop_zero] at hl
  have hB := body18_isB (q := q) (D := D) h0 h1 c5
  have hlen := body18_len h q X D
  have hs := sum_at false false (body18 h q X D) hB (by omega)
  have hq := rput_at false (body18 h q X D) (IntKind.wrap .i64 ((crcV (body18 h q X D) : Nat) : Int)) 4 (by decide) (by omega)
  have hcr := crcV_lt hB
  rw [u64_wrap (by omega)] at hq
  unfold go_report_Encode
  rw [right_at, decide_eq_true (show R18 h q X D from ⟨h0, h1, q0, q1, c5, c6, c7, c8⟩), Option.bind_some, Bool.not_true, cond_false, wu8 h0 h1, hx, show (4 : Int) = ((4 : Nat) : Int) from rfl, hp, Option.bind_some, hc, Option.bind_some]
  dsimp only
  unfold lp_report_Encode_0
  rw [show (0 : Int) = ((0 : Nat) : Int) from rfl, loopN_of ((X ++ D).length + 1) (by rw [List.length_append]; omega) hl, Option.bind_some]
  dsimp only
  rw [show [78, 82, h, (X.length : Int)] ++ le 4 (u64 q) ++ enc8 (X ++ D) = body18 h q X D from rfl, hs, Option.bind_some, hq, Option.bind_some]
  rfl
theorem encode_not {h q : Int} {X D : List Int} (b2 b3 b5 b6 : Bool) (hr : ¬ R18 h q X D) : go_report_Encode h q b2 b3 X b5 b6 D = some (true, true, [], 1) := by
  unfold go_report_Encode
  rw [right_at, decide_eq_false hr]
  rfl
theorem renc0_loop (h q : Int) (b12 b13 b15 b16 : Bool) (X D : List Int) (hL : X.length ≤ 100) : ∀ (d k : Nat) (acc : List Int), k + d = X.length → acc.length + 8 * d ≤ 10000 →
    iterN (fun x => st_coupletref18_Encode_0 x.1 x.2.1 x.2.2.1 x.2.2.2.1 x.2.2.2.2.1 x.2.2.2.2.2.1 x.2.2.2.2.2.2.1 x.2.2.2.2.2.2.2.1 x.2.2.2.2.2.2.2.2.1 x.2.2.2.2.2.2.2.2.2.1 x.2.2.2.2.2.2.2.2.2.2.1 x.2.2.2.2.2.2.2.2.2.2.2) (d + 1) ((k : Int), h, q, b12, b13, X, b15, b16, D, false, false, acc) =
      some (h, q, b12, b13, X, b15, b16, D, false, false, acc ++ enc8 (X.drop k))
  | 0, k, acc, hk, hb => by
    obtain rfl : k = X.length := by omega
    have e : st_coupletref18_Encode_0 (X.length : Int) h q b12 b13 X b15 b16 D false false acc = some (.inr (h, q, b12, b13, X, b15, b16, D, false, false, acc)) := by
      unfold st_coupletref18_Encode_0
      rw [decide_eq_false (Int.lt_irrefl _)]
      rfl
    simp only [iterN, e]
    rw [List.drop_length]
    simp [enc8]
  | d + 1, k, acc, hk, hb => by
    have hk' : k < X.length := by omega
    obtain ⟨b, c, hp⟩ := rbytes_at (u64 X[k]) 8 (by decide) (u64_lt _)
    have e : st_coupletref18_Encode_0 (k : Int) h q b12 b13 X b15 b16 D false false acc = some (.inl (((k + 1 : Nat) : Int), h, q, b12, b13, X, b15, b16, D, false, false, acc ++ le 8 (u64 X[k]))) := by
      unfold st_coupletref18_Encode_0
      rw [Int.toNat_natCast, getD_at hk', wrap_u64', show (8 : Int) = ((8 : Nat) : Int) from rfl, hp, decide_eq_true (by omega), decide_eq_true (by omega), decide_eq_true hk', inc64 (by omega)]
      simp only [cond_true, Option.bind_some, le_len]
      rw [decide_eq_true (by omega), decide_eq_true (by omega)]
      rfl
    rw [iterN]
    simp only [e]
    rw [renc0_loop h q b12 b13 b15 b16 X D hL d (k + 1) _ (by omega) (by rw [List.length_append, le_len]; omega), List.drop_eq_getElem_cons hk', List.append_assoc]
    rfl
theorem renc1_loop (h q : Int) (b26 b27 b29 b30 : Bool) (X D : List Int) (hL : D.length ≤ 100) : ∀ (d k : Nat) (acc : List Int), k + d = D.length → acc.length + 8 * d ≤ 10000 →
    iterN (fun x => st_coupletref18_Encode_1 x.1 x.2.1 x.2.2.1 x.2.2.2.1 x.2.2.2.2.1 x.2.2.2.2.2.1 x.2.2.2.2.2.2.1 x.2.2.2.2.2.2.2.1 x.2.2.2.2.2.2.2.2.1 x.2.2.2.2.2.2.2.2.2.1 x.2.2.2.2.2.2.2.2.2.2.1 x.2.2.2.2.2.2.2.2.2.2.2) (d + 1) ((k : Int), h, q, b26, b27, X, b29, b30, D, false, false, acc) =
      some (false, false, acc ++ enc8 (D.drop k))
  | 0, k, acc, hk, hb => by
    obtain rfl : k = D.length := by omega
    have e : st_coupletref18_Encode_1 (D.length : Int) h q b26 b27 X b29 b30 D false false acc = some (.inr (false, false, acc)) := by
      unfold st_coupletref18_Encode_1
      rw [decide_eq_false (Int.lt_irrefl _)]
      rfl
    simp only [iterN, e]
    rw [List.drop_length]
    simp [enc8]
  | d + 1, k, acc, hk, hb => by
    have hk' : k < D.length := by omega
    obtain ⟨b, c, hp⟩ := rbytes_at (u64 D[k]) 8 (by decide) (u64_lt _)
    have e : st_coupletref18_Encode_1 (k : Int) h q b26 b27 X b29 b30 D false false acc = some (.inl (((k + 1 : Nat) : Int), h, q, b26, b27, X, b29, b30, D, false, false, acc ++ le 8 (u64 D[k]))) := by
      unfold st_coupletref18_Encode_1
      rw [Int.toNat_natCast, getD_at hk', wrap_u64', show (8 : Int) = ((8 : Nat) : Int) from rfl, hp, decide_eq_true (by omega), decide_eq_true (by omega), decide_eq_true hk', inc64 (by omega)]
      simp only [cond_true, Option.bind_some, le_len]
      rw [decide_eq_true (by omega), decide_eq_true (by omega)]
      rfl
    rw [iterN]
    simp only [e]
    rw [renc1_loop h q b26 b27 b29 b30 X D hL d (k + 1) _ (by omega) (by rw [List.length_append, le_len]; omega), List.drop_eq_getElem_cons hk', List.append_assoc]
    rfl
theorem rencode_at {h q : Int} {X D : List Int} (b2 b3 b5 b6 : Bool) (hr : R18 h q X D) : go_coupletref18_Encode h q b2 b3 X b5 b6 D = some (false, false, bytes18 h q X D) := by
  obtain ⟨h0, h1, q0, q1, c5, c6, c7, c8⟩ := hr
  have hx : IntKind.wrap .u8 ((X.length : Nat) : Int) = (X.length : Int) := wu8 (by omega) (by omega)
  obtain ⟨b, c, hp⟩ := rbytes_at (u64 q) 4 (by decide) (u64_lt _)
  have l0 := renc0_loop h q b2 b3 b5 b6 X D (by omega) X.length 0 ([78, 82, h, (X.length : Int)] ++ le 4 (u64 q)) (by omega) (by simp only [List.length_append, le_len, List.length_cons, List.length_nil]; omega)
  have l1 := renc1_loop h q b2 b3 b5 b6 X D (by omega) D.length 0 ([78, 82, h, (X.length : Int)] ++ le 4 (u64 q) ++ enc8 X) (by omega) (by simp only [List.length_append, le_len, enc8_len, List.length_cons, List.length_nil]; omega)
  rw [List.drop_zero] at l0 l1
  have hB := body18_isB (q := q) (D := D) h0 h1 c5
  have hlen := body18_len h q X D
  have hs := ref_sum_at false false (body18 h q X D) hB (by omega)
  have hcr := crcV_lt hB
  obtain ⟨b', c', hq⟩ := rbytes_at (crcV (body18 h q X D)) 4 (by decide) (by omega)
  have hbody : [78, 82, h, (X.length : Int)] ++ le 4 (u64 q) ++ enc8 X ++ enc8 D = body18 h q X D := by
    unfold body18
    rw [enc8_append, ← List.append_assoc]
  unfold go_coupletref18_Encode lp_coupletref18_Encode_0 lp_coupletref18_Encode_1
  rw [wu8 h0 h1, hx, wrap_u64', show (4 : Int) = ((4 : Nat) : Int) from rfl, hp, Option.bind_some]
  simp only [le_len, Bool.false_and]
  rw [decide_eq_true (by decide), cond_true, decide_eq_true (by decide), cond_true, show (0 : Int) = ((0 : Nat) : Int) from rfl]
  rw [show (78 :: 82 :: h :: (X.length : Int) :: le 4 (u64 q)) = [78, 82, h, (X.length : Int)] ++ le 4 (u64 q) from rfl, loopN_of (X.length + 1) (by omega) l0, Option.bind_some]
  dsimp only
  rw [loopN_of (D.length + 1) (by omega) l1, Option.bind_some]
  dsimp only
  rw [hbody, hs, Option.bind_some, wrap_u64_nat (by omega), hq, Option.bind_some]
  simp only [le_len, Bool.false_and]
  rw [decide_eq_true (by omega), decide_eq_true (by omega)]
  rfl
theorem same_at (n0 n1 : Int) (b2 b3 b5 b6 : Bool) (X D : List Int) (n8 n9 : Int) (b10 b11 b13 b14 : Bool) (Y E : List Int) (hX : X.length < 9223372036854775807) (hD : D.length < 9223372036854775807) :
    go_report_Same n0 n1 b2 b3 X b5 b6 D n8 n9 b10 b11 Y b13 b14 E = some (decide (n0 = n8 ∧ n1 = n9 ∧ X = Y ∧ D = E)) := by
  unfold go_report_Same
  rw [ibeq, ibeq, equal_at _ _ _ _ X Y hX, equal_at _ _ _ _ D E hD]
  by_cases h1 : n0 = n8
  · by_cases h2 : n1 = n9
    · by_cases h3 : X = Y
      · by_cases h4 : D = E
        · simp [h1, h2, h3, h4]
        · simp [h1, h2, h3, h4]
      · simp [h1, h2, h3]
    · simp [h1, h2]
  · simp [h1]
end Go.Proofs
