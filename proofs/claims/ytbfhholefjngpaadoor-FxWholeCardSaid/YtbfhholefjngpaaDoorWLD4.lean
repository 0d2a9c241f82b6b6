import Derived.Test.YtbfhholefjngpaaDoorWGD1
import Derived.Test.YtbfhholefjngpaaDoorWLh
/-
  What a number stands for, as text: the digits of the whole part, and those behind the point, one by one (plain).
-/
set_option linter.unusedVariables false
set_option linter.unusedSimpArgs false
namespace Go.Proofs
open Go Go.Fx

/-- The digit ahead, of what is left. -/
def dg1 (r : Nat) : UInt8 := UInt8.ofNat (48 + r * 10 / 16777216)
/-- The digits behind the point. -/
def frac : Nat → Nat → List UInt8
  | 0, _ => []
  | k + 1, r => if r = 0 then [] else dg1 r :: frac k (r * 10 % 16777216)
/-- The text of what is not below 0. -/
def textN (n : Nat) : List UInt8 := Lib.decDigits (n / 16777216) ++ (if n % 16777216 = 0 then [] else 46 :: frac 24 (n % 16777216))
theorem strBytes_bytesI (l : List UInt8) : strBytes (bytesI l) = l := by
  unfold strBytes bytesI
  rw [List.map_map]
  conv => rhs; rw [← List.map_id l]
  exact List.map_congr_left fun b _ => by simp
theorem bytesI_append (a b : List UInt8) : bytesI (a ++ b) = bytesI a ++ bytesI b := List.map_append
theorem bytesI_length (a : List UInt8) : (bytesI a).length = a.length := List.length_map _
theorem dg1_sp (r : Nat) (h : r < 16777216) : Lib.isSp (dg1 r) = false := by
  have h1 : r * 10 / 16777216 < 10 := by omega
  unfold dg1
  generalize r * 10 / 16777216 = d at h1
  revert d
  decide
theorem frac_sp : ∀ (k r : Nat), r < 16777216 → ∀ b ∈ frac k r, Lib.isSp b = false ∧ b.toNat < 128
  | 0, r, _, b, h => by cases h
  | k + 1, r, hr, b, h => by
    unfold frac at h
    split at h
    · cases h
    · rcases List.mem_cons.1 h with rfl | h
      · refine ⟨dg1_sp r hr, ?_⟩
        unfold dg1
        have h1 : r * 10 / 16777216 < 10 := by omega
        generalize r * 10 / 16777216 = d at h1
        revert d
        decide
      · exact frac_sp k _ (Nat.mod_lt _ (by decide)) b h
theorem frac_len : ∀ (k r : Nat), (frac k r).length ≤ k
  | 0, r => Nat.le_refl _
  | k + 1, r => by
    unfold frac
    split
    · exact Nat.zero_le _
    · have := frac_len k (r * 10 % 16777216)
      simp only [List.length_cons]
      omega
theorem fields_none : ∀ (l cur : List UInt8), (∀ b ∈ l, Lib.isSp b = false) → Lib.fieldsGo cur l = if (cur ++ l).isEmpty then [] else [cur ++ l]
  | [], cur, _ => by simp [Lib.fieldsGo]
  | b :: l, cur, h => by
    rw [Lib.fieldsGo_more cur b l (h b (List.mem_cons_self ..)), fields_none l (cur ++ [b]) (fun c hc => h c (List.mem_cons_of_mem _ hc))]
    simp
theorem fields_one (l : List UInt8) (h : ∀ b ∈ l, Lib.isSp b = false) : Lib.fields l = if l = [] then [] else [l] := by
  unfold Lib.fields
  rw [fields_none l [] h]
  cases l <;> simp
theorem fields_at (l : List UInt8) (h : ∀ b ∈ l, Lib.isSp b = false ∧ b.toNat < 128) (hl : l.length ≤ 100) : go_strings_Fields (bytesI l) = some (false, true, if l = [] then [] else [.str (bytesI l)]) := by
  have hc : (bytesI l).length < 4294967281 ∧ ∀ n ∈ bytesI l, n < 128 := ⟨by rw [bytesI_length]; omega, fun n hn => by
    unfold bytesI at hn
    obtain ⟨b, hb, rfl⟩ := List.mem_map.1 hn
    have := (h b hb).2
    omega⟩
  unfold go_strings_Fields
  rw [if_pos hc, strBytes_bytesI, fields_one l (fun b hb => (h b hb).1)]
  by_cases e : l = [] <;> simp [e]
theorem join_two (a b : List UInt8) (ha : a.length ≤ 100) (hb : b.length ≤ 100) : go_strings_Join false false [.str (bytesI a), .str (bytesI b)] [46] = some (bytesI (a ++ 46 :: b)) := by
  have e : Lib.join [a, b] [46] = a ++ 46 :: b := by simp [Lib.join, List.intercalate]
  have e2 : strBytes [46] = [46] := rfl
  have hc : (false = false) ∧ ∃ es : List (List Int), es ≠ [] ∧ [PV.str (bytesI a), PV.str (bytesI b)] = es.map .str ∧ es.length ≤ 140737488355328 ∧ (Lib.join (es.map strBytes) (strBytes [46])).length ≤ 140737488355328 := by
    refine ⟨rfl, [bytesI a, bytesI b], by simp, rfl, by simp, ?_⟩
    simp only [List.map_cons, List.map_nil, strBytes_bytesI, e2, e, List.length_append, List.length_cons]
    omega
  unfold go_strings_Join
  rw [if_pos hc]
  simp only [List.map_cons, List.map_nil, PV.chars, strBytes_bytesI, e2, e]
theorem join_one (a : List UInt8) (ha : a.length ≤ 100) : go_strings_Join false false [.str (bytesI a)] [46] = some (bytesI a) := by
  have e : Lib.join [a] [46] = a := by simp [Lib.join, List.intercalate]
  have e2 : strBytes [46] = [46] := rfl
  have hc : (false = false) ∧ ∃ es : List (List Int), es ≠ [] ∧ [PV.str (bytesI a)] = es.map .str ∧ es.length ≤ 140737488355328 ∧ (Lib.join (es.map strBytes) (strBytes [46])).length ≤ 140737488355328 := by
    refine ⟨rfl, [bytesI a], by simp, rfl, by simp, ?_⟩
    simp only [List.map_cons, List.map_nil, strBytes_bytesI, e2, e]
    omega
  unfold go_strings_Join
  rw [if_pos hc]
  simp only [List.map_cons, List.map_nil, PV.chars, strBytes_bytesI, e2, e]
/-- The end of fx.Text: the parts, joined. -/
theorem fin_at {α : Type} (s d : List UInt8) (K : List Int → Option α) (hs : s.length ≤ 100) (hd : ∀ b ∈ d, Lib.isSp b = false ∧ b.toNat < 128) (hl : d.length ≤ 100) :
    ((go_strings_Fields (bytesI d)).bind fun r8 =>
      bif (decide (((1 + (List.length r8.2.2)) * 16) ≤ 140737488355328)) then
       bif (decide ((1 + (List.length r8.2.2)) ≤ 4611686018427387904)) then
        bif (List.all r8.2.2 (fun x18 => (List.all (PV.cells x18) (fun x19 => (PV.scal x19))))) then
         (go_strings_Join (false && (List.isEmpty r8.2.2)) false ((.str (bytesI s)) :: r8.2.2) [46]).bind K
        else none
       else none
      else none) = K (bytesI (s ++ if d = [] then [] else 46 :: d)) := by
  rw [fields_at d hd hl]
  by_cases e : d = []
  · subst e
    simp only [if_true, Option.bind_some, List.length_nil, List.all_nil, Bool.false_and, join_one s hs, List.append_nil]
    rfl
  · simp only [if_neg e, Option.bind_some, List.length_cons, List.length_nil, Bool.false_and, join_two s d hs hl]
    rfl
theorem w10 (r : Nat) (h : r < 16777216) : IntKind.wrap .i64 ((r : Int) * 10) = ((r * 10 : Nat) : Int) := by
  rw [w64 (by omega) (by omega)]
  omega
theorem dec_one (r : Nat) (h : r < 16777216) : Lib.decDigits (r * 10 / 16777216) = [dg1 r] := by
  rw [Lib.decDigits, dif_pos (by omega)]
  rfl
theorem quo10 (r : Nat) (h : r < 16777216) : IntKind.wrap .i64 (Int.tdiv (IntKind.wrap .i64 ((r : Int) * 10)) 16777216) = ((r * 10 / 16777216 : Nat) : Int) := by
  rw [w10 r h, Int.tdiv_eq_ediv_of_nonneg (by omega), w64 (by omega) (by omega)]
  omega
theorem rem10 (r : Nat) (h : r < 16777216) : Int.tmod (IntKind.wrap .i64 ((r : Int) * 10)) 16777216 = ((r * 10 % 16777216 : Nat) : Int) := by
  rw [w10 r h, Int.tmod_eq_emod_of_nonneg (by omega)]
  omega
theorem itoa_at (n : Nat) (h : n < 9223372036854775808) : go_strconv_Itoa (n : Int) = some (bytesI (Lib.decDigits n)) := by
  unfold go_strconv_Itoa
  rw [if_pos (by omega), Lib.itoa_nonneg]
theorem digits_go (n : Nat) (h : n < 9223372036854775808) : go_coupletref02_digits (n : Int) = some (bytesI (Lib.decDigits n)) := by
  unfold go_coupletref02_digits
  rw [if_pos (by omega), Int.toNat_natCast]
theorem itoa_dig (r : Nat) (h : r < 16777216) : go_strconv_Itoa (IntKind.wrap .i64 (Int.tdiv (IntKind.wrap .i64 ((r : Int) * 10)) 16777216)) = some (bytesI [dg1 r]) := by
  rw [quo10 r h, itoa_at _ (by omega), dec_one r h]
theorem digits_dig (r : Nat) (h : r < 16777216) : go_coupletref02_digits (IntKind.wrap .i64 (Int.tdiv (IntKind.wrap .i64 ((r : Int) * 10)) 16777216)) = some (bytesI [dg1 r]) := by
  rw [quo10 r h, digits_go _ (by omega), dec_one r h]
theorem dvd_step {k r : Nat} (hk : k < 24) (h : 2 ^ (24 - (k + 1)) ∣ r) : 2 ^ (24 - k) ∣ r * 10 % 16777216 := by
  have e : 24 - k = (24 - (k + 1)) + 1 := by omega
  have h1 : 2 ^ (24 - k) ∣ r * 10 := by
    rw [e, Nat.pow_succ]
    exact Nat.mul_dvd_mul h ⟨5, rfl⟩
  have h2 : 2 ^ (24 - k) ∣ 16777216 := Nat.pow_dvd_pow 2 (by omega : 24 - k ≤ 24)
  exact (Nat.dvd_mod_iff h2).2 h1
theorem lp_fx (s : List UInt8) (hs : s.length ≤ 60) : ∀ (k r : Nat) (d : List UInt8), k ≤ 24 → r < 16777216 → 2 ^ (24 - k) ∣ r → d.length + k ≤ 30 → (∀ b ∈ d, Lib.isSp b = false ∧ b.toNat < 128) →
    iterN (fun x => st_fx_Text_0 x.1 x.2.1 x.2.2) (k + 1) (bytesI s, (r : Int), bytesI d) = some (bytesI (s ++ if d ++ frac k r = [] then [] else 46 :: (d ++ frac k r)))
  | 0, r, d, _, hr, hd, hl, hsp => by
    obtain ⟨q, rfl⟩ := hd
    obtain rfl : q = 0 := by omega
    have e : st_fx_Text_0 (bytesI s) ((2 ^ (24 - 0) * 0 : Nat) : Int) (bytesI d) = some (.inr (bytesI (s ++ if d = [] then [] else 46 :: d))) := by
      unfold st_fx_Text_0
      rw [decide_eq_false (by omega), cond_false]
      exact fin_at s d _ (by omega) hsp (by omega)
    simp only [iterN, e, frac, List.append_nil]
  | k + 1, r, d, hk, hr, hd, hl, hsp => by
    by_cases h0 : r = 0
    · subst h0
      have e : st_fx_Text_0 (bytesI s) ((0 : Nat) : Int) (bytesI d) = some (.inr (bytesI (s ++ if d = [] then [] else 46 :: d))) := by
        unfold st_fx_Text_0
        rw [decide_eq_false (by omega), cond_false]
        exact fin_at s d _ (by omega) hsp (by omega)
      simp only [iterN, e, frac, if_true, List.append_nil]
    · have e : st_fx_Text_0 (bytesI s) (r : Int) (bytesI d) = some (.inl (bytesI s, ((r * 10 % 16777216 : Nat) : Int), bytesI (d ++ [dg1 r]))) := by
        unfold st_fx_Text_0
        rw [decide_eq_true (by omega), cond_true, itoa_dig r hr, Option.bind_some, decide_eq_true (by rw [bytesI_length, bytesI_length]; simp only [List.length_cons, List.length_nil]; omega), cond_true, rem10 r hr, ← bytesI_append]
      have ih := lp_fx s hs k (r * 10 % 16777216) (d ++ [dg1 r]) (by omega) (Nat.mod_lt _ (by decide)) (dvd_step (by omega) hd) (by simp only [List.length_append, List.length_cons, List.length_nil]; omega) (fun b hb => by
        rcases List.mem_append.1 hb with h | h
        · exact hsp b h
        · obtain rfl := List.mem_singleton.1 h
          exact frac_sp 1 r hr _ (by unfold frac; rw [if_neg h0]; exact List.mem_cons_self ..))
      rw [iterN]
      simp only [e]
      rw [ih]
      have e3 : frac (k + 1) r = dg1 r :: frac k (r * 10 % 16777216) := by rw [frac, if_neg h0]
      rw [e3]
      simp
theorem lp_ref : ∀ (k r : Nat) (s : List UInt8), k ≤ 24 → r < 16777216 → 2 ^ (24 - k) ∣ r → s.length + k ≤ 100 →
    iterN (fun x => st_coupletref02_Text_v1_0 x.1 x.2) (k + 1) (bytesI s, (r : Int)) = some (bytesI (s ++ frac k r))
  | 0, r, s, _, hr, hd, hl => by
    obtain ⟨q, rfl⟩ := hd
    obtain rfl : q = 0 := by omega
    have e : st_coupletref02_Text_v1_0 (bytesI s) ((2 ^ (24 - 0) * 0 : Nat) : Int) = some (.inr (bytesI s)) := by
      unfold st_coupletref02_Text_v1_0
      rw [decide_eq_false (by omega), cond_false]
    simp only [iterN, e, frac, List.append_nil]
  | k + 1, r, s, hk, hr, hd, hl => by
    by_cases h0 : r = 0
    · subst h0
      have e : st_coupletref02_Text_v1_0 (bytesI s) ((0 : Nat) : Int) = some (.inr (bytesI s)) := by
        unfold st_coupletref02_Text_v1_0
        rw [decide_eq_false (by omega), cond_false]
      simp only [iterN, e, frac, if_true, List.append_nil]
    · have e : st_coupletref02_Text_v1_0 (bytesI s) (r : Int) = some (.inl (bytesI (s ++ [dg1 r]), ((r * 10 % 16777216 : Nat) : Int))) := by
        unfold st_coupletref02_Text_v1_0
        rw [decide_eq_true (by omega), cond_true, digits_dig r hr, Option.bind_some, decide_eq_true (by rw [bytesI_length, bytesI_length]; simp only [List.length_cons, List.length_nil]; omega), cond_true, rem10 r hr, ← bytesI_append]
      have ih := lp_ref k (r * 10 % 16777216) (s ++ [dg1 r]) (by omega) (Nat.mod_lt _ (by decide)) (dvd_step (by omega) hd) (by simp only [List.length_append, List.length_cons, List.length_nil]; omega)
      rw [iterN]
      simp only [e]
      rw [ih]
      have e3 : frac (k + 1) r = dg1 r :: frac k (r * 10 % 16777216) := by rw [frac, if_neg h0]
      rw [e3]
      simp
end Go.Proofs

/-
  fx.Text, and the document's: the same text (FxTexts; plain).
-/
set_option linter.unusedVariables false
set_option linter.unusedSimpArgs false
namespace Go.Proofs
open Go Go.Fx

theorem right_at (n : Int) : go_fx_Right n = some (decide (okF n)) := rfl
theorem quoU (n : Nat) (h : n ≤ 1125899906842624) : IntKind.wrap .i64 (Int.tdiv (n : Int) 16777216) = ((n / 16777216 : Nat) : Int) := by
  rw [Int.tdiv_eq_ediv_of_nonneg (by omega), w64 (by omega) (by omega)]
  omega
theorem remU (n : Nat) (h : n ≤ 1125899906842624) : Int.tmod (n : Int) 16777216 = ((n % 16777216 : Nat) : Int) := by
  rw [Int.tmod_eq_emod_of_nonneg (by omega)]
  omega
theorem decLen (n : Nat) (h : n < 9223372036854775808) : (Lib.decDigits n).length ≤ 19 := by
  have := dig_len n h
  rwa [bytesI_length] at this
theorem cons_if {r : Nat} (h : r ≠ 0) (d : List UInt8) : (if dg1 r :: d = [] then [] else 46 :: dg1 r :: d) = 46 :: dg1 r :: d := if_neg (by simp)
/-- The loop behind the first round. -/
theorem lp_go (s : List UInt8) (hs : s.length ≤ 60) (r : Nat) (h0 : r ≠ 0) (hr : r < 16777216) : lp_fx_Text_0 (bytesI s) ((r * 10 % 16777216 : Nat) : Int) (bytesI [dg1 r]) = some (bytesI (s ++ 46 :: frac 24 r)) := by
  have h := lp_fx s hs 23 (r * 10 % 16777216) [dg1 r] (by omega) (Nat.mod_lt _ (by decide)) (dvd_step (by omega) ⟨r, by simp⟩) (by simp) (fun b hb => by
    obtain rfl := List.mem_singleton.1 hb
    exact frac_sp 1 r hr _ (by unfold frac; rw [if_neg h0]; exact List.mem_cons_self ..))
  unfold lp_fx_Text_0
  rw [loopN_of 24 (by omega) h, List.singleton_append, cons_if h0]
  rw [show frac 24 r = dg1 r :: frac 23 (r * 10 % 16777216) by rw [frac, if_neg h0]]
theorem fx_text_at (n : Nat) (h : n ≤ 1125899906842624) : go_fx_Text (n : Int) = some (bytesI (textN n)) := by
  have hq := decLen (n / 16777216) (by omega)
  have hr : n % 16777216 < 16777216 := Nat.mod_lt _ (by decide)
  unfold go_fx_Text
  rw [right_at, decide_eq_true (by unfold okF; omega), Option.bind_some, Bool.not_true, cond_false, decide_eq_false (by omega), cond_false, quoU n h, itoa_at _ (by omega), Option.bind_some, decide_eq_true (by rw [bytesI_length]; omega), cond_true, remU n h]
  by_cases h0 : n % 16777216 = 0
  · rw [h0, decide_eq_false (by simp), cond_false]
    refine (fin_at (Lib.decDigits (n / 16777216)) [] _ (by omega) (by simp) (by simp)).trans ?_
    unfold textN
    rw [if_pos h0, if_pos rfl]
  · rw [decide_eq_true (by omega), cond_true, itoa_dig _ hr, Option.bind_some, decide_eq_true (by rw [bytesI_length]; simp), cond_true, rem10 _ hr]
    rw [List.nil_append, List.nil_append, lp_go _ (by omega) _ h0 hr]
    unfold textN
    rw [if_neg h0]
    rfl
theorem bytesI_cons (b : UInt8) (l : List UInt8) : bytesI (b :: l) = (b.toNat : Int) :: bytesI l := rfl
theorem fx_text_neg (n : Nat) (hp : 0 < n) (h : n ≤ 1125899906842624) : go_fx_Text (-(n : Int)) = some (bytesI (45 :: textN n)) := by
  have hq := decLen (n / 16777216) (by omega)
  have hr : n % 16777216 < 16777216 := Nat.mod_lt _ (by decide)
  have hw : IntKind.wrap .i64 (0 - -(n : Int)) = (n : Int) := by rw [w64 (by omega) (by omega)]; omega
  have h45 : ((45 : Int) :: bytesI (Lib.decDigits (n / 16777216))) = bytesI (45 :: Lib.decDigits (n / 16777216)) := rfl
  unfold go_fx_Text
  rw [right_at, decide_eq_true (by unfold okF; omega), Option.bind_some, Bool.not_true, cond_false, decide_eq_true (by omega), cond_true, hw, quoU n h, itoa_at _ (by omega), Option.bind_some, decide_eq_true (by rw [bytesI_length]; omega), cond_true, remU n h]
  by_cases h0 : n % 16777216 = 0
  · rw [h0, decide_eq_false (by simp), cond_false, h45]
    refine (fin_at (45 :: Lib.decDigits (n / 16777216)) [] _ (by simp only [List.length_cons]; omega) (by simp) (by simp)).trans ?_
    unfold textN
    rw [if_pos h0, if_pos rfl]
    rfl
  · rw [decide_eq_true (by omega), cond_true, itoa_dig _ hr, Option.bind_some, decide_eq_true (by rw [bytesI_length]; simp), cond_true, rem10 _ hr]
    rw [List.nil_append, h45, lp_go _ (by simp only [List.length_cons]; omega) _ h0 hr]
    unfold textN
    rw [if_neg h0]
    rfl
theorem refRight_at (n : Int) : go_coupletref02_Right n = some (decide (okF n)) := by
  unfold go_coupletref02_Right
  by_cases h : n ≥ -1125899906842624
  · rw [decide_eq_true h, cond_true]
    by_cases h2 : n ≤ 1125899906842624
    · rw [decide_eq_true h2, decide_eq_true (show okF n from ⟨h, h2⟩)]
    · rw [decide_eq_false h2, decide_eq_false (fun x : okF n => h2 x.2)]
  · rw [decide_eq_false h, cond_false, decide_eq_false (fun x : okF n => h x.1)]
theorem lp_ref_go (s : List UInt8) (hs : s.length ≤ 60) (r : Nat) (hr : r < 16777216) : lp_coupletref02_Text_v1_0 (bytesI s) (r : Int) = some (bytesI (s ++ frac 24 r)) := by
  have h := lp_ref 24 r s (by omega) hr ⟨r, by simp⟩ (by omega)
  unfold lp_coupletref02_Text_v1_0
  exact loopN_of 25 (by omega) h
theorem ref_text_at (n : Nat) (h : n ≤ 1125899906842624) : go_coupletref02_Text_v1 (n : Int) = some (bytesI (textN n)) := by
  have hq := decLen (n / 16777216) (by omega)
  have hr : n % 16777216 < 16777216 := Nat.mod_lt _ (by decide)
  unfold go_coupletref02_Text_v1
  rw [refRight_at, decide_eq_true (by unfold okF; omega), Option.bind_some, Bool.not_true, cond_false, decide_eq_false (by omega), cond_false, quoU n h, digits_go _ (by omega), Option.bind_some, remU n h]
  unfold textN
  by_cases h0 : n % 16777216 = 0
  · rw [h0, if_pos rfl, List.append_nil]
    rfl
  · have e : (((n % 16777216 : Nat) : Int) == 0) = false := by rw [ibeq]; exact decide_eq_false (by omega)
    rw [e, cond_false, decide_eq_true (by rw [bytesI_length]; omega), cond_true, if_neg h0]
    have e2 : bytesI (Lib.decDigits (n / 16777216)) ++ [46] = bytesI (Lib.decDigits (n / 16777216) ++ [46]) := (bytesI_append (Lib.decDigits (n / 16777216)) [46]).symm
    rw [e2, lp_ref_go _ (by simp only [List.length_append, List.length_cons, List.length_nil]; omega) _ hr, List.append_assoc]
    rfl
theorem st_same : st_coupletref02_Text_v2_0 = st_coupletref02_Text_v1_0 := rfl
theorem ref_text2 (n : Nat) (h : n ≤ 1125899906842624) : go_coupletref02_Text_v2 (n : Int) = some (bytesI (textN n)) := by
  rw [← ref_text_at n h]
  unfold go_coupletref02_Text_v2 go_coupletref02_Text_v1 lp_coupletref02_Text_v2_0 lp_coupletref02_Text_v1_0
  rw [st_same, decide_eq_false (show ¬ (n : Int) < 0 by omega), cond_false, cond_false]
theorem textLen (n : Nat) (h : n ≤ 1125899906842624) : (textN n).length ≤ 60 := by
  have hq := decLen (n / 16777216) (by omega)
  have := frac_len 24 (n % 16777216)
  unfold textN
  rw [List.length_append]
  split
  · simp only [List.length_nil]; omega
  · simp only [List.length_cons]; omega
theorem ref_text_neg (n : Nat) (hp : 0 < n) (h : n ≤ 1125899906842624) : go_coupletref02_Text_v2 (-(n : Int)) = some (bytesI (45 :: textN n)) := by
  have hw : IntKind.wrap .i64 (0 - -(n : Int)) = (n : Int) := by rw [w64 (by omega) (by omega)]; omega
  have hl := textLen n h
  unfold go_coupletref02_Text_v2
  rw [refRight_at, decide_eq_true (by unfold okF; omega), Option.bind_some, Bool.not_true, cond_false, decide_eq_true (by omega), cond_true, hw, ref_text_at n h, Option.bind_some, decide_eq_true (by rw [bytesI_length]; omega), cond_true]
  rfl
/-- What any number stands for is the document's. -/
theorem texts_same (n : Int) : ∃ t, go_fx_Text n = some t ∧ go_coupletref02_Text_v2 n = some t := by
  by_cases h : okF n
  · unfold okF at h
    rcases Int.lt_or_le n 0 with h2 | h2
    · obtain ⟨m, rfl⟩ : ∃ m : Nat, n = -(m : Int) := ⟨n.natAbs, by omega⟩
      exact ⟨_, fx_text_neg m (by omega) (by omega), ref_text_neg m (by omega) (by omega)⟩
    · obtain ⟨m, rfl⟩ := Int.eq_ofNat_of_zero_le h2
      exact ⟨_, fx_text_at m (by omega), ref_text2 m (by omega)⟩
  · refine ⟨[], ?_, ?_⟩
    · unfold go_fx_Text
      rw [right_at, decide_eq_false h]
      rfl
    · unfold go_coupletref02_Text_v2
      rw [refRight_at, decide_eq_false h]
      rfl
theorem awake_at : go_coupletlaw02_awake = some true := by
  have h1 : go_fx_Of 1 = some (16777216, true) := by
    unfold go_fx_Of
    rw [if_pos (by unfold i64; omega), show fOf 1 = (16777216, true) by decide]
  have h3 : go_fx_Of 3 = some (50331648, true) := by
    unfold go_fx_Of
    rw [if_pos (by unfold i64; omega), show fOf 3 = (50331648, true) by decide]
  have h4 : go_fx_Div 16777216 50331648 1 = some (5592405, true) := by
    unfold go_fx_Div
    rw [if_pos (by unfold i64; omega), show fDiv 16777216 50331648 1 = (5592405, true) by decide]
  have h5 : go_fx_Text 25165824 = some [49, 46, 53] := by
    have e : textN 25165824 = [49, 46, 53] := by
      unfold textN
      rw [Lib.decDigits, dif_pos (by decide)]
      decide
    have := fx_text_at 25165824 (by omega)
    rw [e] at this
    exact this
  unfold go_coupletlaw02_awake
  rw [h1]
  simp only [Option.bind_some]
  rw [h3]
  simp only [Option.bind_some]
  rw [h4]
  simp only [Option.bind_some]
  rw [h5]
  rfl
end Go.Proofs

/-
  Products, quotients, roots in units: what is asked of them (no program in sight, but for the contracts' own functions).
-/
set_option linter.unusedVariables false
set_option linter.unusedSimpArgs false
namespace Go.Proofs
open Go Go.Fx Go.Mdlaw Go.Rootlaw

theorem wf64' {n : Int} (h : (Lit.int .i64 n).wf = true) : i64 n := by
  simp only [Lit.wf, Bool.and_eq_true, decide_eq_true_eq] at h
  exact ⟨h.1, h.2⟩
theorem td_some {n : Int} {is : Bool} {L : List Int} (h : (td n is L).2 = true) : (td n is L).1 = n ∧ is = true ∧ ∀ x ∈ L, okF x := by
  unfold td at *
  split at h
  · rename_i hh; rw [if_pos hh]; exact ⟨rfl, hh⟩
  · cases h
theorem md_some' {a b c m : Int} (h : (md a b c m).2 = true) : okM a b c m := Decidable.byContradiction fun hn => by rw [md_neg hn] at h; cases h
theorem fMul_some {a b m : Int} (h : (fMul a b m).2 = true) : (fMul a b m).1 = (md a b 16777216 m).1 ∧ (md a b 16777216 m).2 = true := by
  unfold fMul at *
  have e := td_some h
  exact ⟨e.1, e.2.1⟩
theorem fDiv_some {a b m : Int} (h : (fDiv a b m).2 = true) : (fDiv a b m).1 = (md a 16777216 b m).1 ∧ (md a 16777216 b m).2 = true := by
  unfold fDiv at *
  have e := td_some h
  exact ⟨e.1, e.2.1⟩
theorem fAdd_eq (a b : Int) : fAdd a b = if okF a ∧ okF b ∧ okF (a + b) then (a + b, true) else (0, false) := by
  unfold fAdd td
  by_cases h : okF a ∧ okF b
  · rw [if_pos h]
    by_cases h2 : okF (a + b)
    · rw [if_pos ⟨rfl, fun x hx => by rw [List.mem_singleton.1 hx]; exact h2⟩, if_pos ⟨h.1, h.2, h2⟩]
    · rw [if_neg (fun x => h2 (x.2 _ (List.mem_singleton.2 rfl))), if_neg (fun x => h2 x.2.2)]
  · rw [if_neg h, if_neg (fun x => h ⟨x.1, x.2.1⟩)]
theorem fSub_eq (a b : Int) : fSub a b = if okF a ∧ okF b ∧ okF (a - b) then (a - b, true) else (0, false) := by
  unfold fSub td
  by_cases h : okF a ∧ okF b
  · rw [if_pos h]
    by_cases h2 : okF (a - b)
    · rw [if_pos ⟨rfl, fun x hx => by rw [List.mem_singleton.1 hx]; exact h2⟩, if_pos ⟨h.1, h.2, h2⟩]
    · rw [if_neg (fun x => h2 (x.2 _ (List.mem_singleton.2 rfl))), if_neg (fun x => h2 x.2.2)]
  · rw [if_neg h, if_neg (fun x => h ⟨x.1, x.2.1⟩)]

/-! ### Roots -/
noncomputable def isq (a : Int) : Nat := sqr a 16777216
theorem isq_le (a : Int) : isq a * isq a ≤ a.natAbs * 16777216 := sqr_le a 16777216
theorem isq_lt (a : Int) : a.natAbs * 16777216 < (isq a + 1) * (isq a + 1) := sqr_lt a 16777216
noncomputable def fRt (a m : Int) : Int × Bool := fRoot a m (isq a)
theorem isq_bound {x : Int} (hx : okF x) : isq x ≤ 137438953472 := by
  have h := isq_le x
  apply Nat.le_of_not_lt
  intro hn
  have h2 := Nat.mul_le_mul (show 137438953473 ≤ isq x from hn) (show 137438953473 ≤ isq x from hn)
  generalize isq x * isq x = s at *
  unfold okF at hx
  omega
theorem isq_mono {x y : Int} (h : x.natAbs ≤ y.natAbs) : isq x ≤ isq y := by
  have h1 := isq_le x
  have h2 := isq_lt y
  have h3 := isq_le y
  exact (le_root h3 h2 (isq x)).mp (Nat.le_trans h1 (Nat.mul_le_mul_right _ h))
theorem fRt_tells {x m : Int} (hx : okF x) (h0 : 0 ≤ x) (hm : 0 ≤ m ∧ m ≤ 2) : fRt x m = (((isq x + (rup m (isq x) (x.natAbs * 16777216)).toNat : Nat) : Int), true) := by
  have hb := isq_bound hx
  have ho : okRt x 16777216 m := ⟨⟨by unfold okF at hx; unfold okW; omega, by decide, by omega⟩, hm⟩
  have hr := Bool.toNat_le (rup m (isq x) (x.natAbs * 16777216))
  unfold fRt fRoot rt
  rw [if_pos ho]
  unfold td
  rw [if_pos ⟨rfl, fun z hz => by
    simp only [List.mem_cons, List.not_mem_nil, or_false] at hz
    rcases hz with rfl | rfl
    · exact hx
    · unfold okF
      show -1125899906842624 ≤ ((isq x + (rup m (isq x) (x.natAbs * 16777216)).toNat : Nat) : Int) ∧ ((isq x + (rup m (isq x) (x.natAbs * 16777216)).toNat : Nat) : Int) ≤ 1125899906842624
      omega⟩]
  rfl
theorem fRt_bad {x m : Int} (h : ¬ okF x ∨ x < 0) : fRt x m = (0, false) := by
  unfold fRt fRoot td
  rw [if_neg]
  rintro ⟨h1, h2⟩
  rcases h with h | h
  · exact h (h2 x (by simp))
  · unfold rt at h1
    rw [if_neg (fun ho => by have := ho.1.2.2; omega)] at h1
    cases h1
theorem fRt_some {a m : Int} (h : (fRt a m).2 = true) : 0 ≤ a ∧ okF a ∧ 0 ≤ m ∧ m ≤ 2 := by
  unfold fRt fRoot at h
  have e := td_some h
  have ho : okRt a 16777216 m := Decidable.byContradiction fun hn => by unfold rt at e; rw [if_neg hn] at e; cases e.2.1
  exact ⟨by have := ho.1.2.2; omega, e.2.2 _ (by simp), ho.2⟩
theorem rup_mono' {m : Int} {R P Q : Nat} (h1 : R * R ≤ P) (h : P ≤ Q) : (rup m R P).toNat ≤ (rup m R Q).toNat := by
  unfold rup
  by_cases hP : R * R = P
  · simp [hP]
  · have hQ : ¬ R * R = Q := by omega
    rw [decide_eq_false hP, decide_eq_false hQ]
    by_cases h3 : R * (R + 1) < P
    · have h4 : R * (R + 1) < Q := Nat.lt_of_lt_of_le h3 h
      rw [decide_eq_true h3, decide_eq_true h4]
      exact Nat.le_refl _
    · rw [decide_eq_false h3]
      cases decide (m = 2) <;> simp
theorem fRt_mono {a b m : Int} (hab : a ≤ b) (ha : (fRt a m).2 = true) (hb : (fRt b m).2 = true) : (fRt a m).1 ≤ (fRt b m).1 := by
  obtain ⟨a0, ao, m0, m2⟩ := fRt_some ha
  obtain ⟨b0, bo, _, _⟩ := fRt_some hb
  rw [fRt_tells ao a0 ⟨m0, m2⟩, fRt_tells bo b0 ⟨m0, m2⟩]
  have hm := isq_mono (x := a) (y := b) (by omega)
  have l1 := isq_le a
  have r1 := Bool.toNat_le (rup m (isq a) (a.natAbs * 16777216))
  show ((isq a + (rup m (isq a) (a.natAbs * 16777216)).toNat : Nat) : Int) ≤ ((isq b + (rup m (isq b) (b.natAbs * 16777216)).toNat : Nat) : Int)
  rcases Nat.lt_or_ge (isq a) (isq b) with h | h
  · omega
  · have he : isq a = isq b := by omega
    have hle : a.natAbs * 16777216 ≤ b.natAbs * 16777216 := Nat.mul_le_mul_right _ (by omega)
    rw [he] at l1 ⊢
    exact Int.ofNat_le.mpr (Nat.add_le_add_left (rup_mono' l1 hle) _)

/-! ### Products and quotients, rounded -/
theorem more_mono {m : Int} {s : Bool} {q r r' d : Nat} (h : r ≤ r') (hr : r' < d) : (more m s q r d).toNat ≤ (more m s q r' d).toNat := by
  unfold more
  by_cases h0 : r = 0
  · rw [if_pos h0]; exact Nat.zero_le _
  · rw [if_neg h0, if_neg (show ¬ r' = 0 by omega)]
    split
    · by_cases h1 : d < 2 * r
      · rw [decide_eq_true h1, decide_eq_true (show d < 2 * r' by omega)]; exact Nat.le_refl _
      · rw [decide_eq_false h1]
        by_cases h2 : 2 * r = d
        · by_cases h3 : d < 2 * r'
          · rw [decide_eq_true h3, Bool.true_or]
            exact Bool.toNat_le _
          · have : r' = r := by omega
            subst this
            rw [decide_eq_false h3]
            exact Nat.le_refl _
        · rw [decide_eq_false h2]
          exact Nat.zero_le _
    · exact Nat.le_refl _
def rnd (m : Int) (s : Bool) (p d : Nat) : Nat := p / d + (more m s (p / d) (p % d) d).toNat
theorem rnd_mono {m : Int} {s : Bool} {p p' d : Nat} (hd : 0 < d) (h : p ≤ p') : rnd m s p d ≤ rnd m s p' d := by
  unfold rnd
  have h1 : p / d ≤ p' / d := Nat.div_le_div_right h
  have h2 := Bool.toNat_le (more m s (p / d) (p % d) d)
  rcases Nat.lt_or_ge (p / d) (p' / d) with h3 | h3
  · omega
  · have e : p / d = p' / d := by omega
    have a1 := Nat.div_add_mod p d
    have a2 := Nat.div_add_mod p' d
    rw [e] at a1 ⊢
    exact Nat.add_le_add_left (more_mono (by omega) (Nat.mod_lt _ hd)) _
theorem md_val {a e f m : Int} (he : 0 < e) (hf : 0 < f) (h : (md a e f m).2 = true) : (md a e f m).1 = if a < 0 then -((rnd m true (a.natAbs * e.natAbs) f.natAbs : Nat) : Int) else ((rnd m false (a.natAbs * e.natAbs) f.natAbs : Nat) : Int) := by
  have ho := md_some' h
  rw [md_pos ho] at h ⊢
  unfold core at h ⊢
  have hs : neg3 a e f = decide (a < 0) := by
    unfold neg3
    rw [decide_eq_false (show ¬ e < 0 by omega), decide_eq_false (show ¬ f < 0 by omega)]
    cases decide (a < 0) <;> rfl
  rw [hs] at h ⊢
  rw [fit_some h]
  by_cases ha : a < 0
  · rw [decide_eq_true ha, if_pos rfl, if_pos ha]; rfl
  · rw [decide_eq_false ha, if_neg (by simp), if_neg ha]; rfl
theorem md_mono {a b e f m : Int} (he : 0 < e) (hf : 0 < f) (hab : a ≤ b) (ha : (md a e f m).2 = true) (hb : (md b e f m).2 = true) : (md a e f m).1 ≤ (md b e f m).1 := by
  rw [md_val he hf ha, md_val he hf hb]
  have hd : 0 < f.natAbs := by omega
  by_cases h1 : a < 0
  · rw [if_pos h1]
    by_cases h2 : b < 0
    · rw [if_pos h2]
      have := rnd_mono (m := m) (s := true) hd (Nat.mul_le_mul_right e.natAbs (show b.natAbs ≤ a.natAbs by omega))
      omega
    · rw [if_neg h2]; omega
  · rw [if_neg h1, if_neg (show ¬ b < 0 by omega)]
    have := rnd_mono (m := m) (s := false) hd (Nat.mul_le_mul_right e.natAbs (show a.natAbs ≤ b.natAbs by omega))
    omega
theorem md_nought {a f m : Int} (h : (md a 0 f m).2 = true) : (md a 0 f m).1 = 0 := by
  rw [md_exact (md_some' h) (n := 0) (by decide) (by simp)]
theorem fMul_mono {a b c m : Int} (hc : 0 ≤ c) (hab : a ≤ b) (ha : (fMul a c m).2 = true) (hb : (fMul b c m).2 = true) : (fMul a c m).1 ≤ (fMul b c m).1 := by
  have e1 := fMul_some ha
  have e2 := fMul_some hb
  rw [e1.1, e2.1]
  by_cases h0 : c = 0
  · subst h0
    rw [md_nought e1.2, md_nought e2.2]
    exact Int.le_refl _
  · exact md_mono (by omega) (by decide) hab e1.2 e2.2
theorem fDiv_mono {a b c m : Int} (hc : 0 ≤ c) (hab : a ≤ b) (ha : (fDiv a c m).2 = true) (hb : (fDiv b c m).2 = true) : (fDiv a c m).1 ≤ (fDiv b c m).1 := by
  have e1 := fDiv_some ha
  have e2 := fDiv_some hb
  rw [e1.1, e2.1]
  have h0 := (md_some' e1.2).2.2.2.1
  exact md_mono (by decide) (by omega) hab e1.2 e2.2
theorem fMul_modes {a b : Int} (h1 : (fMul a b 1).2 = true) (h0 : (fMul a b 0).2 = true) (h2 : (fMul a b 2).2 = true) : (fMul a b 1).1 ≤ (fMul a b 0).1 ∧ (fMul a b 0).1 ≤ (fMul a b 2).1 ∧ (fMul a b 2).1 ≤ (fMul a b 1).1 + 1 := by
  have e0 := fMul_some h0
  have e1 := fMul_some h1
  have e2 := fMul_some h2
  rw [e0.1, e1.1, e2.1]
  exact md_modes (md_some' e0.2) e1.2 e0.2 e2.2
theorem fDiv_modes {a b : Int} (h1 : (fDiv a b 1).2 = true) (h0 : (fDiv a b 0).2 = true) (h2 : (fDiv a b 2).2 = true) : (fDiv a b 1).1 ≤ (fDiv a b 0).1 ∧ (fDiv a b 0).1 ≤ (fDiv a b 2).1 ∧ (fDiv a b 2).1 ≤ (fDiv a b 1).1 + 1 := by
  have e0 := fDiv_some h0
  have e1 := fDiv_some h1
  have e2 := fDiv_some h2
  rw [e0.1, e1.1, e2.1]
  exact md_modes (md_some' e0.2) e1.2 e0.2 e2.2
theorem fRt_modes {a : Int} (h1 : (fRt a 1).2 = true) (h0 : (fRt a 0).2 = true) (h2 : (fRt a 2).2 = true) : (fRt a 1).1 ≤ (fRt a 0).1 ∧ (fRt a 0).1 ≤ (fRt a 2).1 ∧ (fRt a 2).1 ≤ (fRt a 1).1 + 1 := by
  obtain ⟨a0, ao, _, _⟩ := fRt_some h1
  rw [fRt_tells ao a0 (by decide), fRt_tells ao a0 (by decide), fRt_tells ao a0 (by decide)]
  have k : (rup 1 (isq a) (a.natAbs * 16777216)).toNat = 0 ∧ (rup 0 (isq a) (a.natAbs * 16777216)).toNat ≤ (rup 2 (isq a) (a.natAbs * 16777216)).toNat ∧ (rup 2 (isq a) (a.natAbs * 16777216)).toNat ≤ 1 := by
    refine ⟨by unfold rup; simp, ?_, Bool.toNat_le _⟩
    unfold rup
    cases decide (isq a * isq a = a.natAbs * 16777216) <;> simp
    exact Bool.toNat_le _
  show ((isq a + (rup 1 (isq a) (a.natAbs * 16777216)).toNat : Nat) : Int) ≤ ((isq a + (rup 0 (isq a) (a.natAbs * 16777216)).toNat : Nat) : Int) ∧ ((isq a + (rup 0 (isq a) (a.natAbs * 16777216)).toNat : Nat) : Int) ≤ ((isq a + (rup 2 (isq a) (a.natAbs * 16777216)).toNat : Nat) : Int) ∧ ((isq a + (rup 2 (isq a) (a.natAbs * 16777216)).toNat : Nat) : Int) ≤ ((isq a + (rup 1 (isq a) (a.natAbs * 16777216)).toNat : Nat) : Int) + 1
  omega
theorem fMul_one {a m : Int} (ha : okF a) (hm : 0 ≤ m ∧ m ≤ 2) : fMul a 16777216 m = (a, true) := by
  unfold fMul
  rw [md_back (by unfold okF at ha; unfold okW; omega) (by decide) (by decide) hm]
  unfold td
  rw [if_pos ⟨rfl, fun x hx => by
    simp only [List.mem_cons, List.not_mem_nil, or_false] at hx
    rcases hx with rfl | rfl | rfl
    · exact ha
    · decide
    · exact ha⟩]
theorem fDiv_one {a m : Int} (ha : okF a) (hm : 0 ≤ m ∧ m ≤ 2) : fDiv a 16777216 m = (a, true) := by
  unfold fDiv
  rw [md_back (by unfold okF at ha; unfold okW; omega) (by decide) (by decide) hm]
  unfold td
  rw [if_pos ⟨rfl, fun x hx => by
    simp only [List.mem_cons, List.not_mem_nil, or_false] at hx
    rcases hx with rfl | rfl | rfl
    · exact ha
    · decide
    · exact ha⟩]
theorem fOf_in {n : Int} (h : -67108864 ≤ n ∧ n ≤ 67108864) : fOf n = (n * 16777216, true) := by
  unfold fOf
  rw [md_exact (n := n * 16777216) ⟨by unfold okW; omega, by decide, by decide, by decide, by decide, by decide⟩ (by unfold okW; omega) (by omega)]
  unfold td
  rw [if_pos ⟨rfl, fun x hx => by rw [List.mem_singleton.1 hx]; unfold okF; omega⟩]
theorem fOf_out {n : Int} (h : n < -67108864 ∨ 67108864 < n) : fOf n = (0, false) := by
  unfold fOf
  by_cases hs : -274877906943 ≤ n ∧ n ≤ 274877906943
  · rw [md_exact (n := n * 16777216) ⟨by unfold okW; omega, by decide, by decide, by decide, by decide, by decide⟩ (by unfold okW; omega) (by omega)]
    unfold td
    rw [if_neg]
    rintro ⟨_, h2⟩
    have := h2 _ (List.mem_singleton.2 rfl)
    unfold okF at this
    omega
  · have e : (md n 16777216 1 0).2 = false := by
      by_cases ho : okM n 16777216 1 0
      · rw [md_pos ho]
        unfold core
        rw [fit_gt]
        have e1 : (1 : Int).natAbs = 1 := rfl
        have e2 : (16777216 : Int).natAbs = 16777216 := rfl
        rw [e1, e2, Nat.div_one]
        omega
      · rw [md_neg ho]
    unfold td
    rw [if_neg]
    rintro ⟨h1, _⟩
    rw [e] at h1
    cases h1
end Go.Proofs

/-
  The laws FxTexts, FxProducts, FxSums, FxRoots, FxWhole, FxBetween, FxBack, FxOrder (plain).
-/
set_option linter.unusedVariables false
set_option linter.unusedSimpArgs false
namespace Go.Proofs
open Go Go.Fx Go.Mdlaw Go.Rootlaw

theorem gi_Mul {a b m : Int} (ha : i64 a) (hb : i64 b) (hm : i64 m) : go_fx_Mul a b m = some (fMul a b m) := if_pos ⟨ha, hb, hm⟩
theorem gi_Div {a b m : Int} (ha : i64 a) (hb : i64 b) (hm : i64 m) : go_fx_Div a b m = some (fDiv a b m) := if_pos ⟨ha, hb, hm⟩
theorem gi_Root {a m : Int} (ha : i64 a) (hm : i64 m) : go_fx_Root a m = some (fRt a m) := if_pos ⟨ha, hm⟩
theorem gi_Add (a b : Int) : go_fx_Add a b = some (fAdd a b) := rfl
theorem gi_Sub (a b : Int) : go_fx_Sub a b = some (fSub a b) := rfl
theorem gi_Of {a : Int} (ha : i64 a) : go_fx_Of a = some (fOf a) := if_pos ha
theorem go_told (n : Int) (b : Bool) : go_coupletref02_Told n b = some (if b = true ∧ okF n then (n, true) else (0, false)) := by
  unfold go_coupletref02_Told
  rw [refRight_at]
  cases b
  · rfl
  · by_cases h : okF n <;> simp [h]
theorem go_mul (x y m : Int) : go_coupletref02_Mul x y m = some (fMul x y m) := by
  have e : go_coupletref01_MulDiv x y 16777216 m = some ((md x y 16777216 m).1, (md x y 16777216 m).2) := rfl
  unfold go_coupletref02_Mul fMul td
  simp only [refRight_at, Option.bind_some, e, go_told]
  generalize md x y 16777216 m = r
  by_cases hx : okF x
  · by_cases hy : okF y
    · by_cases hr : okF r.1
      · cases hb : r.2 <;> simp [hx, hy, hr, hb]
      · simp [hx, hy, hr]
    · simp [hx, hy]
  · simp [hx]
theorem go_div (x y m : Int) : go_coupletref02_Div x y m = some (fDiv x y m) := by
  have e : go_coupletref01_MulDiv x 16777216 y m = some ((md x 16777216 y m).1, (md x 16777216 y m).2) := rfl
  unfold go_coupletref02_Div fDiv td
  simp only [refRight_at, Option.bind_some, e, go_told]
  generalize md x 16777216 y m = r
  by_cases hx : okF x
  · by_cases hy : okF y
    · by_cases hr : okF r.1
      · cases hb : r.2 <;> simp [hx, hy, hr, hb]
      · simp [hx, hy, hr]
    · simp [hx, hy]
  · simp [hx]
theorem go_rt {x : Int} (hx : okF x) : go_coupletref02_Root x = some (((isq x : Nat) : Int), !decide (isq x * isq x < x.natAbs * 16777216)) := by
  have hw : okW x := by unfold okF at hx; unfold okW; omega
  have h : go_coupletref01_Root x 16777216 = some (((sqr x 16777216 : Nat) : Int), !decide (sqr x 16777216 * sqr x 16777216 < x.natAbs * (16777216 : Int).natAbs)) := if_pos ⟨hw, by decide⟩
  have e : sqr x 16777216 = isq x := rfl
  unfold go_coupletref02_Root
  rw [h, e]
  rfl

theorem law_FxProducts {n0 n1 n2 : Int} (w0 : (Lit.int .i64 n0).wf = true) (w1 : (Lit.int .i64 n1).wf = true) (w2 : (Lit.int .i64 n2).wf = true) : go_coupletlaw02_FxProducts n0 n1 n2 = some true := by
  unfold go_coupletlaw02_FxProducts
  rw [gi_Mul (wf64' w0) (wf64' w1) (wf64' w2), Option.bind_some, go_mul, Option.bind_some, gi_Div (wf64' w0) (wf64' w1) (wf64' w2), Option.bind_some, go_div, Option.bind_some]
  simp only [beq_self_eq_true, cond_true, right_at, refRight_at, Option.bind_some, awake_at]
theorem law_FxSums {n0 n1 : Int} (w0 : (Lit.int .i64 n0).wf = true) (w1 : (Lit.int .i64 n1).wf = true) : go_coupletlaw02_FxSums n0 n1 = some true := by
  unfold go_coupletlaw02_FxSums
  rw [gi_Add, Option.bind_some, gi_Sub, Option.bind_some, refRight_at, Option.bind_some]
  by_cases h0 : okF n0
  · rw [decide_eq_true h0, Bool.not_true, cond_false, refRight_at, Option.bind_some]
    by_cases h1 : okF n1
    · have e1 : IntKind.wrap .i64 (n0 + n1) = n0 + n1 := by unfold okF at h0 h1; exact w64 (by omega) (by omega)
      have e2 : IntKind.wrap .i64 (n0 - n1) = n0 - n1 := by unfold okF at h0 h1; exact w64 (by omega) (by omega)
      rw [decide_eq_true h1, Bool.not_true, cond_false, e1, e2, go_told, Option.bind_some, go_told, Option.bind_some, fAdd_eq, fSub_eq]
      simp only [h0, h1, true_and, beq_self_eq_true, cond_true, awake_at, Option.bind_some]
    · rw [decide_eq_false h1, fAdd_eq, fSub_eq, if_neg (fun x => h1 x.2.1), if_neg (fun x => h1 x.2.1), awake_at]
      rfl
  · rw [decide_eq_false h0, fAdd_eq, fSub_eq, if_neg (fun x => h0 x.1), if_neg (fun x => h0 x.1), awake_at]
    rfl
theorem bif_same (b : Bool) : (bif b then some true else some true) = some true := by cases b <;> rfl
theorem law_FxRoots {n0 : Int} (w0 : (Lit.int .i64 n0).wf = true) : go_coupletlaw02_FxRoots n0 = some true := by
  have i0 := wf64' w0
  unfold go_coupletlaw02_FxRoots
  rw [gi_Root i0 (by unfold i64; omega), Option.bind_some, gi_Root i0 (by unfold i64; omega), Option.bind_some, gi_Root i0 (by unfold i64; omega), Option.bind_some, refRight_at, Option.bind_some]
  by_cases h0 : okF n0
  · rw [decide_eq_true h0, Bool.not_true, cond_false]
    by_cases h1 : n0 < 0
    · rw [decide_eq_true h1, cond_true, fRt_bad (.inr h1), fRt_bad (.inr h1), fRt_bad (.inr h1), awake_at]
      rfl
    · have hb := isq_bound h0
      have l1 := isq_le n0
      have hw : IntKind.wrap .i64 (((isq n0 : Nat) : Int) + 1) = ((isq n0 + 1 : Nat) : Int) := by rw [w64 (by omega) (by omega)]; rfl
      rw [decide_eq_false h1, cond_false, go_rt h0, Option.bind_some, fRt_tells h0 (by omega) (by decide), fRt_tells h0 (by omega) (by decide), fRt_tells h0 (by omega) (by decide), awake_at]
      have r1 : rup 1 (isq n0) (n0.natAbs * 16777216) = false := by unfold rup; simp
      rw [r1]
      simp only [Bool.toNat_false, Nat.add_zero]
      rw [hw]
      by_cases h2 : isq n0 * isq n0 < n0.natAbs * 16777216
      · have r2 : rup 2 (isq n0) (n0.natAbs * 16777216) = true := by unfold rup; simp; omega
        rw [decide_eq_true h2, r2]
        simp only [Bool.not_true, Bool.not_false, cond_true, Bool.toNat_true, beq_self_eq_true, Option.bind_some]
        cases rup 0 (isq n0) (n0.natAbs * 16777216)
        · simp only [Bool.toNat_false, Nat.add_zero, beq_self_eq_true, cond_true]
        · simp only [Bool.toNat_true, beq_self_eq_true, cond_true, bif_same]
      · have r2 : rup 2 (isq n0) (n0.natAbs * 16777216) = false := by unfold rup; simp; omega
        have r0 : rup 0 (isq n0) (n0.natAbs * 16777216) = false := by unfold rup; simp; omega
        rw [decide_eq_false h2, r2, r0]
        simp only [Bool.not_true, Bool.not_false, cond_true, cond_false, Bool.toNat_false, Nat.add_zero, beq_self_eq_true, Option.bind_some]
  · rw [decide_eq_false h0, fRt_bad (.inl h0), fRt_bad (.inl h0), fRt_bad (.inl h0), awake_at]
    rfl
theorem law_FxWhole {n0 : Int} (w0 : (Lit.int .i64 n0).wf = true) : go_coupletlaw02_FxWhole n0 = some true := by
  unfold go_coupletlaw02_FxWhole
  rw [gi_Of (wf64' w0), Option.bind_some]
  by_cases h1 : n0 < -67108864
  · rw [decide_eq_true h1, fOf_out (.inl h1), awake_at]
    rfl
  · rw [decide_eq_false h1, cond_false]
    by_cases h2 : n0 > 67108864
    · rw [decide_eq_true h2, fOf_out (.inr h2), awake_at]
      rfl
    · have e : IntKind.wrap .i64 (n0 * 16777216) = n0 * 16777216 := w64 (by omega) (by omega)
      obtain ⟨t, g1, g2⟩ := texts_same (n0 * 16777216)
      rw [decide_eq_false h2, cond_false, fOf_in ⟨by omega, by omega⟩, e]
      simp only [beq_self_eq_true, cond_true]
      rw [g1, Option.bind_some, g2, Option.bind_some, beq_self_eq_true, cond_true, awake_at]
      rfl
theorem between {x y z : Int × Bool} (hx : -9223372036854775808 ≤ x.1 ∧ x.1 < 9223372036854775807) (h : x.2 = true → y.2 = true → z.2 = true → x.1 ≤ y.1 ∧ y.1 ≤ z.1 ∧ z.1 ≤ x.1 + 1) :
    (bif (!x.2) then some true else bif (!y.2) then some true else bif (!z.2) then some true else bif (decide (x.1 ≤ y.1)) then bif (decide (y.1 ≤ z.1)) then some (decide (z.1 ≤ (IntKind.wrap .i64 (x.1 + 1)))) else some false else some false) = some true := by
  cases h1 : x.2
  · rfl
  cases h2 : y.2
  · rfl
  cases h3 : z.2
  · rfl
  obtain ⟨a, b, c⟩ := h h1 h2 h3
  rw [decide_eq_true a, decide_eq_true b, w64 (by omega) (by omega), decide_eq_true c]
  rfl
theorem td_small (n : Int) (is : Bool) (L : List Int) (hn : n ∈ L) : -1125899906842624 ≤ (td n is L).1 ∧ (td n is L).1 ≤ 1125899906842624 := by
  unfold td
  split
  · rename_i h; exact h.2 n hn
  · simp
theorem law_FxBetween {n0 n1 : Int} (w0 : (Lit.int .i64 n0).wf = true) (w1 : (Lit.int .i64 n1).wf = true) : go_coupletlaw02_FxBetween n0 n1 = some true := by
  have i0 := wf64' w0
  have i1 := wf64' w1
  have j0 : i64 0 := by unfold i64; omega
  have j1 : i64 1 := by unfold i64; omega
  have j2 : i64 2 := by unfold i64; omega
  have b1 : go_coupletlaw02_FxBetween_1 n0 n1 = some true := by
    unfold go_coupletlaw02_FxBetween_1 go_coupletlaw02_FxBetween_2
    rw [gi_Mul i0 i1 j1, gi_Mul i0 i1 j0, gi_Mul i0 i1 j2]
    simp only [Option.bind_some]
    have hb : -1125899906842624 ≤ (fMul n0 n1 1).1 ∧ (fMul n0 n1 1).1 ≤ 1125899906842624 := td_small _ _ _ (by simp)
    exact between ⟨by omega, by omega⟩ fun h1 h0 h2 => fMul_modes h1 h0 h2
  have b2 : go_coupletlaw02_FxBetween_1_v1 n0 n1 = some true := by
    unfold go_coupletlaw02_FxBetween_1_v1 go_coupletlaw02_FxBetween_3
    rw [gi_Div i0 i1 j1, gi_Div i0 i1 j0, gi_Div i0 i1 j2]
    simp only [Option.bind_some]
    have hb : -1125899906842624 ≤ (fDiv n0 n1 1).1 ∧ (fDiv n0 n1 1).1 ≤ 1125899906842624 := td_small _ _ _ (by simp)
    exact between ⟨by omega, by omega⟩ fun h1 h0 h2 => fDiv_modes h1 h0 h2
  have b3 : go_coupletlaw02_FxBetween_1_v2 n0 = some true := by
    unfold go_coupletlaw02_FxBetween_1_v2 go_coupletlaw02_FxBetween_4
    rw [gi_Root i0 j1, gi_Root i0 j0, gi_Root i0 j2]
    simp only [Option.bind_some]
    have hb : -1125899906842624 ≤ (fRt n0 1).1 ∧ (fRt n0 1).1 ≤ 1125899906842624 := td_small _ _ _ (by simp)
    exact between ⟨by omega, by omega⟩ fun h1 h0 h2 => fRt_modes h1 h0 h2
  unfold go_coupletlaw02_FxBetween
  rw [b1, Option.bind_some, cond_true, b2, Option.bind_some, cond_true, b3, Option.bind_some, cond_true, awake_at]
  rfl
theorem law_FxBack {n0 n1 n2 : Int} (w0 : (Lit.int .i64 n0).wf = true) (w1 : (Lit.int .i64 n1).wf = true) (w2 : (Lit.int .i64 n2).wf = true) : go_coupletlaw02_FxBack n0 n1 n2 = some true := by
  unfold go_coupletlaw02_FxBack
  rw [refRight_at, Option.bind_some, awake_at]
  by_cases h0 : okF n0
  · rw [decide_eq_true h0, Bool.not_true, cond_false, refRight_at, Option.bind_some]
    by_cases h1 : okF n1
    · rw [decide_eq_true h1, Bool.not_true, cond_false]
      by_cases h2 : n2 < 0
      · rw [decide_eq_true h2]; rfl
      · rw [decide_eq_false h2, cond_false]
        by_cases h3 : n2 > 2
        · rw [decide_eq_true h3]; rfl
        · rw [decide_eq_false h3, cond_false, gi_Mul (wf64' w0) (by unfold i64; omega) (wf64' w2), Option.bind_some, gi_Div (wf64' w0) (by unfold i64; omega) (wf64' w2), Option.bind_some, gi_Add, Option.bind_some,
            fMul_one h0 ⟨by omega, by omega⟩, fDiv_one h0 ⟨by omega, by omega⟩]
          simp only [Bool.not_true, cond_false, bne_self_eq_false]
          rw [fAdd_eq]
          by_cases h4 : okF (n0 + n1)
          · rw [if_pos ⟨h0, h1, h4⟩]
            simp only [Bool.not_true, cond_false]
            rw [gi_Sub, Option.bind_some, fSub_eq, show n0 + n1 - n1 = n0 by omega, if_pos ⟨h4, h1, h0⟩]
            simp only [beq_self_eq_true, cond_true, Option.bind_some]
          · rw [if_neg (fun x => h4 x.2.2)]
            rfl
    · rw [decide_eq_false h1]; rfl
  · rw [decide_eq_false h0]; rfl
theorem lesser {x y : Int × Bool} (h : x.2 = true → y.2 = true → x.1 ≤ y.1) : (bif (!x.2) then some true else bif (!y.2) then some true else some (decide (x.1 ≤ y.1))) = some true := by
  cases h1 : x.2
  · rfl
  cases h2 : y.2
  · rfl
  rw [decide_eq_true (h h1 h2)]
  rfl
theorem fAdd_mono {a b c : Int} (hab : a ≤ b) (h1 : (fAdd a c).2 = true) (h2 : (fAdd b c).2 = true) : (fAdd a c).1 ≤ (fAdd b c).1 := by
  rw [fAdd_eq] at h1 h2 ⊢
  rw [fAdd_eq]
  split at h1
  · split at h2
    · rename_i x y
      rw [if_pos x, if_pos y]
      show a + c ≤ b + c
      omega
    · cases h2
  · cases h1
theorem law_FxOrder {n0 n1 n2 n3 : Int} (w0 : (Lit.int .i64 n0).wf = true) (w1 : (Lit.int .i64 n1).wf = true) (w2 : (Lit.int .i64 n2).wf = true) (w3 : (Lit.int .i64 n3).wf = true) : go_coupletlaw02_FxOrder n0 n1 n2 n3 = some true := by
  have i0 := wf64' w0
  have i1 := wf64' w1
  have i2 := wf64' w2
  have i3 := wf64' w3
  unfold go_coupletlaw02_FxOrder
  rw [awake_at]
  by_cases h1 : n0 > n1
  · rw [decide_eq_true h1]; rfl
  by_cases h2 : n2 < 0
  · rw [decide_eq_false h1, decide_eq_true h2]; rfl
  have b1 : go_coupletlaw02_FxOrder_1 n2 n0 n1 = some true := by
    unfold go_coupletlaw02_FxOrder_1 go_coupletlaw02_FxOrder_2
    simp only [gi_Add, Option.bind_some]
    exact lesser fun x y => fAdd_mono (by omega) x y
  have b2 : go_coupletlaw02_FxOrder_1_v1 n2 n3 n0 n1 = some true := by
    unfold go_coupletlaw02_FxOrder_1_v1 go_coupletlaw02_FxOrder_3
    simp only [gi_Mul i0 i2 i3, gi_Mul i1 i2 i3, Option.bind_some]
    exact lesser fun x y => fMul_mono (by omega) (by omega) x y
  have b3 : go_coupletlaw02_FxOrder_1_v2 n3 n0 n1 = some true := by
    unfold go_coupletlaw02_FxOrder_1_v2 go_coupletlaw02_FxOrder_4
    simp only [gi_Root i0 i3, gi_Root i1 i3, Option.bind_some]
    exact lesser fun x y => fRt_mono (by omega) x y
  have b4 : go_coupletlaw02_FxOrder_1_v3 n2 n3 n0 n1 = some true := by
    unfold go_coupletlaw02_FxOrder_1_v3 go_coupletlaw02_FxOrder_5
    simp only [gi_Div i0 i2 i3, gi_Div i1 i2 i3, Option.bind_some]
    exact lesser fun x y => fDiv_mono (by omega) (by omega) x y
  rw [decide_eq_false h1, cond_false, decide_eq_false h2, cond_false, b1, Option.bind_some, cond_true, b2, Option.bind_some, cond_true, b3, Option.bind_some, cond_true, b4, Option.bind_some, cond_true]
  rfl
theorem law_FxTexts {n0 : Int} (w0 : (Lit.int .i64 n0).wf = true) : go_coupletlaw02_FxTexts n0 = some true := by
  obtain ⟨t, h1, h2⟩ := texts_same n0
  unfold go_coupletlaw02_FxTexts
  rw [h1, Option.bind_some, h2, Option.bind_some, beq_self_eq_true, cond_true, awake_at]
  rfl
end Go.Proofs

