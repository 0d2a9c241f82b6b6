/-
  Numbers, written and read again.
-/
import Derived.Test.YtlfffpkfipdboaaDoorWLP4
import Derived.Test.YtlfffpkfipdboaaDoorWLP2
import Derived.Test.YtlfffpkfipdboaaDoorWLFn
set_option linter.unusedVariables false
set_option linter.unusedSimpArgs false
noncomputable section
namespace Go.Proofs
open Go Go.Fx
abbrev DV := List Int × Option (List Int) × Int × Int × Int
def wordPV : Option (List Int) → PV
  | none => .isl true true .u8 []
  | some b => .isl false false .u8 b
def doPV (d : DV) : PV := .agg [.str d.1, wordPV d.2.1, .int .i64 d.2.2.1, .int .i64 d.2.2.2.1, .int .i64 d.2.2.2.2]
def feedK : List Int := [102, 101, 101, 100]
def faultK : List Int := [102, 97, 117, 108, 116]
def resetK : List Int := [114, 101, 115, 101, 116]
def feedI : List (List Int) → Option (List Int)
  | [x] => hexB x
  | _ => none
def faultI : List (List Int) → Option (Int × Int × Int)
  | [a, b, c] => bif (refNum a).2 && ((refNum b).2 && (refNum c).2) then some ((refNum a).1, (refNum b).1, (refNum c).1) else none
  | _ => none
def lineW (v : List Int) (ws : List (List Int)) : Option DV :=
  bif v == feedK then (feedI ws).map fun b => (v, some b, 0, 0, 0)
  else bif v == faultK then (faultI ws).map fun p => (v, none, p)
  else bif v == resetK then (match ws with | [] => some (v, none, 0, 0, 0) | _ => none)
  else none
def lineI (s : List Int) : Option DV := match cutC 32 s with
  | [] => none
  | v :: ws => lineW v ws
def parseI (k : Nat) : List (List Int) → Nat ⊕ List DV
  | [] => .inr []
  | s :: r => bif s == [] then parseI (k + 1) r else match lineI s with
    | none => .inl (k + 1)
    | some d => match parseI (k + 1) r with
      | .inl j => .inl j
      | .inr ds => .inr (d :: ds)
theorem len_ne {n k : Nat} (h : n ≠ k) : (((n : Nat) : Int) != (k : Int)) = true := by rw [bne_iff_ne]; omega
theorem reader1_law {ws : List (List Int)} (hb : ∀ w ∈ ws, isB w) (b0 b1 : Bool) : ∃ r, go_flight_readers_1 b0 b1 (strs ws) = some r ∧ (match feedI ws with
    | none => r.2.2.2.2.2.2.2 = false
    | some bs => r = ([], false, false, bs, 0, 0, 0, true)) := by
  match ws, hb with
  | [], _ => exact ⟨_, rfl, rfl⟩
  | [x], hb =>
    have e : go_flight_readers_1 b0 b1 (strs [x]) = (go_new_flight_bytes x).bind fun r3 => some ([], r3.1, false, r3.2.2.1, 0, 0, 0, r3.2.2.2) := rfl
    obtain ⟨h1, _⟩ := bytes_law (hb x (List.mem_singleton.2 rfl))
    rw [e, h1, Option.bind_some]
    show ∃ r, _ ∧ (match hexB x with | none => _ | some bs => _)
    cases hexB x with
    | none => exact ⟨_, rfl, rfl⟩
    | some bs => exact ⟨_, rfl, rfl⟩
  | x :: y :: r, _ =>
    refine ⟨([], true, true, [], 0, 0, 0, false), ?_, rfl⟩
    unfold go_flight_readers_1
    rw [strs_len, show ((((x :: y :: r).length : Nat) : Int) != 1) = true from len_ne (k := 1) (by simp), cond_true]
theorem reader2_law {ws : List (List Int)} (hb : ∀ w ∈ ws, isB w) (hl : ∀ w ∈ ws, w.length ≤ 100000) (b0 b1 : Bool) : ∃ r, go_flight_readers_2 b0 b1 (strs ws) = some r ∧ (match faultI ws with
    | none => r.2.2.2.2.2.2.2 = false
    | some p => r = ([], true, true, [], p.1, p.2.1, p.2.2, true)) := by
  match ws, hb, hl with
  | [], _, _ => exact ⟨_, rfl, rfl⟩
  | [x], _, _ => exact ⟨_, rfl, rfl⟩
  | [x, y], _, _ => exact ⟨_, rfl, rfl⟩
  | [a, b, c], hb, hl =>
    obtain ⟨va, ha, ga⟩ := number_law (hb a (by simp)) (hl a (by simp))
    obtain ⟨vb, hb', gb⟩ := number_law (hb b (by simp)) (hl b (by simp))
    obtain ⟨vc, hc, gc⟩ := number_law (hb c (by simp)) (hl c (by simp))
    have e : go_flight_readers_2 b0 b1 (strs [a, b, c]) = (go_flight_number a).bind fun r3 => (go_flight_number b).bind fun r4 => (go_flight_number c).bind fun r5 =>
        bif r3.2 then (bif r4.2 then some ([], true, true, [], r3.1, r4.1, r5.1, r5.2) else some ([], true, true, [], r3.1, r4.1, r5.1, false)) else some ([], true, true, [], r3.1, r4.1, r5.1, false) := rfl
    rw [e, ha, hb', hc]
    simp only [Option.bind_some, faultI]
    cases h1 : (refNum a).2 with
    | false => exact ⟨_, rfl, rfl⟩
    | true =>
      cases h2 : (refNum b).2 with
      | false => exact ⟨_, rfl, rfl⟩
      | true =>
        cases h3 : (refNum c).2 with
        | false => exact ⟨_, rfl, rfl⟩
        | true =>
          refine ⟨_, rfl, ?_⟩
          simp only [Bool.true_and, cond_true]
          rw [ga h1, gb h2, gc h3]
  | x :: y :: z :: u :: r, _, _ =>
    refine ⟨([], true, true, [], 0, 0, 0, false), ?_, rfl⟩
    unfold go_flight_readers_2
    rw [strs_len, show ((((x :: y :: z :: u :: r).length : Nat) : Int) != 3) = true from len_ne (k := 3) (by simp), cond_true]
theorem reader3_law (ws : List (List Int)) (b0 b1 : Bool) : go_flight_readers_3 b0 b1 (strs ws) = some ([], true, true, [], 0, 0, 0, (ws == [])) := by
  cases ws with
  | nil => rfl
  | cons x r =>
    unfold go_flight_readers_3
    rw [show ((((strs (x :: r)).length : Nat) : Int) == 0) = false from by rw [strs_len, beq_eq_false_iff_ne, List.length_cons]; omega]
    rfl
theorem rest_strs (v : List Int) (ws : List (List Int)) : List.take (Int.toNat (((strs (v :: ws)).length : Int) - 1)) (List.drop 1 (strs (v :: ws))) = strs ws := by
  have : Int.toNat (((strs (v :: ws)).length : Int) - 1) = (strs ws).length := by rw [strs_len, strs_len, List.length_cons]; omega
  rw [this]
  show List.take _ (strs ws) = _
  exact List.take_length
def stP (b2 b3 : Bool) (es4 : List PV) (b5 b6 : Bool) (L : List (List Int)) (n : Int) (i : Nat) (b10 b11 : Bool) (es : List PV) := st_flight_Parse_0 b2 b3 es4 b5 b6 (strs L) n (i : Int) b10 b11 es
theorem parse_line {L : List (List Int)} (hb : ∀ w ∈ L, isB w) (hl : ∀ w ∈ L, w.length ≤ 100000) {i : Nat} (hi : i < L.length) (hL : L.length ≤ 200000) (b2 b3 : Bool) (es4 : List PV) (b5 b6 b10 b11 : Bool) {es : List PV} (hes : es.length ≤ 200000) :
    stP b2 b3 es4 b5 b6 L (L.length : Nat) i b10 b11 es = some (bif L.getD i [] == [] then .inl (b2, b3, es4, b5, b6, strs L, (L.length : Nat), ((i + 1 : Nat) : Int), b10, b11, es) else match lineI (L.getD i []) with
      | none => .inr (.inr (true, true, [], ((i + 1 : Nat) : Int), 4))
      | some d => .inl (b2, b3, es4, b5, b6, strs L, (L.length : Nat), ((i + 1 : Nat) : Int), false, false, es ++ [doPV d])) := by
  have w1 : IntKind.wrap .i64 ((i : Int) + 1) = ((i + 1 : Nat) : Int) := by rw [w64 (by omega) (by omega)]; rfl
  have c1 : decide ((i : Int) < ((L.length : Nat) : Int)) = true := dt (by omega)
  have c2 : decide ((0 : Int) ≤ (i : Int)) = true := dt (by omega)
  have c3 : decide (i < L.length) = true := dt hi
  have c4 : decide ((es.length + 1) * 64 ≤ 140737488355328) = true := dt (by omega)
  have c5 : decide (es.length + 1 ≤ 4611686018427387904) = true := dt (by omega)
  have hm : L.getD i [] ∈ L := by
    rw [List.getD_eq_getElem?_getD, List.getElem?_eq_getElem hi]; exact List.getElem_mem hi
  have hg := strs_get hi
  revert hm
  unfold stP st_flight_Parse_0
  simp only [strs_len, Int.toNat_natCast, w1, c1, c2, c3, hg, scal_str, ok_str, chars_str, cond_true]
  generalize L.getD i [] = s
  intro hm
  cases hs : s == [] with
  | true => rfl
  | false =>
    simp only [cond_false]
    obtain ⟨ex, hsp⟩ := split_law (c := 32) (by decide) (hb s hm) (hl s hm)
    have hcb := isB_cut (c := 32) (hb s hm)
    have hcl := cut_len (c := 32) s
    rw [hsp]
    simp only [Option.bind_some, lineI]
    cases hc : cutC 32 s with
    | nil => exact absurd hc (cutC_ne _ _)
    | cons v ws =>
      rw [hc] at hcb hcl
      have hcb' : ∀ w ∈ ws, isB w := fun w hw => hcb w (List.mem_cons_of_mem _ hw)
      have hcl' : ∀ w ∈ ws, w.length ≤ 100000 := fun w hw => Nat.le_trans (hcl.2 w (List.mem_cons_of_mem _ hw)) (hl s hm)
      have d1 : decide ((0 : Int) < (((v :: ws).length : Nat) : Int)) = true := dt (by simp only [List.length_cons]; omega)
      have d2 : decide (0 < (v :: ws).length) = true := dt (by simp)
      have d3 : (strs (v :: ws)).getD 0 .nilSl = .str v := rfl
      have d4 : decide ((1 : Int) ≤ (((v :: ws).length : Nat) : Int)) = true := dt (by simp only [List.length_cons]; omega)
      have d5 : decide ((((v :: ws).length : Nat) : Int) ≤ (((v :: ws).length : Nat) : Int)) = true := dt (by omega)
      have d6 : go_flight_readers = some readKeys := rfl
      have d7 := rest_strs v ws
      rw [strs_len] at d7
      simp only [strs_len, d1, d2, d3, d4, d5, d6, d7, scal_str, ok_str, chars_str, cond_true, Option.bind_some]
      unfold lineW
      show (bif v == feedK then _ else bif v == faultK then _ else bif v == resetK then _ else _) = _
      cases hv1 : v == feedK with
      | true =>
        obtain ⟨r, h1, h2⟩ := reader1_law hcb' false ex
        simp only [cond_true, h1, Option.bind_some]
        cases hf : feedI ws with
        | none => rw [hf] at h2; simp only at h2; rw [h2]; rfl
        | some bs =>
          rw [hf] at h2; simp only at h2; subst h2
          simp only [Bool.not_true, cond_false, c4, c5, cond_true, Bool.and_false]
          rfl
      | false =>
        simp only [cond_false]
        cases hv2 : v == faultK with
        | true =>
          obtain ⟨r, h1, h2⟩ := reader2_law hcb' hcl' false ex
          simp only [cond_true, h1, Option.bind_some]
          cases hf : faultI ws with
          | none => rw [hf] at h2; simp only at h2; rw [h2]; rfl
          | some p =>
            rw [hf] at h2; simp only at h2; subst h2
            simp only [Bool.not_true, cond_false, c4, c5, cond_true, Bool.and_false]
            rfl
        | false =>
          simp only [cond_false]
          cases hv3 : v == resetK with
          | true =>
            have h1 := reader3_law ws false ex
            simp only [cond_true, h1, Option.bind_some]
            cases ws with
            | nil =>
              simp only [show (([] : List (List Int)) == []) = true from rfl, Bool.not_true, cond_false, c4, c5, cond_true, Bool.and_false]
              rfl
            | cons y r => rfl
          | false => rfl
theorem parse_law {l : List Int} (hb : isB l) (hl : l.length ≤ 65536) : go_flight_Parse l = some (match parseI 0 (cutC 10 (trimNL l)) with
    | .inl j => (true, true, [], (j : Int), 4)
    | .inr ds => (ds.isEmpty, ds.isEmpty, ds.map doPV, ((cutC 10 (trimNL l)).length : Int), 0)) := by
  unfold go_flight_Parse
  rw [df (show ¬ ((l.length : Nat) : Int) > 65536 by omega), cond_false]
  obtain ⟨ex, hf⟩ := flines_law hb (by omega)
  have hLb := isB_cut (c := 10) (trimNL_isB hb)
  have hLl := cut_len (c := 10) (trimNL l)
  have htl := trimNL_len l
  rw [hf, Option.bind_some]
  generalize cutC 10 (trimNL l) = L at hLb hLl ⊢
  have hll : ∀ w ∈ L, w.length ≤ 100000 := fun w hw => by have := hLl.2 w hw; omega
  have hL : L.length ≤ 200000 := by omega
  have key : lp_flight_Parse_0 false ex (strs L) false ex (strs L) (((strs L).length : Nat) : Int) 0 true true [] = some (match parseI 0 L with
      | .inl j => Sum.inr (true, true, [], (j : Int), 4)
      | .inr ds => Sum.inl (false, ex, strs L, ds.isEmpty, ds.isEmpty, ds.map doPV)) := by
    unfold lp_flight_Parse_0
    refine loop_spec (Y := (Bool × Bool × List PV × Bool × Bool × List PV) ⊕ (Bool × Bool × List PV × Int × Int)) (step := fun x : Bool × Bool × List PV × Bool × Bool × List PV × Int × Int × Bool × Bool × List PV => st_flight_Parse_0 x.1 x.2.1 x.2.2.1 x.2.2.2.1 x.2.2.2.2.1 x.2.2.2.2.2.1 x.2.2.2.2.2.2.1 x.2.2.2.2.2.2.2.1 x.2.2.2.2.2.2.2.2.1 x.2.2.2.2.2.2.2.2.2.1 x.2.2.2.2.2.2.2.2.2.2)
      (fun x => match parseI 0 L with
      | .inl j => Sum.inr (true, true, [], (j : Int), 4)
      | .inr ds => Sum.inl (false, ex, strs L, ds.isEmpty, ds.isEmpty, ds.map doPV))
      (fun x => ∃ (i : Nat) (ds : List DV), x = (false, ex, strs L, false, ex, strs L, (((strs L).length : Nat) : Int), (i : Int), ds.isEmpty, ds.isEmpty, ds.map doPV) ∧ i ≤ L.length ∧ ds.length ≤ i ∧ parseI 0 L = (match parseI i (L.drop i) with | .inl j => .inl j | .inr es => .inr (ds ++ es)))
      (fun x => L.length - x.2.2.2.2.2.2.2.1.toNat) (fun x ⟨i, ds, hx, q1, q2, q3⟩ => ?_) ⟨0, [], rfl, Nat.zero_le _, Nat.le_refl _, ?_⟩ ?_
    · subst hx
      dsimp only
      rw [strs_len]
      by_cases hi : i < L.length
      · have hs := parse_line hLb hll hi hL false ex (strs L) false ex ds.isEmpty ds.isEmpty (es := ds.map doPV) (by rw [List.length_map]; omega)
        unfold stP at hs
        rw [hs]
        have hd : L.drop i = L.getD i [] :: L.drop (i + 1) := by
          rw [List.getD_eq_getElem?_getD, List.getElem?_eq_getElem hi]; exact List.drop_eq_getElem_cons hi
        rw [hd, parseI] at q3
        revert q3
        generalize L.getD i [] = s
        intro q3
        cases he : s == [] with
        | true =>
          rw [he, cond_true] at q3
          rw [cond_true]
          exact .inr ⟨_, rfl, ⟨i + 1, ds, rfl, by omega, by omega, q3⟩, by dsimp only; omega, rfl⟩
        | false =>
          rw [he, cond_false] at q3
          rw [cond_false]
          cases hc : lineI s with
          | none =>
            rw [hc] at q3
            left; rw [q3]
          | some d =>
            rw [hc] at q3
            right
            refine ⟨_, rfl, ⟨i + 1, ds ++ [d], by simp, by omega, by simp; omega, ?_⟩, by dsimp only; omega, rfl⟩
            rw [q3]
            cases parseI (i + 1) (L.drop (i + 1)) with
            | inl j => rfl
            | inr es => simp
      · left
        have hn : L.drop i = [] := List.drop_eq_nil_of_le (by omega)
        rw [hn, parseI] at q3
        simp only [List.append_nil] at q3
        unfold st_flight_Parse_0
        rw [df (show ¬ ((i : Int) < ((L.length : Nat) : Int)) by omega), cond_false, q3]
    · show _ = (match parseI 0 L with | .inl j => _ | .inr es => _)
      cases parseI 0 L <;> rfl
    · dsimp only; omega
  rw [key, Option.bind_some]
  cases parseI 0 L with
  | inl j => rfl
  | inr ds =>
    show some (ds.isEmpty, ds.isEmpty, ds.map doPV, (((strs L).length : Nat) : Int), 0) = _
    rw [strs_len]
end Go.Proofs
end
set_option linter.unusedVariables false
set_option linter.unusedSimpArgs false
noncomputable section
namespace Go.Proofs
open Go Go.Fx
theorem hexG_pair (a b : Int) (r : List Int) : hexG (-1) (a :: b :: r) = bif decide (hexV a < 0) then none else bif decide (hexV b < 0) then none else (hexG (-1) r).map fun q => (hexV a * 16 + hexV b) :: q := by
  rw [hexG]
  cases h : decide (hexV a < 0) with
  | true => rfl
  | false =>
    rw [cond_false, dt (show (-1 : Int) < 0 by decide), cond_true, hexG, h, cond_false, cond_false]
theorem get_isB {l : List Int} (hb : isB l) {i : Nat} (hi : i < l.length) : 0 ≤ l.getD i 0 ∧ l.getD i 0 < 256 := by
  rw [List.getD_eq_getElem?_getD, List.getElem?_eq_getElem hi]
  exact hb _ (List.getElem_mem hi)
end Go.Proofs
end
set_option linter.unusedVariables false
set_option linter.unusedSimpArgs false
noncomputable section
namespace Go.Proofs
open Go Go.Fx
def decI (n : Nat) : List Int := bytesI (Lib.decDigits n)
theorem decI_low {n : Nat} (h : n < 10) : decI n = [48 + (n : Int)] := by
  unfold decI
  rw [Lib.decDigits.eq_def, dif_pos h]
  simp only [bytesI, List.map_cons, List.map_nil, UInt8.toNat_ofNat']
  congr 1; omega
theorem decI_high {n : Nat} (h : ¬ n < 10) : decI n = decI (n / 10) ++ [48 + ((n % 10 : Nat) : Int)] := by
  unfold decI
  rw [Lib.decDigits.eq_def, dif_neg h]
  simp only [bytesI, List.map_append, List.map_cons, List.map_nil, UInt8.toNat_ofNat']
  congr 2; omega
theorem decI_dig (n : Nat) : ∀ c ∈ decI n, 48 ≤ c ∧ c ≤ 57 := by
  induction n using Nat.strongRecOn with
  | _ n ih =>
    intro c hc
    by_cases h : n < 10
    · rw [decI_low h, List.mem_singleton] at hc; omega
    · rw [decI_high h, List.mem_append, List.mem_singleton] at hc
      rcases hc with hc | hc
      · exact ih (n / 10) (by omega) c hc
      · omega
theorem decI_ne (n : Nat) : decI n ≠ [] := by
  by_cases h : n < 10
  · rw [decI_low h]; simp
  · rw [decI_high h]; simp
theorem digsI_snoc (c : Int) : ∀ (l : List Int) (n : Int), (digsI n l).2 = true → 48 ≤ c ∧ c ≤ 57 → digsI n (l ++ [c]) = ((digsI n l).1 * 10 + (c - 48), true)
  | [], n, _, hc => by simp only [List.nil_append, digsI, dt hc, cond_true]
  | x :: r, n, h, hc => by
    rw [List.cons_append, digsI]
    rw [digsI] at h
    by_cases hx : 48 ≤ x ∧ x ≤ 57
    · rw [dt hx, cond_true] at h ⊢
      rw [digsI_snoc c r _ h hc, digsI, dt hx, cond_true]
    · rw [df hx, cond_false] at h; cases h
theorem digs_dec (n : Nat) : digsI 0 (decI n) = ((n : Int), true) := by
  induction n using Nat.strongRecOn with
  | _ n ih =>
    by_cases h : n < 10
    · rw [decI_low h]
      simp only [digsI]
      rw [dt (show (48 : Int) ≤ 48 + (n : Int) ∧ 48 + (n : Int) ≤ 57 by omega), cond_true]
      congr 1; omega
    · have hi := ih (n / 10) (by omega)
      rw [decI_high h, digsI_snoc _ _ _ (by rw [hi]) (by omega), hi]
      congr 1; omega
theorem decI_head (n : Nat) : (decI n).getD 0 0 = 48 → n = 0 := by
  induction n using Nat.strongRecOn with
  | _ n ih =>
    by_cases h : n < 10
    · rw [decI_low h]; intro e
      have e : 48 + (n : Int) = 48 := e
      omega
    · rw [decI_high h]
      have hne := decI_ne (n / 10)
      have ih' := ih (n / 10) (by omega)
      revert hne ih'
      cases decI (n / 10) with
      | nil => intro hne; exact absurd rfl hne
      | cons x r =>
        intro _ ih' e
        have := ih' e
        omega
theorem decI_len : ∀ (k n : Nat), (decI n).length ≤ k + 1 ↔ n < 10 ^ (k + 1)
  | 0, n => by
    by_cases h : n < 10
    · rw [decI_low h]; simp; omega
    · rw [decI_high h, List.length_append, List.length_singleton]
      have := List.length_pos_iff.2 (decI_ne (n / 10))
      constructor <;> intro q <;> omega
  | k + 1, n => by
    by_cases h : n < 10
    · rw [decI_low h, List.length_singleton]
      have : 10 ≤ 10 ^ (k + 1 + 1) := Nat.le_trans (by decide) (Nat.pow_le_pow_right (n := 10) (by decide) (show 1 ≤ k + 1 + 1 by omega))
      constructor <;> intro q <;> omega
    · rw [decI_high h, List.length_append, List.length_singleton]
      have := decI_len k (n / 10)
      have e : 10 ^ (k + 1 + 1) = 10 ^ (k + 1) * 10 := Nat.pow_succ ..
      rw [e]
      generalize 10 ^ (k + 1) = p at this ⊢
      omega
theorem decI_len16 (n : Nat) : (decI n).length ≤ 16 ↔ n < 10000000000000000 := decI_len 15 n
theorem ref_dec (n : Nat) : refNum (decI n) = if n < 10000000000000000 then ((n : Int), true) else (0, false) := by
  have hne := decI_ne n
  have hd := decI_dig n
  have hg := digs_dec n
  have hh := decI_head n
  have hl := decI_len16 n
  have h0 : n = 0 → decI n = [48] := fun h => by rw [h]; exact decI_low (by decide)
  revert hne hd hg hh hl h0
  cases decI n with
  | nil => intro hne; exact absurd rfl hne
  | cons c r =>
    intro _ hd hg hh hl h0
    have hc := hd c (List.mem_cons_self ..)
    have e45 : (c == 45) = false := by rw [beq_eq_false_iff_ne]; omega
    rw [refNum, e45, cond_false]
    by_cases hn : n < 10000000000000000
    · rw [if_pos hn, df (show ¬ (c :: r).length > 16 by have := hl.2 hn; omega), Bool.false_or]
      have : (c == 48 && decide ((c :: r).length > 1)) = false := by
        cases h48 : c == 48 with
        | false => rfl
        | true =>
          have := h0 (hh (eq_of_beq h48))
          rw [this]; rfl
      rw [this, cond_false, hg]
    · rw [if_neg hn, dt (show (c :: r).length > 16 by have := mt hl.1 hn; omega), Bool.true_or, cond_true]
def itoaI (n : Int) : List Int := bytesI (Lib.itoa n)
theorem itoa_neg {n : Int} (h : n < 0) : itoaI n = 45 :: decI n.natAbs := by
  unfold itoaI Lib.itoa; rw [if_pos h]; rfl
theorem itoa_pos {n : Int} (h : ¬ n < 0) : itoaI n = decI n.toNat := by
  unfold itoaI Lib.itoa; rw [if_neg h]; rfl
def fewI (n : Int) : Bool := decide (-9999999999999999 ≤ n ∧ n ≤ 9999999999999999)
theorem ref_itoa (n : Int) : (refNum (itoaI n)).2 = fewI n ∧ (fewI n = true → (refNum (itoaI n)).1 = n) := by
  unfold fewI
  by_cases h : n < 0
  · rw [itoa_neg h, refNum, show ((45 : Int) == 45) = true from rfl, cond_true, ref_dec]
    by_cases hn : n.natAbs < 10000000000000000
    · rw [if_pos hn, dt (show -9999999999999999 ≤ n ∧ n ≤ 9999999999999999 by omega), Bool.true_and]
      exact ⟨dt (show ((n.natAbs : Nat) : Int) > 0 by omega), fun _ => by dsimp only; omega⟩
    · rw [if_neg hn, df (show ¬ (-9999999999999999 ≤ n ∧ n ≤ 9999999999999999) by omega), Bool.false_and]
      exact ⟨rfl, fun h => by cases h⟩
  · rw [itoa_pos h, ref_dec]
    by_cases hn : n.toNat < 10000000000000000
    · rw [if_pos hn, dt (show -9999999999999999 ≤ n ∧ n ≤ 9999999999999999 by omega)]
      exact ⟨rfl, fun _ => by dsimp only; omega⟩
    · rw [if_neg hn, df (show ¬ (-9999999999999999 ≤ n ∧ n ≤ 9999999999999999) by omega)]
      exact ⟨rfl, fun h => by cases h⟩
theorem itoa_chars (n : Int) : ∀ c ∈ itoaI n, 45 ≤ c ∧ c ≤ 57 := by
  intro c hc
  by_cases h : n < 0
  · rw [itoa_neg h] at hc
    rcases List.mem_cons.1 hc with hc | hc
    · omega
    · have := decI_dig _ c hc; omega
  · rw [itoa_pos h] at hc
    have := decI_dig _ c hc; omega
theorem itoa_isB (n : Int) : isB (itoaI n) := fun c hc => by have := itoa_chars n c hc; omega
theorem itoa_len {n : Int} (h : -9223372036854775808 ≤ n ∧ n ≤ 9223372036854775807) : (itoaI n).length ≤ 20 := by
  by_cases h' : n < 0
  · rw [itoa_neg h', List.length_cons]
    have := (decI_len 18 n.natAbs).2 (by rw [show (10 : Nat) ^ (18 + 1) = 10000000000000000000 from rfl]; omega)
    omega
  · rw [itoa_pos h']
    have := (decI_len 18 n.toNat).2 (by rw [show (10 : Nat) ^ (18 + 1) = 10000000000000000000 from rfl]; omega)
    omega
theorem go_itoa {n : Int} (h : -9223372036854775808 ≤ n ∧ n ≤ 9223372036854775807) : go_strconv_Itoa n = some (itoaI n) := if_pos h
theorem small_law {n : Int} (h : -9223372036854775808 ≤ n ∧ n ≤ 9223372036854775807) : go_flight_small n = some (fewI n) := by
  unfold go_flight_small
  obtain ⟨v, h1, h2⟩ := number_law (itoa_isB n) (Nat.le_trans (itoa_len h) (by decide))
  rw [go_itoa h, Option.bind_some, h1, Option.bind_some]
  exact congrArg some (ref_itoa n).1
end Go.Proofs
end
