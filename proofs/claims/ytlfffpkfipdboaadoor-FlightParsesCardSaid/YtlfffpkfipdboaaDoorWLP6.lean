/-
  What the law itself reads off a line.
-/
import Derived.Test.YtlfffpkfipdboaaDoorWLP3
import Derived.Test.YtlfffpkfipdboaaDoorWGF2
import Derived.Test.YtlfffpkfipdboaaDoorWLFn
set_option linter.unusedVariables false
set_option linter.unusedSimpArgs false
noncomputable section
namespace Go.Proofs
open Go Go.Fx
def hexL : List Int := [48, 49, 50, 51, 52, 53, 54, 55, 56, 57, 97, 98, 99, 100, 101, 102]
def hexV (c : Int) : Int := bif decide (48 ≤ c ∧ c ≤ 57) then c - 48 else bif decide (97 ≤ c ∧ c ≤ 102) then c - 87 else -1
theorem hexV_le (c : Int) : -1 ≤ hexV c ∧ hexV c ≤ 15 := by
  unfold hexV
  by_cases h1 : 48 ≤ c ∧ c ≤ 57
  · rw [dt h1, cond_true]; omega
  · rw [df h1, cond_false]
    by_cases h2 : 97 ≤ c ∧ c ≤ 102
    · rw [dt h2, cond_true]; omega
    · rw [df h2, cond_false]; omega
set_option maxRecDepth 100000 in
theorem hex_idx : ∀ n : Nat, n < 128 → Lib.indexByte (strBytes hexL) (byt (n : Int)) = hexV (n : Int) := by decide
theorem hexL_isB : isB hexL := by
  intro x hx
  simp only [hexL, List.mem_cons, List.not_mem_nil, or_false] at hx
  omega
theorem hexL_low : ∀ x ∈ hexL, x < 128 := by
  intro x hx
  simp only [hexL, List.mem_cons, List.not_mem_nil, or_false] at hx
  omega
theorem hexL_get {i : Nat} (h : i < 16) : hexL.getD i 0 ∈ hexL := by
  have hi : i < hexL.length := h
  rw [List.getD_eq_getElem?_getD, List.getElem?_eq_getElem hi]
  exact List.getElem_mem hi
theorem noidx {x : Int} (hx : 0 ≤ x ∧ x < 256) : ∀ {l : List Int}, isB l → x ∉ l → Lib.indexByte (strBytes l) (byt x) = -1
  | [], _, _ => rfl
  | y :: r, hb, hn => by
    have ih := noidx hx (isB_cons.1 hb).2 (fun h => hn (List.mem_cons_of_mem _ h))
    have e : (y == x) = false := by rw [beq_eq_false_iff_ne]; intro h; exact hn (by rw [h]; exact List.mem_cons_self ..)
    rw [strBytes_cons, Lib.indexByte, byt_beq (isB_cons.1 hb).1 hx, e, ih]
    rfl
theorem sign_last {r : Int} (h1 : 128 ≤ r) (h2 : r ≤ 1114111) : ∃ pre x, signB r = pre ++ [x] ∧ 128 ≤ x ∧ x < 256 ∧ pre.length ≤ 3 := by
  have key : ∀ c : Nat, ((UInt8.ofNat (128 + c % 64)).toNat : Int) = 128 + (c % 64 : Nat) := fun c => by
    rw [UInt8.toNat_ofNat']; omega
  unfold signB Utf8.encode
  have hc : 128 ≤ (if Utf8.valid r = true then r.toNat else Utf8.runeError) := by
    split
    · omega
    · decide
  generalize (if Utf8.valid r = true then r.toNat else Utf8.runeError) = c at hc
  simp only
  rw [if_neg (by omega)]
  split
  · exact ⟨[_], _, rfl, by show (128 : Int) ≤ ((UInt8.ofNat (128 + c % 64)).toNat : Int); rw [key]; omega, by show ((UInt8.ofNat (128 + c % 64)).toNat : Int) < 256; rw [key]; omega, by simp⟩
  · split
    · exact ⟨[_, _], _, rfl, by show (128 : Int) ≤ ((UInt8.ofNat (128 + c % 64)).toNat : Int); rw [key]; omega, by show ((UInt8.ofNat (128 + c % 64)).toNat : Int) < 256; rw [key]; omega, by simp⟩
    · exact ⟨[_, _, _], _, rfl, by show (128 : Int) ≤ ((UInt8.ofNat (128 + c % 64)).toNat : Int); rw [key]; omega, by show ((UInt8.ofNat (128 + c % 64)).toNat : Int) < 256; rw [key]; omega, by simp⟩
theorem idxrune_high {r : Int} (h1 : 128 ≤ r) (h2 : r ≤ 1114111) : go_strings_IndexRune hexL r = some (-1) := by
  unfold go_strings_IndexRune
  rw [dt (show (0 : Int) ≤ r by omega), cond_true, df (show ¬ r < 128 by omega), cond_false]
  by_cases he : r = 65533
  · have e : (r == 65533) = true := by simpa using he
    rw [e, cond_true]
    have hloop : lp_strings_IndexRune_0 hexL 0 = some (.inl ()) := by
      unfold lp_strings_IndexRune_0
      exact loop_spec (step := fun x : List Int × Nat => st_strings_IndexRune_0 x.1 x.2) (fun _ => Sum.inl ()) (fun x => x.1 = hexL ∧ x.2 ≤ 16) (fun x => 16 - x.2) (fun x ⟨q1, q2⟩ => by
        obtain ⟨l, i⟩ := x
        dsimp only at q1 q2 ⊢
        subst q1
        unfold st_strings_IndexRune_0
        by_cases hi : i < 16
        · right
          have hl := hexL_low _ (hexL_get hi)
          obtain ⟨r1, r2⟩ := rune_low hexL_isB (i := i) hi hl
          have e2 : (hexL.getD i 0 == 65533) = false := by rw [beq_eq_false_iff_ne]; omega
          rw [dt (show i < hexL.length from hi), cond_true, r1, r2, e2, cond_false]
          exact ⟨_, rfl, ⟨rfl, by dsimp only; omega⟩, by dsimp only; omega, rfl⟩
        · left
          rw [df (show ¬ i < hexL.length from hi), cond_false]) (x := (hexL, 0)) ⟨rfl, Nat.zero_le _⟩ (by decide)
    rw [hloop]; rfl
  · have e : (r == 65533) = false := by simpa using he
    rw [e, cond_false]
    have hv : ∃ b, go_unicode_utf8_ValidRune r = some b := by
      unfold go_unicode_utf8_ValidRune
      cases decide (0 ≤ r) <;> cases decide (r < 55296) <;> cases decide (57343 < r) <;> cases decide (r ≤ 1114111) <;> exact ⟨_, rfl⟩
    obtain ⟨b, hb⟩ := hv
    rw [hb, Option.bind_some]
    cases b with
    | false => rfl
    | true =>
      rw [Bool.not_true, cond_false]
      obtain ⟨pre, x, hs, hx1, hx2, hpre⟩ := sign_last h1 h2
      have wl : IntKind.wrap .i64 ((((signB r).length : Nat) : Int) - 1) = (pre.length : Int) := by
        rw [hs, List.length_append, List.length_singleton, w64 (by omega) (by omega)]; omega
      have hget : (signB r).getD pre.length 0 = x := by
        rw [hs, List.getD_eq_getElem?_getD, List.getElem?_append_right (Nat.le_refl _)]; simp
      have hlen : (signB r).length = pre.length + 1 := by rw [hs]; simp
      have hloop : lp_strings_IndexRune_2 hexL (signB r) (pre.length : Int) (pre.length : Int) = some (.inr (-1)) := by
        unfold lp_strings_IndexRune_2
        refine loopN_of 1 (by omega) ?_
        have hne : (hexL.getD pre.length 0 != x) = true := by
          have := hexL_low _ (hexL_get (i := pre.length) (by omega))
          rw [bne_iff_ne]; omega
        have w1 : IntKind.wrap .i64 ((pre.length : Int) + 1) = ((pre.length + 1 : Nat) : Int) := by rw [w64 (by omega) (by omega)]; rfl
        have hni : x ∉ List.take (Int.toNat (((hexL.length : Nat) : Int) - ((pre.length + 1 : Nat) : Int))) (List.drop (pre.length + 1) hexL) := fun h => by
          have := hexL_low x (List.mem_of_mem_drop (List.mem_of_mem_take h))
          omega
        have hib : go_strings_IndexByte (List.take (Int.toNat (((hexL.length : Nat) : Int) - ((pre.length + 1 : Nat) : Int))) (List.drop (pre.length + 1) hexL)) x = some (-1) := by
          unfold go_strings_IndexByte
          have := noidx (x := x) ⟨by omega, hx2⟩ (isB_take (isB_drop hexL_isB (pre.length + 1)) (Int.toNat (((hexL.length : Nat) : Int) - ((pre.length + 1 : Nat) : Int)))) hni
          exact congrArg some this
        have h16 : hexL.length = 16 := rfl
        have c1 : decide ((pre.length : Int) < ((hexL.length : Nat) : Int)) = true := dt (by omega)
        have c2 : decide ((0 : Int) ≤ (pre.length : Int)) = true := dt (by omega)
        have c3 : decide ((pre.length : Int) < (((pre.length + 1 : Nat)) : Int)) = true := dt (by omega)
        have c4 : decide ((0 : Int) ≤ ((pre.length + 1 : Nat) : Int)) = true := dt (by omega)
        have c5 : decide (((pre.length + 1 : Nat) : Int) ≤ ((hexL.length : Nat) : Int)) = true := dt (by omega)
        have c6 : decide (((hexL.length : Nat) : Int) ≤ ((hexL.length : Nat) : Int)) = true := dt (by omega)
        have c7 : decide ((-1 : Int) < 0) = true := rfl
        have hst : st_strings_IndexRune_2 hexL (signB r) (pre.length : Int) (pre.length : Int) = some (.inr (.inr (-1))) := by
          unfold st_strings_IndexRune_2
          simp only [hlen, w1, c1, c2, c3, c4, c5, c6, Int.toNat_natCast, hget, hne, hib, Option.bind_some, c7, cond_true]
        simp only [iterN]
        rw [hst]
      rw [wl, hloop]; rfl
theorem idxrune_low {r : Int} (h1 : 0 ≤ r) (h2 : r < 128) : go_strings_IndexRune hexL r = some (hexV r) := by
  unfold go_strings_IndexRune
  rw [dt h1, cond_true, dt h2, cond_true]
  have w : IntKind.wrap .u8 r = r := by rw [show IntKind.wrap .u8 r = r % 256 from rfl]; omega
  unfold go_strings_IndexByte
  rw [w, Option.bind_some]
  have := hex_idx r.toNat (by omega)
  rw [Int.toNat_of_nonneg h1] at this
  exact congrArg some this
def hexG (h : Int) : List Int → Option (List Int)
  | [] => some []
  | x :: r => bif decide (hexV x < 0) then none else bif decide (h < 0) then hexG (hexV x) r else (hexG (-1) r).map fun q => (h * 16 + hexV x) :: q
theorem nibB (a b : Int) (ha : 0 ≤ a ∧ a < 16) (hb : 0 ≤ b ∧ b < 16) : IntKind.wrap .u8 (IntKind.wrap .i64 (bOr .i64 (IntKind.wrap .i64 (a * 16)) b)) = a * 16 + b := by
  have key : ∀ m n : Fin 16, IntKind.wrap .u8 (IntKind.wrap .i64 (bOr .i64 (IntKind.wrap .i64 (((m.val : Nat) : Int) * 16)) ((n.val : Nat) : Int))) = ((m.val : Nat) : Int) * 16 + ((n.val : Nat) : Int) := by decide
  have := key ⟨a.toNat, by omega⟩ ⟨b.toNat, by omega⟩
  simp only [Int.toNat_of_nonneg ha.1, Int.toNat_of_nonneg hb.1] at this
  exact this
def hexB (l : List Int) : Option (List Int) := bif (l == []) || (Int.tmod (l.length : Int) 2 == 1) || decide (l.length > 1200) then none else hexG (-1) l
theorem hexG_ne {h x : Int} {r : List Int} (hh : 0 ≤ h) : hexG h (x :: r) ≠ some [] := by
  rw [hexG]
  cases decide (hexV x < 0) with
  | true => simp
  | false =>
    rw [cond_false, df (by omega), cond_false]
    cases hexG (-1) r <;> simp
theorem bytes_loop {l : List Int} (hb : isB l) (hl : l.length ≤ 1200) : ∃ y, lp_new_flight_bytes_0 (-1) true true [] l 0 = some y ∧ (match hexG (-1) l with
    | none => y = .inr (true, true, [], false)
    | some bs => ∃ b b', y = .inl (b, b', bs) ∧ (bs ≠ [] → b = false ∧ b' = false)) := by
  unfold lp_new_flight_bytes_0
  refine loop_rule (step := fun x : Int × Bool × Bool × List Int × List Int × Nat => st_new_flight_bytes_0 x.1 x.2.1 x.2.2.1 x.2.2.2.1 x.2.2.2.2.1 x.2.2.2.2.2)
    (fun x => x.2.2.2.2.1 = l ∧ x.2.2.2.2.2 ≤ l.length ∧ (x.1 = -1 ∨ (0 ≤ x.1 ∧ x.1 < 16)) ∧ x.2.2.2.1.length ≤ x.2.2.2.2.2 ∧ (x.2.2.2.1 ≠ [] → x.2.1 = false ∧ x.2.2.1 = false) ∧ hexG (-1) l = (hexG x.1 (l.drop x.2.2.2.2.2)).map (x.2.2.2.1 ++ ·))
    (fun x => l.length - x.2.2.2.2.2) _ (fun x ⟨q1, q2, q3, q4, q5, q6⟩ => ?_) (x := (-1, true, true, [], l, 0)) ⟨rfl, Nat.zero_le _, .inl rfl, Nat.zero_le _, fun h => absurd rfl h, by dsimp only; rw [List.drop_zero]; cases hexG (-1) l <;> rfl⟩ (by dsimp only; omega)
  obtain ⟨h, b2, b3, out, l', i⟩ := x
  dsimp only at q1 q2 q3 q4 q5 q6 ⊢
  subst q1
  unfold st_new_flight_bytes_0
  by_cases hi : i < l'.length
  · rw [dt hi, cond_true]
    rw [drop_get hi, hexG] at q6
    have hx := isB_getD hb i
    have hno : hexV (l'.getD i 0) < 0 → ∀ y, (y : (Bool × Bool × List Int) ⊕ (Bool × Bool × List Int × Bool)) = .inr (true, true, [], false) → (match hexG (-1) l' with
        | none => y = .inr (true, true, [], false)
        | some bs => ∃ b b', y = .inl (b, b', bs) ∧ (bs ≠ [] → b = false ∧ b' = false)) := fun hv y hy => by
      rw [dt hv, cond_true] at q6
      rw [q6]; exact hy
    have hrune : ∃ r, go_strings_IndexRune [48, 49, 50, 51, 52, 53, 54, 55, 56, 57, 97, 98, 99, 100, 101, 102] (runeAt l' i) = some r ∧ ((r < 0 ∧ hexV (l'.getD i 0) < 0) ∨ (0 ≤ r ∧ r = hexV (l'.getD i 0) ∧ runeLen l' i = 1)) := by
      by_cases hlow : l'.getD i 0 < 128
      · obtain ⟨r1, r2⟩ := rune_low hb hi hlow
        refine ⟨_, by rw [r1]; exact idxrune_low hx.1 hlow, ?_⟩
        by_cases hv : hexV (l'.getD i 0) < 0
        · exact .inl ⟨hv, hv⟩
        · exact .inr ⟨by omega, rfl, r2⟩
      · obtain ⟨r1, r2⟩ := rune_high hb hi (by omega)
        refine ⟨_, idxrune_high r1 r2, .inl ⟨by decide, ?_⟩⟩
        unfold hexV
        rw [df (by omega), cond_false, df (by omega), cond_false]; decide
    obtain ⟨r, hr, hcase⟩ := hrune
    rw [hr, Option.bind_some]
    rcases hcase with ⟨hneg, hv⟩ | ⟨hpos, rfl, hrl⟩
    · rw [dt hneg, cond_true]
      exact .inl ⟨_, rfl, hno hv _ rfl⟩
    · rw [df (show ¬ hexV (l'.getD i 0) < 0 by omega), cond_false, hrl]
      rw [df (show ¬ hexV (l'.getD i 0) < 0 by omega), cond_false] at q6
      have hv16 := hexV_le (l'.getD i 0)
      right
      rcases q3 with rfl | ⟨h0, h16⟩
      · rw [dt (by decide : (-1 : Int) < 0), cond_true] at q6 ⊢
        exact ⟨_, rfl, ⟨rfl, hi, .inr ⟨hpos, by dsimp only; omega⟩, by dsimp only; omega, q5, q6⟩, by dsimp only; omega⟩
      · have hn : ¬ h < 0 := by omega
        rw [df hn, cond_false] at q6 ⊢
        rw [dt (show (out.length + 1) * 1 ≤ 140737488355328 by omega), cond_true, dt (show out.length + 1 ≤ 4611686018427387904 by omega), cond_true, nibB h _ ⟨h0, h16⟩ ⟨hpos, by omega⟩]
        refine ⟨_, rfl, ⟨rfl, hi, .inl rfl, by dsimp only; rw [List.length_append, List.length_singleton]; omega, fun _ => ⟨by dsimp only; rw [Bool.and_false], rfl⟩, ?_⟩, by dsimp only; omega⟩
        dsimp only
        rw [q6]
        cases hexG (-1) (l'.drop (i + 1)) <;> simp
  · rw [df hi, cond_false]
    left
    refine ⟨_, rfl, ?_⟩
    rw [List.drop_eq_nil_of_le (by omega), hexG] at q6
    rw [q6]
    simp only [Option.map_some, List.append_nil]
    exact ⟨_, _, rfl, q5⟩
theorem hexG_nil {l : List Int} (h : l ≠ []) (he : Int.tmod (l.length : Int) 2 ≠ 1) : hexG (-1) l ≠ some [] := by
  cases l with
  | nil => exact absurd rfl h
  | cons x r =>
    cases r with
    | nil => exact absurd rfl he
    | cons y q =>
      rw [hexG]
      cases hx : decide (hexV x < 0) with
      | true => simp
      | false =>
        rw [cond_false, dt (by decide), cond_true]
        exact hexG_ne (by have := of_decide_eq_false hx; omega)
theorem bytes_law {l : List Int} (hb : isB l) : go_new_flight_bytes l = some (match hexB l with
    | none => (true, true, [], false)
    | some bs => (false, false, bs, true)) ∧ ∀ bs, hexB l = some bs → bs ≠ [] := by
  unfold go_new_flight_bytes hexB
  cases h1 : l == [] with
  | true => exact ⟨rfl, fun bs h => by cases h⟩
  | false =>
    rw [cond_false, Bool.false_or]
    cases h2 : Int.tmod (l.length : Int) 2 == 1 with
    | true => exact ⟨rfl, fun bs h => by cases h⟩
    | false =>
      rw [cond_false, Bool.false_or]
      by_cases h3 : l.length > 1200
      · rw [dt h3, dt (show ((l.length : Nat) : Int) > 1200 by omega)]
        exact ⟨rfl, fun bs h => by cases h⟩
      · rw [df h3, df (show ¬ ((l.length : Nat) : Int) > 1200 by omega), cond_false, cond_false]
        obtain ⟨y, hy, hm⟩ := bytes_loop hb (by omega)
        have hne := hexG_nil (l := l) (by simpa using h1) (by simpa using h2)
        rw [hy, Option.bind_some]
        cases hg : hexG (-1) l with
        | none =>
          rw [hg] at hm
          rw [hm]
          exact ⟨rfl, fun bs h => by cases h⟩
        | some bs =>
          rw [hg] at hm hne
          obtain ⟨b, b', rfl, hf⟩ := hm
          have hbs : bs ≠ [] := fun e => hne (by rw [e])
          obtain ⟨rfl, rfl⟩ := hf hbs
          exact ⟨rfl, fun bs' h => by cases h; exact hbs⟩
end Go.Proofs
end
set_option linter.unusedVariables false
set_option linter.unusedSimpArgs false
noncomputable section
namespace Go.Proofs
open Go Go.Fx
abbrev DV := List Int × Option (List Int) × Int × Int × Int
def wordPV : Option (List Int) → PV
  | none => .isl true true .u8 []
  | some b => .isl false false .u8 b
def doPV (d : DV) : PV := .agg [.str d.1, wordPV d.2.1, .int .i64 d.2.2.1, .int .i64 d.2.2.2.1, .int .i64 d.2.2.2.2]
def feedK : List Int := [102, 101, 101, 100]
def faultK : List Int := [102, 97, 117, 108, 116]
def resetK : List Int := [114, 101, 115, 101, 116]
def feedI : List (List Int) → Option (List Int)
  | [x] => hexB x
  | _ => none
def faultI : List (List Int) → Option (Int × Int × Int)
  | [a, b, c] => bif (refNum a).2 && ((refNum b).2 && (refNum c).2) then some ((refNum a).1, (refNum b).1, (refNum c).1) else none
  | _ => none
def lineW (v : List Int) (ws : List (List Int)) : Option DV :=
  bif v == feedK then (feedI ws).map fun b => (v, some b, 0, 0, 0)
  else bif v == faultK then (faultI ws).map fun p => (v, none, p)
  else bif v == resetK then (match ws with | [] => some (v, none, 0, 0, 0) | _ => none)
  else none
def lineI (s : List Int) : Option DV := match cutC 32 s with
  | [] => none
  | v :: ws => lineW v ws
def parseI (k : Nat) : List (List Int) → Nat ⊕ List DV
  | [] => .inr []
  | s :: r => bif s == [] then parseI (k + 1) r else match lineI s with
    | none => .inl (k + 1)
    | some d => match parseI (k + 1) r with
      | .inl j => .inl j
      | .inr ds => .inr (d :: ds)
theorem len_ne {n k : Nat} (h : n ≠ k) : (((n : Nat) : Int) != (k : Int)) = true := by rw [bne_iff_ne]; omega
theorem reader1_law {ws : List (List Int)} (hb : ∀ w ∈ ws, isB w) (b0 b1 : Bool) : ∃ r, go_flight_readers_1 b0 b1 (strs ws) = some r ∧ (match feedI ws with
    | none => r.2.2.2.2.2.2.2 = false
    | some bs => r = ([], false, false, bs, 0, 0, 0, true)) := by
  match ws, hb with
  | [], _ => exact ⟨_, rfl, rfl⟩
  | [x], hb =>
    have e : go_flight_readers_1 b0 b1 (strs [x]) = (go_new_flight_bytes x).bind fun r3 => some ([], r3.1, false, r3.2.2.1, 0, 0, 0, r3.2.2.2) := rfl
    obtain ⟨h1, _⟩ := bytes_law (hb x (List.mem_singleton.2 rfl))
    rw [e, h1, Option.bind_some]
    show ∃ r, _ ∧ (match hexB x with | none => _ | some bs => _)
    cases hexB x with
    | none => exact ⟨_, rfl, rfl⟩
    | some bs => exact ⟨_, rfl, rfl⟩
  | x :: y :: r, _ =>
    refine ⟨([], true, true, [], 0, 0, 0, false), ?_, rfl⟩
    unfold go_flight_readers_1
    rw [strs_len, show ((((x :: y :: r).length : Nat) : Int) != 1) = true from len_ne (k := 1) (by simp), cond_true]
theorem reader2_law {ws : List (List Int)} (hb : ∀ w ∈ ws, isB w) (hl : ∀ w ∈ ws, w.length ≤ 100000) (b0 b1 : Bool) : ∃ r, go_flight_readers_2 b0 b1 (strs ws) = some r ∧ (match faultI ws with
    | none => r.2.2.2.2.2.2.2 = false
    | some p => r = ([], true, true, [], p.1, p.2.1, p.2.2, true)) := by
  match ws, hb, hl with
  | [], _, _ => exact ⟨_, rfl, rfl⟩
  | [x], _, _ => exact ⟨_, rfl, rfl⟩
  | [x, y], _, _ => exact ⟨_, rfl, rfl⟩
  | [a, b, c], hb, hl =>
    obtain ⟨va, ha, ga⟩ := number_law (hb a (by simp)) (hl a (by simp))
    obtain ⟨vb, hb', gb⟩ := number_law (hb b (by simp)) (hl b (by simp))
    obtain ⟨vc, hc, gc⟩ := number_law (hb c (by simp)) (hl c (by simp))
    have e : go_flight_readers_2 b0 b1 (strs [a, b, c]) = (go_flight_number a).bind fun r3 => (go_flight_number b).bind fun r4 => (go_flight_number c).bind fun r5 =>
        bif r3.2 then (bif r4.2 then some ([], true, true, [], r3.1, r4.1, r5.1, r5.2) else some ([], true, true, [], r3.1, r4.1, r5.1, false)) else some ([], true, true, [], r3.1, r4.1, r5.1, false) := rfl
    rw [e, ha, hb', hc]
    simp only [Option.bind_some, faultI]
    cases h1 : (refNum a).2 with
    | false => exact ⟨_, rfl, rfl⟩
    | true =>
      cases h2 : (refNum b).2 with
      | false => exact ⟨_, rfl, rfl⟩
      | true =>
        cases h3 : (refNum c).2 with
        | false => exact ⟨_, rfl, rfl⟩
        | true =>
          refine ⟨_, rfl, ?_⟩
          simp only [Bool.true_and, cond_true]
          rw [ga h1, gb h2, gc h3]
  | x :: y :: z :: u :: r, _, _ =>
    refine ⟨([], true, true, [], 0, 0, 0, false), ?_, rfl⟩
    unfold go_flight_readers_2
    rw [strs_len, show ((((x :: y :: z :: u :: r).length : Nat) : Int) != 3) = true from len_ne (k := 3) (by simp), cond_true]
theorem reader3_law (ws : List (List Int)) (b0 b1 : Bool) : go_flight_readers_3 b0 b1 (strs ws) = some ([], true, true, [], 0, 0, 0, (ws == [])) := by
  cases ws with
  | nil => rfl
  | cons x r =>
    unfold go_flight_readers_3
    rw [show ((((strs (x :: r)).length : Nat) : Int) == 0) = false from by rw [strs_len, beq_eq_false_iff_ne, List.length_cons]; omega]
    rfl
theorem rest_strs (v : List Int) (ws : List (List Int)) : List.take (Int.toNat (((strs (v :: ws)).length : Int) - 1)) (List.drop 1 (strs (v :: ws))) = strs ws := by
  have : Int.toNat (((strs (v :: ws)).length : Int) - 1) = (strs ws).length := by rw [strs_len, strs_len, List.length_cons]; omega
  rw [this]
  show List.take _ (strs ws) = _
  exact List.take_length
def stP (b2 b3 : Bool) (es4 : List PV) (b5 b6 : Bool) (L : List (List Int)) (n : Int) (i : Nat) (b10 b11 : Bool) (es : List PV) := st_flight_Parse_0 b2 b3 es4 b5 b6 (strs L) n (i : Int) b10 b11 es
theorem parse_line {L : List (List Int)} (hb : ∀ w ∈ L, isB w) (hl : ∀ w ∈ L, w.length ≤ 100000) {i : Nat} (hi : i < L.length) (hL : L.length ≤ 200000) (b2 b3 : Bool) (es4 : List PV) (b5 b6 b10 b11 : Bool) {es : List PV} (hes : es.length ≤ 200000) :
    stP b2 b3 es4 b5 b6 L (L.length : Nat) i b10 b11 es = some (bif L.getD i [] == [] then .inl (b2, b3, es4, b5, b6, strs L, (L.length : Nat), ((i + 1 : Nat) : Int), b10, b11, es) else match lineI (L.getD i []) with
      | none => .inr (.inr (true, true, [], ((i + 1 : Nat) : Int), 4))
      | some d => .inl (b2, b3, es4, b5, b6, strs L, (L.length : Nat), ((i + 1 : Nat) : Int), false, false, es ++ [doPV d])) := by
  have w1 : IntKind.wrap .i64 ((i : Int) + 1) = ((i + 1 : Nat) : Int) := by rw [w64 (by omega) (by omega)]; rfl
  have c1 : decide ((i : Int) < ((L.length : Nat) : Int)) = true := dt (by omega)
  have c2 : decide ((0 : Int) ≤ (i : Int)) = true := dt (by omega)
  have c3 : decide (i < L.length) = true := dt hi
  have c4 : decide ((es.length + 1) * 64 ≤ 140737488355328) = true := dt (by omega)
  have c5 : decide (es.length + 1 ≤ 4611686018427387904) = true := dt (by omega)
  have hm : L.getD i [] ∈ L := by
    rw [List.getD_eq_getElem?_getD, List.getElem?_eq_getElem hi]; exact List.getElem_mem hi
  have hg := strs_get hi
  revert hm
  unfold stP st_flight_Parse_0
  simp only [strs_len, Int.toNat_natCast, w1, c1, c2, c3, hg, scal_str, ok_str, chars_str, cond_true]
  generalize L.getD i [] = s
  intro hm
  cases hs : s == [] with
  | true => rfl
  | false =>
    simp only [cond_false]
    obtain ⟨ex, hsp⟩ := split_law (c := 32) (by decide) (hb s hm) (hl s hm)
    have hcb := isB_cut (c := 32) (hb s hm)
    have hcl := cut_len (c := 32) s
    rw [hsp]
    simp only [Option.bind_some, lineI]
    cases hc : cutC 32 s with
    | nil => exact absurd hc (cutC_ne _ _)
    | cons v ws =>
      rw [hc] at hcb hcl
      have hcb' : ∀ w ∈ ws, isB w := fun w hw => hcb w (List.mem_cons_of_mem _ hw)
      have hcl' : ∀ w ∈ ws, w.length ≤ 100000 := fun w hw => Nat.le_trans (hcl.2 w (List.mem_cons_of_mem _ hw)) (hl s hm)
      have d1 : decide ((0 : Int) < (((v :: ws).length : Nat) : Int)) = true := dt (by simp only [List.length_cons]; omega)
      have d2 : decide (0 < (v :: ws).length) = true := dt (by simp)
      have d3 : (strs (v :: ws)).getD 0 .nilSl = .str v := rfl
      have d4 : decide ((1 : Int) ≤ (((v :: ws).length : Nat) : Int)) = true := dt (by simp only [List.length_cons]; omega)
      have d5 : decide ((((v :: ws).length : Nat) : Int) ≤ (((v :: ws).length : Nat) : Int)) = true := dt (by omega)
      have d6 : go_flight_readers = some readKeys := rfl
      have d7 := rest_strs v ws
      rw [strs_len] at d7
      simp only [strs_len, d1, d2, d3, d4, d5, d6, d7, scal_str, ok_str, chars_str, cond_true, Option.bind_some]
      unfold lineW
      show (bif v == feedK then _ else bif v == faultK then _ else bif v == resetK then _ else _) = _
      cases hv1 : v == feedK with
      | true =>
        obtain ⟨r, h1, h2⟩ := reader1_law hcb' false ex
        simp only [cond_true, h1, Option.bind_some]
        cases hf : feedI ws with
        | none => rw [hf] at h2; simp only at h2; rw [h2]; rfl
        | some bs =>
          rw [hf] at h2; simp only at h2; subst h2
          simp only [Bool.not_true, cond_false, c4, c5, cond_true, Bool.and_false]
          rfl
      | false =>
        simp only [cond_false]
        cases hv2 : v == faultK with
        | true =>
          obtain ⟨r, h1, h2⟩ := reader2_law hcb' hcl' false ex
          simp only [cond_true, h1, Option.bind_some]
          cases hf : faultI ws with
          | none => rw [hf] at h2; simp only at h2; rw [h2]; rfl
          | some p =>
            rw [hf] at h2; simp only at h2; subst h2
            simp only [Bool.not_true, cond_false, c4, c5, cond_true, Bool.and_false]
            rfl
        | false =>
          simp only [cond_false]
          cases hv3 : v == resetK with
          | true =>
            have h1 := reader3_law ws false ex
            simp only [cond_true, h1, Option.bind_some]
            cases ws with
            | nil =>
              simp only [show (([] : List (List Int)) == []) = true from rfl, Bool.not_true, cond_false, c4, c5, cond_true, Bool.and_false]
              rfl
            | cons y r => rfl
          | false => rfl
theorem parse_law {l : List Int} (hb : isB l) (hl : l.length ≤ 65536) : go_flight_Parse l = some (match parseI 0 (cutC 10 (trimNL l)) with
    | .inl j => (true, true, [], (j : Int), 4)
    | .inr ds => (ds.isEmpty, ds.isEmpty, ds.map doPV, ((cutC 10 (trimNL l)).length : Int), 0)) := by
  unfold go_flight_Parse
  rw [df (show ¬ ((l.length : Nat) : Int) > 65536 by omega), cond_false]
  obtain ⟨ex, hf⟩ := flines_law hb (by omega)
  have hLb := isB_cut (c := 10) (trimNL_isB hb)
  have hLl := cut_len (c := 10) (trimNL l)
  have htl := trimNL_len l
  rw [hf, Option.bind_some]
  generalize cutC 10 (trimNL l) = L at hLb hLl ⊢
  have hll : ∀ w ∈ L, w.length ≤ 100000 := fun w hw => by have := hLl.2 w hw; omega
  have hL : L.length ≤ 200000 := by omega
  have key : lp_flight_Parse_0 false ex (strs L) false ex (strs L) (((strs L).length : Nat) : Int) 0 true true [] = some (match parseI 0 L with
      | .inl j => Sum.inr (true, true, [], (j : Int), 4)
      | .inr ds => Sum.inl (false, ex, strs L, ds.isEmpty, ds.isEmpty, ds.map doPV)) := by
    unfold lp_flight_Parse_0
    refine loop_spec (Y := (Bool × Bool × List PV × Bool × Bool × List PV) ⊕ (Bool × Bool × List PV × Int × Int)) (step := fun x : Bool × Bool × List PV × Bool × Bool × List PV × Int × Int × Bool × Bool × List PV => st_flight_Parse_0 x.1 x.2.1 x.2.2.1 x.2.2.2.1 x.2.2.2.2.1 x.2.2.2.2.2.1 x.2.2.2.2.2.2.1 x.2.2.2.2.2.2.2.1 x.2.2.2.2.2.2.2.2.1 x.2.2.2.2.2.2.2.2.2.1 x.2.2.2.2.2.2.2.2.2.2)
      (fun x => match parseI 0 L with
      | .inl j => Sum.inr (true, true, [], (j : Int), 4)
      | .inr ds => Sum.inl (false, ex, strs L, ds.isEmpty, ds.isEmpty, ds.map doPV))
      (fun x => ∃ (i : Nat) (ds : List DV), x = (false, ex, strs L, false, ex, strs L, (((strs L).length : Nat) : Int), (i : Int), ds.isEmpty, ds.isEmpty, ds.map doPV) ∧ i ≤ L.length ∧ ds.length ≤ i ∧ parseI 0 L = (match parseI i (L.drop i) with | .inl j => .inl j | .inr es => .inr (ds ++ es)))
      (fun x => L.length - x.2.2.2.2.2.2.2.1.toNat) (fun x ⟨i, ds, hx, q1, q2, q3⟩ => ?_) ⟨0, [], rfl, Nat.zero_le _, Nat.le_refl _, ?_⟩ ?_
    · subst hx
      dsimp only
      rw [strs_len]
      by_cases hi : i < L.length
      · have hs := parse_line hLb hll hi hL false ex (strs L) false ex ds.isEmpty ds.isEmpty (es := ds.map doPV) (by rw [List.length_map]; omega)
        unfold stP at hs
        rw [hs]
        have hd : L.drop i = L.getD i [] :: L.drop (i + 1) := by
          rw [List.getD_eq_getElem?_getD, List.getElem?_eq_getElem hi]; exact List.drop_eq_getElem_cons hi
        rw [hd, parseI] at q3
        revert q3
        generalize L.getD i [] = s
        intro q3
        cases he : s == [] with
        | true =>
          rw [he, cond_true] at q3
          rw [cond_true]
          exact .inr ⟨_, rfl, ⟨i + 1, ds, rfl, by omega, by omega, q3⟩, by dsimp only; omega, rfl⟩
        | false =>
          rw [he, cond_false] at q3
          rw [cond_false]
          cases hc : lineI s with
          | none =>
            rw [hc] at q3
            left; rw [q3]
          | some d =>
            rw [hc] at q3
            right
            refine ⟨_, rfl, ⟨i + 1, ds ++ [d], by simp, by omega, by simp; omega, ?_⟩, by dsimp only; omega, rfl⟩
            rw [q3]
            cases parseI (i + 1) (L.drop (i + 1)) with
            | inl j => rfl
            | inr es => simp
      · left
        have hn : L.drop i = [] := List.drop_eq_nil_of_le (by omega)
        rw [hn, parseI] at q3
        simp only [List.append_nil] at q3
        unfold st_flight_Parse_0
        rw [df (show ¬ ((i : Int) < ((L.length : Nat) : Int)) by omega), cond_false, q3]
    · show _ = (match parseI 0 L with | .inl j => _ | .inr es => _)
      cases parseI 0 L <;> rfl
    · dsimp only; omega
  rw [key, Option.bind_some]
  cases parseI 0 L with
  | inl j => rfl
  | inr ds =>
    show some (ds.isEmpty, ds.isEmpty, ds.map doPV, (((strs L).length : Nat) : Int), 0) = _
    rw [strs_len]
end Go.Proofs
end
set_option linter.unusedVariables false
set_option linter.unusedSimpArgs false
noncomputable section
namespace Go.Proofs
open Go Go.Fx
set_option maxRecDepth 100000 in
theorem half_nat : ∀ n : Nat, n < 256 → go_coupletref20_half (n : Int) = some (hexV (n : Int)) := by decide
theorem half_law {c : Int} (h : 0 ≤ c ∧ c < 256) : go_coupletref20_half c = some (hexV c) := by
  have := half_nat c.toNat (by omega)
  rwa [Int.toNat_of_nonneg h.1] at this
theorem pairB (a b : Int) (ha : 0 ≤ a ∧ a < 16) (hb : 0 ≤ b ∧ b < 16) : IntKind.wrap .u8 (IntKind.wrap .i64 (IntKind.wrap .i64 (a * 16) + b)) = a * 16 + b := by
  rw [w64 (a := a * 16) (by omega) (by omega), w64 (by omega) (by omega)]
  rw [show IntKind.wrap .u8 (a * 16 + b) = (a * 16 + b) % 256 from rfl]; omega
theorem hexG_pair (a b : Int) (r : List Int) : hexG (-1) (a :: b :: r) = bif decide (hexV a < 0) then none else bif decide (hexV b < 0) then none else (hexG (-1) r).map fun q => (hexV a * 16 + hexV b) :: q := by
  rw [hexG]
  cases h : decide (hexV a < 0) with
  | true => rfl
  | false =>
    rw [cond_false, dt (show (-1 : Int) < 0 by decide), cond_true, hexG, h, cond_false, cond_false]
theorem get_isB {l : List Int} (hb : isB l) {i : Nat} (hi : i < l.length) : 0 ≤ l.getD i 0 ∧ l.getD i 0 < 256 := by
  rw [List.getD_eq_getElem?_getD, List.getElem?_eq_getElem hi]
  exact hb _ (List.getElem_mem hi)
theorem line_loop {v x : List Int} (hb : isB x) (hl : x.length ≤ 1200) (hev : x.length % 2 = 0) (ex : Bool) : lp_coupletref20_Line_0 false ex (strs [v, x]) 0 [] true true [] 0 0 0 true true [] = some (match hexG (-1) x with
    | none => Sum.inr (false, [], true, true, [], 0, 0, 0)
    | some bs => Sum.inl ([], true, true, [], 0, 0, 0, bs.isEmpty, bs.isEmpty, bs)) := by
  unfold lp_coupletref20_Line_0
  refine loop_spec (Y := (List Int × Bool × Bool × List Int × Int × Int × Int × Bool × Bool × List Int) ⊕ (Bool × List Int × Bool × Bool × List Int × Int × Int × Int)) (step := fun x : Bool × Bool × List PV × Int × List Int × Bool × Bool × List Int × Int × Int × Int × Bool × Bool × List Int => st_coupletref20_Line_0 x.1 x.2.1 x.2.2.1 x.2.2.2.1 x.2.2.2.2.1 x.2.2.2.2.2.1 x.2.2.2.2.2.2.1 x.2.2.2.2.2.2.2.1 x.2.2.2.2.2.2.2.2.1 x.2.2.2.2.2.2.2.2.2.1 x.2.2.2.2.2.2.2.2.2.2.1 x.2.2.2.2.2.2.2.2.2.2.2.1 x.2.2.2.2.2.2.2.2.2.2.2.2.1 x.2.2.2.2.2.2.2.2.2.2.2.2.2)
    (fun _ => match hexG (-1) x with
    | none => Sum.inr (false, [], true, true, [], 0, 0, 0)
    | some bs => Sum.inl ([], true, true, [], 0, 0, 0, bs.isEmpty, bs.isEmpty, bs))
    (fun y => ∃ (k : Nat) (acc : List Int), y = (false, ex, strs [v, x], (k : Int), [], true, true, [], 0, 0, 0, acc.isEmpty, acc.isEmpty, acc) ∧ k ≤ x.length ∧ k % 2 = 0 ∧ acc.length ≤ k ∧ hexG (-1) x = (hexG (-1) (x.drop k)).map (acc ++ ·))
    (fun y => x.length - y.2.2.2.1.toNat) (fun y ⟨k, acc, hy, q1, q2, q3, q4⟩ => ?_) ⟨0, [], rfl, Nat.zero_le _, rfl, Nat.le_refl _, by rw [List.drop_zero]; cases hexG (-1) x <;> rfl⟩ (by dsimp only; omega)
  subst hy
  dsimp only
  unfold st_coupletref20_Line_0
  have g : (strs [v, x]).getD 1 .nilSl = .str x := rfl
  have l2 : (strs [v, x]).length = 2 := rfl
  have c1 : decide ((1 : Int) < ((2 : Nat) : Int)) = true := rfl
  have c2 : decide (1 < 2) = true := rfl
  simp only [g, l2, c1, c2, scal_str, ok_str, chars_str, cond_true]
  by_cases hk : k < x.length
  · have hk1 : k + 1 < x.length := by omega
    have w1 : IntKind.wrap .i64 ((k : Int) + 1) = ((k + 1 : Nat) : Int) := by rw [w64 (by omega) (by omega)]; rfl
    have w2 : IntKind.wrap .i64 ((k : Int) + 2) = ((k + 2 : Nat) : Int) := by rw [w64 (by omega) (by omega)]; rfl
    have c3 : decide ((k : Int) < ((x.length : Nat) : Int)) = true := dt (by omega)
    have c4 : decide ((0 : Int) ≤ (k : Int)) = true := dt (by omega)
    have c5 : decide ((0 : Int) ≤ ((k + 1 : Nat) : Int)) = true := dt (by omega)
    have c6 : decide (((k + 1 : Nat) : Int) < ((x.length : Nat) : Int)) = true := dt (by omega)
    have c7 : decide ((acc.length + 1) * 1 ≤ 140737488355328) = true := dt (by omega)
    have c8 : decide (acc.length + 1 ≤ 4611686018427387904) = true := dt (by omega)
    have hd : x.drop k = x.getD k 0 :: x.getD (k + 1) 0 :: x.drop (k + 2) := by rw [drop_get hk, drop_get hk1]
    have ga := get_isB hb hk
    have gb := get_isB hb hk1
    rw [hd, hexG_pair] at q4
    simp only [w1, w2, c3, c4, c5, c6, cond_true, Int.toNat_natCast, half_law ga, half_law gb, Option.bind_some]
    revert q4 ga gb
    generalize x.getD k 0 = a
    generalize x.getD (k + 1) 0 = b
    intro q4 ga gb
    have va := hexV_le a
    have vb := hexV_le b
    by_cases h1 : hexV a < 0
    · rw [dt h1, cond_true] at q4 ⊢
      left; rw [q4]; rfl
    · by_cases h2 : hexV b < 0
      · rw [dt h2, df h1, cond_true, cond_false] at q4 ⊢
        left; rw [q4]; rfl
      · have pb := pairB (hexV a) (hexV b) ⟨by omega, by omega⟩ ⟨by omega, by omega⟩
        rw [df h1, df h2, cond_false, cond_false] at q4 ⊢
        rw [c7, c8, cond_true, cond_true, pb, Bool.and_false]
        right
        refine ⟨_, rfl, ⟨k + 2, acc ++ [hexV a * 16 + hexV b], by simp, by omega, by omega, by simp; omega, ?_⟩, by dsimp only; omega, trivial⟩
        rw [q4]
        cases hexG (-1) (x.drop (k + 2)) with
        | none => rfl
        | some q => simp
  · left
    rw [df (show ¬ (k : Int) < ((x.length : Nat) : Int) by omega), cond_false]
    rw [List.drop_eq_nil_of_le (by omega), hexG] at q4
    rw [q4]; simp
theorem number_ref {l : List Int} (hb : isB l) (hl : l.length ≤ 100000) : go_coupletref20_Number l = some (refNum l) := by
  unfold go_coupletref20_Number
  have h1 : l.all (fun x => decide (0 ≤ x ∧ x < 256)) = true := List.all_eq_true.2 fun x hx => dt (hb x hx)
  rw [h1, dt (show l.length ≤ 1099511627776 by omega)]; rfl
theorem line_law {s : List Int} (hb : isB s) (hl : s.length ≤ 100000) : ∃ r, go_coupletref20_Line s = some r ∧ (match lineI s with
    | none => r.2.2.2.2.2.2.2 = false
    | some d => r.1 = d.1 ∧ r.2.2.2.1 = d.2.1.getD [] ∧ r.2.2.2.2.1 = d.2.2.1 ∧ r.2.2.2.2.2.1 = d.2.2.2.1 ∧ r.2.2.2.2.2.2.1 = d.2.2.2.2 ∧ r.2.2.2.2.2.2.2 = true) := by
  obtain ⟨ex, hw⟩ := words_law hl
  have hcb := isB_cut (c := 32) hb
  have hcl := cut_len (c := 32) s
  unfold go_coupletref20_Line lineI
  rw [hw, Option.bind_some]
  cases hc : cutC 32 s with
  | nil => exact absurd hc (cutC_ne _ _)
  | cons v ws =>
    rw [hc] at hcb hcl
    have d1 : decide ((0 : Int) < (((v :: ws).length : Nat) : Int)) = true := dt (by simp only [List.length_cons]; omega)
    have d2 : decide (0 < (v :: ws).length) = true := dt (by simp)
    have d3 : (strs (v :: ws)).getD 0 .nilSl = .str v := rfl
    have f0 : feedK ≠ faultK := by decide
    simp only [strs_len, d1, d2, d3, scal_str, ok_str, chars_str, cond_true]
    unfold lineW
    cases hv3 : v == resetK with
    | true =>
      have e := eq_of_beq hv3
      subst e
      have h3 : (resetK == [114, 101, 115, 101, 116]) = true := rfl
      rw [h3, cond_true]
      refine ⟨_, rfl, ?_⟩
      cases ws with
      | nil => exact ⟨rfl, rfl, rfl, rfl, rfl, rfl⟩
      | cons y r =>
        show ((((resetK :: y :: r).length : Nat) : Int) == 1) = false
        rw [beq_eq_false_iff_ne]; simp only [List.length_cons]; omega
    | false =>
      have h3 : (v == [114, 101, 115, 101, 116]) = false := hv3
      rw [h3, cond_false]
      cases hv2 : v == faultK with
      | true =>
        have e := eq_of_beq hv2
        subst e
        have h2 : (faultK == [102, 97, 117, 108, 116]) = true := rfl
        have h1 : (faultK == feedK) = false := rfl
        have h1' : (faultK == [102, 101, 101, 100]) = false := rfl
        rw [h2, cond_true, h1, cond_false, cond_true]
        match ws, hcb, hcl with
        | [], _, _ => exact ⟨_, rfl, rfl⟩
        | [a], _, _ => exact ⟨_, rfl, rfl⟩
        | [a, b], _, _ => exact ⟨_, rfl, rfl⟩
        | [a, b, c], hcb, hcl =>
          have na := number_ref (hcb a (by simp)) (Nat.le_trans (hcl.2 a (by simp)) hl)
          have nb := number_ref (hcb b (by simp)) (Nat.le_trans (hcl.2 b (by simp)) hl)
          have nc := number_ref (hcb c (by simp)) (Nat.le_trans (hcl.2 c (by simp)) hl)
          have g1 : (strs [faultK, a, b, c]).getD 1 .nilSl = .str a := rfl
          have g2 : (strs [faultK, a, b, c]).getD 2 .nilSl = .str b := rfl
          have g3 : (strs [faultK, a, b, c]).getD 3 .nilSl = .str c := rfl
          have l4 : [faultK, a, b, c].length = 4 := rfl
          simp only [g1, g2, g3, l4, scal_str, ok_str, chars_str, na, nb, nc, Option.bind_some,
            show (((4 : Nat) : Int) == 4) = true from rfl, show decide ((1 : Int) < ((4 : Nat) : Int)) = true from rfl, show decide (1 < 4) = true from rfl,
            show decide ((2 : Int) < ((4 : Nat) : Int)) = true from rfl, show decide (2 < 4) = true from rfl, show decide ((3 : Int) < ((4 : Nat) : Int)) = true from rfl, show decide (3 < 4) = true from rfl, cond_true, faultI]
          cases h1 : (refNum a).2 with
          | false => exact ⟨_, rfl, rfl⟩
          | true =>
            cases h2 : (refNum b).2 with
            | false => exact ⟨_, rfl, rfl⟩
            | true =>
              cases h3 : (refNum c).2 with
              | false => exact ⟨_, rfl, rfl⟩
              | true => exact ⟨_, rfl, rfl, rfl, rfl, rfl, rfl, rfl⟩
        | x :: y :: z :: u :: r, _, _ =>
          have e4 : ((((faultK :: x :: y :: z :: u :: r).length : Nat) : Int) == 4) = false := by rw [beq_eq_false_iff_ne]; simp only [List.length_cons]; omega
          rw [e4, cond_false, h1', Bool.not_false, cond_true]
          exact ⟨_, rfl, rfl⟩
      | false =>
        have h2 : (v == [102, 97, 117, 108, 116]) = false := hv2
        rw [h2, cond_false, cond_false]
        cases hv1 : v == feedK with
        | false =>
          have h1 : (v == [102, 101, 101, 100]) = false := hv1
          rw [h1, Bool.not_false, cond_true]
          exact ⟨_, rfl, rfl⟩
        | true =>
          have h1 : (v == [102, 101, 101, 100]) = true := hv1
          rw [h1, Bool.not_true, cond_false, cond_true]
          match ws, hcb, hcl with
          | [], _, _ => exact ⟨_, rfl, rfl⟩
          | x :: y :: r, _, _ =>
            have e4 : ((((v :: x :: y :: r).length : Nat) : Int) != 2) = true := len_ne (k := 2) (by simp)
            rw [e4, cond_true]
            exact ⟨_, rfl, rfl⟩
          | [x], hcb, hcl =>
            have hx := hcb x (by simp)
            have g1 : (strs [v, x]).getD 1 .nilSl = .str x := rfl
            have l2 : [v, x].length = 2 := rfl
            simp only [g1, l2, scal_str, ok_str, chars_str, show (((2 : Nat) : Int) != 2) = false from rfl, show decide ((1 : Int) < ((2 : Nat) : Int)) = true from rfl, show decide (1 < 2) = true from rfl, cond_true, cond_false, feedI, hexB]
            cases hx0 : x == [] with
            | true => exact ⟨_, rfl, rfl⟩
            | false =>
              rw [cond_false, Bool.false_or]
              cases ho : Int.tmod (x.length : Int) 2 == 1 with
              | true =>
                rw [Bool.true_or, cond_true]
                cases hg : decide (((x.length : Nat) : Int) > 1200) with
                | true => exact ⟨_, rfl, rfl⟩
                | false => exact ⟨_, rfl, rfl⟩
              | false =>
                rw [Bool.false_or]
                by_cases h3 : x.length > 1200
                · rw [dt h3, dt (show ((x.length : Nat) : Int) > 1200 by omega)]
                  exact ⟨_, rfl, rfl⟩
                · rw [df h3, df (show ¬ ((x.length : Nat) : Int) > 1200 by omega), cond_false, cond_false, cond_false]
                  have hne := hexG_nil (l := x) (by simpa using hx0) (by simpa using ho)
                  have hev : x.length % 2 = 0 := by
                    rw [beq_eq_false_iff_ne, Int.tmod_eq_emod_of_nonneg (by omega)] at ho
                    omega
                  rw [line_loop hx (by omega) hev, Option.bind_some]
                  have e := eq_of_beq hv1
                  subst e
                  cases hG : hexG (-1) x with
                  | none => exact ⟨_, rfl, rfl⟩
                  | some bs => exact ⟨_, rfl, rfl, rfl, rfl, rfl, rfl, rfl⟩
end Go.Proofs
end
