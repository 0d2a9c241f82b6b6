/-
  The laws on flights, as the rows ask for them.
-/
import Derived.Test.YtlfffpkfipdboaaDoorWLP6
import Derived.Test.YtlfffpkfipdboaaDoorWGF1
import Derived.Test.YtlfffpkfipdboaaDoorWSFs
import Derived.Test.YtlfffpkfipdboaaDoorWSFm
import Derived.Test.YtlfffpkfipdboaaDoorWGFn
import Derived.Test.YtlfffpkfipdboaaDoorWLFn
import Derived.Test.YtlfffpkfipdboaaDoorWGF2
import Derived.Test.YtlfffpkfipdboaaDoorFxRng
import Derived.Test.YtlfffpkfipdboaaDoorChecked
import Derived.Test.YtlfffpkfipdboaaDoorFxRow
set_option linter.unusedVariables false
set_option linter.unusedSimpArgs false
noncomputable section
namespace Go.Proofs
open Go Go.Fx
def decI (n : Nat) : List Int := bytesI (Lib.decDigits n)
theorem decI_low {n : Nat} (h : n < 10) : decI n = [48 + (n : Int)] := by
  unfold decI
  rw [Lib.decDigits.eq_def, dif_pos h]
  simp only [bytesI, List.map_cons, List.map_nil, UInt8.toNat_ofNat']
  congr 1; omega
theorem decI_high {n : Nat} (h : ¬ n < 10) : decI n = decI (n / 10) ++ [48 + ((n % 10 : Nat) : Int)] := by
  unfold decI
  rw [Lib.decDigits.eq_def, dif_neg h]
  simp only [bytesI, List.map_append, List.map_cons, List.map_nil, UInt8.toNat_ofNat']
  congr 2; omega
theorem decI_dig (n : Nat) : ∀ c ∈ decI n, 48 ≤ c ∧ c ≤ 57 := by
  induction n using Nat.strongRecOn with
  | _ n ih =>
    intro c hc
    by_cases h : n < 10
    · rw [decI_low h, List.mem_singleton] at hc; omega
    · rw [decI_high h, List.mem_append, List.mem_singleton] at hc
      rcases hc with hc | hc
      · exact ih (n / 10) (by omega) c hc
      · omega
theorem decI_ne (n : Nat) : decI n ≠ [] := by
  by_cases h : n < 10
  · rw [decI_low h]; simp
  · rw [decI_high h]; simp
theorem digsI_snoc (c : Int) : ∀ (l : List Int) (n : Int), (digsI n l).2 = true → 48 ≤ c ∧ c ≤ 57 → digsI n (l ++ [c]) = ((digsI n l).1 * 10 + (c - 48), true)
  | [], n, _, hc => by simp only [List.nil_append, digsI, dt hc, cond_true]
  | x :: r, n, h, hc => by
    rw [List.cons_append, digsI]
    rw [digsI] at h
    by_cases hx : 48 ≤ x ∧ x ≤ 57
    · rw [dt hx, cond_true] at h ⊢
      rw [digsI_snoc c r _ h hc, digsI, dt hx, cond_true]
    · rw [df hx, cond_false] at h; cases h
theorem digs_dec (n : Nat) : digsI 0 (decI n) = ((n : Int), true) := by
  induction n using Nat.strongRecOn with
  | _ n ih =>
    by_cases h : n < 10
    · rw [decI_low h]
      simp only [digsI]
      rw [dt (show (48 : Int) ≤ 48 + (n : Int) ∧ 48 + (n : Int) ≤ 57 by omega), cond_true]
      congr 1; omega
    · have hi := ih (n / 10) (by omega)
      rw [decI_high h, digsI_snoc _ _ _ (by rw [hi]) (by omega), hi]
      congr 1; omega
theorem decI_head (n : Nat) : (decI n).getD 0 0 = 48 → n = 0 := by
  induction n using Nat.strongRecOn with
  | _ n ih =>
    by_cases h : n < 10
    · rw [decI_low h]; intro e
      have e : 48 + (n : Int) = 48 := e
      omega
    · rw [decI_high h]
      have hne := decI_ne (n / 10)
      have ih' := ih (n / 10) (by omega)
      revert hne ih'
      cases decI (n / 10) with
      | nil => intro hne; exact absurd rfl hne
      | cons x r =>
        intro _ ih' e
        have := ih' e
        omega
theorem decI_len : ∀ (k n : Nat), (decI n).length ≤ k + 1 ↔ n < 10 ^ (k + 1)
  | 0, n => by
    by_cases h : n < 10
    · rw [decI_low h]; simp; omega
    · rw [decI_high h, List.length_append, List.length_singleton]
      have := List.length_pos_iff.2 (decI_ne (n / 10))
      constructor <;> intro q <;> omega
  | k + 1, n => by
    by_cases h : n < 10
    · rw [decI_low h, List.length_singleton]
      have : 10 ≤ 10 ^ (k + 1 + 1) := Nat.le_trans (by decide) (Nat.pow_le_pow_right (n := 10) (by decide) (show 1 ≤ k + 1 + 1 by omega))
      constructor <;> intro q <;> omega
    · rw [decI_high h, List.length_append, List.length_singleton]
      have := decI_len k (n / 10)
      have e : 10 ^ (k + 1 + 1) = 10 ^ (k + 1) * 10 := Nat.pow_succ ..
      rw [e]
      generalize 10 ^ (k + 1) = p at this ⊢
      omega
theorem decI_len16 (n : Nat) : (decI n).length ≤ 16 ↔ n < 10000000000000000 := decI_len 15 n
theorem ref_dec (n : Nat) : refNum (decI n) = if n < 10000000000000000 then ((n : Int), true) else (0, false) := by
  have hne := decI_ne n
  have hd := decI_dig n
  have hg := digs_dec n
  have hh := decI_head n
  have hl := decI_len16 n
  have h0 : n = 0 → decI n = [48] := fun h => by rw [h]; exact decI_low (by decide)
  revert hne hd hg hh hl h0
  cases decI n with
  | nil => intro hne; exact absurd rfl hne
  | cons c r =>
    intro _ hd hg hh hl h0
    have hc := hd c (List.mem_cons_self ..)
    have e45 : (c == 45) = false := by rw [beq_eq_false_iff_ne]; omega
    rw [refNum, e45, cond_false]
    by_cases hn : n < 10000000000000000
    · rw [if_pos hn, df (show ¬ (c :: r).length > 16 by have := hl.2 hn; omega), Bool.false_or]
      have : (c == 48 && decide ((c :: r).length > 1)) = false := by
        cases h48 : c == 48 with
        | false => rfl
        | true =>
          have := h0 (hh (eq_of_beq h48))
          rw [this]; rfl
      rw [this, cond_false, hg]
    · rw [if_neg hn, dt (show (c :: r).length > 16 by have := mt hl.1 hn; omega), Bool.true_or, cond_true]
def itoaI (n : Int) : List Int := bytesI (Lib.itoa n)
theorem itoa_neg {n : Int} (h : n < 0) : itoaI n = 45 :: decI n.natAbs := by
  unfold itoaI Lib.itoa; rw [if_pos h]; rfl
theorem itoa_pos {n : Int} (h : ¬ n < 0) : itoaI n = decI n.toNat := by
  unfold itoaI Lib.itoa; rw [if_neg h]; rfl
def fewI (n : Int) : Bool := decide (-9999999999999999 ≤ n ∧ n ≤ 9999999999999999)
theorem ref_itoa (n : Int) : (refNum (itoaI n)).2 = fewI n ∧ (fewI n = true → (refNum (itoaI n)).1 = n) := by
  unfold fewI
  by_cases h : n < 0
  · rw [itoa_neg h, refNum, show ((45 : Int) == 45) = true from rfl, cond_true, ref_dec]
    by_cases hn : n.natAbs < 10000000000000000
    · rw [if_pos hn, dt (show -9999999999999999 ≤ n ∧ n ≤ 9999999999999999 by omega), Bool.true_and]
      exact ⟨dt (show ((n.natAbs : Nat) : Int) > 0 by omega), fun _ => by dsimp only; omega⟩
    · rw [if_neg hn, df (show ¬ (-9999999999999999 ≤ n ∧ n ≤ 9999999999999999) by omega), Bool.false_and]
      exact ⟨rfl, fun h => by cases h⟩
  · rw [itoa_pos h, ref_dec]
    by_cases hn : n.toNat < 10000000000000000
    · rw [if_pos hn, dt (show -9999999999999999 ≤ n ∧ n ≤ 9999999999999999 by omega)]
      exact ⟨rfl, fun _ => by dsimp only; omega⟩
    · rw [if_neg hn, df (show ¬ (-9999999999999999 ≤ n ∧ n ≤ 9999999999999999) by omega)]
      exact ⟨rfl, fun h => by cases h⟩
theorem itoa_chars (n : Int) : ∀ c ∈ itoaI n, 45 ≤ c ∧ c ≤ 57 := by
  intro c hc
  by_cases h : n < 0
  · rw [itoa_neg h] at hc
    rcases List.mem_cons.1 hc with hc | hc
    · omega
    · have := decI_dig _ c hc; omega
  · rw [itoa_pos h] at hc
    have := decI_dig _ c hc; omega
theorem itoa_isB (n : Int) : isB (itoaI n) := fun c hc => by have := itoa_chars n c hc; omega
theorem itoa_len {n : Int} (h : -9223372036854775808 ≤ n ∧ n ≤ 9223372036854775807) : (itoaI n).length ≤ 20 := by
  by_cases h' : n < 0
  · rw [itoa_neg h', List.length_cons]
    have := (decI_len 18 n.natAbs).2 (by rw [show (10 : Nat) ^ (18 + 1) = 10000000000000000000 from rfl]; omega)
    omega
  · rw [itoa_pos h']
    have := (decI_len 18 n.toNat).2 (by rw [show (10 : Nat) ^ (18 + 1) = 10000000000000000000 from rfl]; omega)
    omega
theorem go_itoa {n : Int} (h : -9223372036854775808 ≤ n ∧ n ≤ 9223372036854775807) : go_strconv_Itoa n = some (itoaI n) := if_pos h
theorem small_law {n : Int} (h : -9223372036854775808 ≤ n ∧ n ≤ 9223372036854775807) : go_flight_small n = some (fewI n) := by
  unfold go_flight_small
  obtain ⟨v, h1, h2⟩ := number_law (itoa_isB n) (Nat.le_trans (itoa_len h) (by decide))
  rw [go_itoa h, Option.bind_some, h1, Option.bind_some]
  exact congrArg some (ref_itoa n).1
end Go.Proofs
end
set_option linter.unusedVariables false
set_option maxRecDepth 100000
noncomputable section
namespace Go.Proofs
open Go Go.Fx
end Go.Proofs
end
set_option linter.unusedVariables false
set_option linter.unusedSimpArgs false
noncomputable section
namespace Go.Proofs
open Go Go.Fx
abbrev DX := List Int × Bool × Bool × List Int × Int × Int × Int
def doX (d : DX) : PV := .agg [.str d.1, .isl d.2.1 d.2.2.1 .u8 d.2.2.2.1, .int .i64 d.2.2.2.2.1, .int .i64 d.2.2.2.2.2.1, .int .i64 d.2.2.2.2.2.2]
def in64 (n : Int) : Prop := -9223372036854775808 ≤ n ∧ n ≤ 9223372036854775807
structure FitX (d : DX) : Prop where
  v : d.1.length ≤ 1000
  vB : isB d.1
  bB : isB d.2.2.2.1
  b : d.2.2.2.1.length ≤ 1000
  x : in64 d.2.2.2.2.1
  y : in64 d.2.2.2.2.2.1
  z : in64 d.2.2.2.2.2.2
def rightI (v b : List Int) (x y z : Int) : Bool :=
  bif v == feedK then (x == 0 && (y == 0 && z == 0)) && (decide ((b.length : Int) > 0) && decide ((b.length : Int) ≤ 600))
  else bif v == faultK then !decide ((b.length : Int) > 0) && (fewI x && (fewI y && fewI z))
  else bif v == resetK then (x == 0 && (y == 0 && z == 0)) && !decide ((b.length : Int) > 0)
  else false
def rightX (d : DX) : Bool := rightI d.1 d.2.2.2.1 d.2.2.2.2.1 d.2.2.2.2.2.1 d.2.2.2.2.2.2
theorem beq_pos (n : Nat) : ((n : Int) == 0) = !decide ((n : Int) > 0) := by
  by_cases h : (n : Int) > 0
  · rw [dt h, beq_eq_false_iff_ne.2 (by omega)]; rfl
  · rw [df h, beq_iff_eq.2 (by omega)]; rfl
theorem ge_pos (n : Nat) : decide ((n : Int) ≥ 1) = decide ((n : Int) > 0) := by
  by_cases h : (n : Int) > 0
  · rw [dt h, dt (by omega)]
  · rw [df h, df (by omega)]
theorem right_law {v b : List Int} {x y z : Int} (hx : in64 x) (hy : in64 y) (hz : in64 z) (nl ex : Bool) : go_flight_Right v nl ex b x y z = some (rightI v b x y z) := by
  unfold go_flight_Right rightI
  simp only [small_law hx, small_law hy, small_law hz, beq_pos, ge_pos, Option.bind_some]
  change (bif x == 0 then bif y == 0 then bif v == feedK then _ else bif v == faultK then _ else bif v == resetK then _ else _ else bif v == feedK then _ else bif v == faultK then _ else bif v == resetK then _ else _ else bif v == feedK then _ else bif v == faultK then _ else bif v == resetK then _ else _) = _
  cases x == 0 <;> cases y == 0 <;> cases v == feedK <;> cases v == faultK <;> cases v == resetK <;> cases z == 0 <;> cases decide ((b.length : Int) > 0) <;> cases decide ((b.length : Int) ≤ 600) <;> cases fewI x <;> cases fewI y <;> rfl
def hexT : List Int → List Int
  | [] => []
  | x :: r => hexL.getD (x / 16).toNat 0 :: hexL.getD (x % 16).toNat 0 :: hexT r
set_option maxRecDepth 100000 in
theorem hex_sign : ∀ i : Nat, i < 16 → signB (hexL.getD i 0) = [hexL.getD i 0] := by decide
set_option maxRecDepth 100000 in
theorem and15 : ∀ n : Nat, n < 256 → IntKind.wrap .u8 (bAnd .u8 (n : Int) 15) = (n : Int) % 16 := by decide
theorem hexT_len : ∀ b : List Int, (hexT b).length = 2 * b.length
  | [] => rfl
  | x :: r => by rw [hexT, List.length_cons, List.length_cons, hexT_len r, List.length_cons]; omega
def lineT (v b : List Int) (x y z : Int) : List Int :=
  bif v == feedK then v ++ 32 :: hexT b else bif v == faultK then v ++ 32 :: (itoaI x ++ 32 :: (itoaI y ++ 32 :: itoaI z)) else v
theorem hex_loop {l b l13 l16 : List Int} {x y z : Int} (nl ex b14 b15 : Bool) (hb : isB b) (hl : b.length ≤ 1000) (hll : l.length ≤ 2000) : lp_flight_line_0 l nl ex b ((b.length : Nat) : Int) 0 l13 b14 b15 l16 x y z = some (l ++ hexT b, l13, b14, b15, l16, x, y, z) := by
  unfold lp_flight_line_0
  refine loop_spec (Y := List Int × List Int × Bool × Bool × List Int × Int × Int × Int) (step := fun x : List Int × Bool × Bool × List Int × Int × Int × List Int × Bool × Bool × List Int × Int × Int × Int => st_flight_line_0 x.1 x.2.1 x.2.2.1 x.2.2.2.1 x.2.2.2.2.1 x.2.2.2.2.2.1 x.2.2.2.2.2.2.1 x.2.2.2.2.2.2.2.1 x.2.2.2.2.2.2.2.2.1 x.2.2.2.2.2.2.2.2.2.1 x.2.2.2.2.2.2.2.2.2.2.1 x.2.2.2.2.2.2.2.2.2.2.2.1 x.2.2.2.2.2.2.2.2.2.2.2.2)
    (fun _ => (l ++ hexT b, l13, b14, b15, l16, x, y, z))
    (fun s => ∃ (k : Nat) (t : List Int), s = (t, nl, ex, b, ((b.length : Nat) : Int), (k : Int), l13, b14, b15, l16, x, y, z) ∧ k ≤ b.length ∧ t.length = l.length + 2 * k ∧ t ++ hexT (b.drop k) = l ++ hexT b)
    (fun s => b.length - s.2.2.2.2.2.1.toNat) (fun s ⟨k, t, hs, q1, q2, q3⟩ => ?_) ⟨0, l, rfl, Nat.zero_le _, rfl, rfl⟩ (by dsimp only; omega)
  subst hs
  dsimp only
  unfold st_flight_line_0
  by_cases hk : k < b.length
  · right
    have hg := get_isB hb hk
    have w1 : IntKind.wrap .i64 ((k : Int) + 1) = ((k + 1 : Nat) : Int) := by rw [w64 (by omega) (by omega)]; rfl
    have c1 : decide ((k : Int) < ((b.length : Nat) : Int)) = true := dt (by omega)
    have c2 : decide ((0 : Int) ≤ (k : Int)) = true := dt (by omega)
    have c3 : decide (k < b.length) = true := dt hk
    rw [drop_get hk, hexT] at q3
    simp only [w1, c1, c2, c3, Int.toNat_natCast, cond_true]
    have ha : IntKind.wrap .u8 (bAnd .u8 (b.getD k 0) 15) = (b.getD k 0) % 16 := by
      have := and15 (b.getD k 0).toNat (by omega)
      rwa [Int.toNat_of_nonneg hg.1] at this
    have hs1 : signB (List.getD [48, 49, 50, 51, 52, 53, 54, 55, 56, 57, 97, 98, 99, 100, 101, 102] ((b.getD k 0) / 16).toNat 0) = [hexL.getD ((b.getD k 0) / 16).toNat 0] := hex_sign _ (by omega)
    have hs2 : signB (List.getD [48, 49, 50, 51, 52, 53, 54, 55, 56, 57, 97, 98, 99, 100, 101, 102] ((b.getD k 0) % 16).toNat 0) = [hexL.getD ((b.getD k 0) % 16).toNat 0] := hex_sign _ (by omega)
    have c4 : decide ((0 : Int) ≤ (b.getD k 0) / 16) = true := dt (by omega)
    have c5 : decide ((b.getD k 0) / 16 < ((16 : Nat) : Int)) = true := dt (by omega)
    have c6 : decide ((b.getD k 0) % 16 < ((16 : Nat) : Int)) = true := dt (by omega)
    simp only [ha, hs1, hs2, c4, c5, c6, cond_true, List.length_singleton, List.singleton_append, List.length_cons, List.length_nil]
    have c7 : decide (1 + 1 ≤ 4611686018427387904) = true := by decide
    have c8 : decide (t.length + (0 + 1 + 1) ≤ 4611686018427387904) = true := dt (by omega)
    simp only [Nat.zero_add] at c8 ⊢
    simp only [c7, c8, cond_true]
    refine ⟨_, rfl, ⟨k + 1, t ++ [hexL.getD ((b.getD k 0) / 16).toNat 0, hexL.getD ((b.getD k 0) % 16).toNat 0], rfl, by omega, by simp; omega, ?_⟩, by dsimp only; omega, trivial⟩
    rw [← q3, List.append_assoc]; rfl
  · left
    rw [df (show ¬ (k : Int) < ((b.length : Nat) : Int) by omega), cond_false]
    rw [List.drop_eq_nil_of_le (by omega), hexT, List.append_nil] at q3
    rw [q3]
theorem num3_loop {l : List Int} {x y z : Int} (hx : in64 x) (hy : in64 y) (hz : in64 z) (hl : l.length ≤ 10000) : lp_flight_line_1 l x y z 0 = some (l ++ 32 :: (itoaI x ++ 32 :: (itoaI y ++ 32 :: itoaI z))) := by
  have lx := itoa_len hx
  have ly := itoa_len hy
  have lz := itoa_len hz
  unfold lp_flight_line_1
  refine loopN_of 4 (by omega) ?_
  have st0 : st_flight_line_1 l x y z 0 = some (.inl (l ++ (([32] : List Int) ++ itoaI x), x, y, z, 1)) := by
    unfold st_flight_line_1
    rw [go_itoa hx, Option.bind_some, dt (show 1 + (itoaI x).length ≤ 4611686018427387904 by omega), dt (show l.length + (([32] : List Int) ++ itoaI x).length ≤ 4611686018427387904 by simp; omega)]
    rfl
  have st1 : ∀ t : List Int, t.length ≤ 20000 → st_flight_line_1 t x y z 1 = some (.inl (t ++ (([32] : List Int) ++ itoaI y), x, y, z, 2)) := fun t ht => by
    unfold st_flight_line_1
    rw [go_itoa hy, Option.bind_some, dt (show 1 + (itoaI y).length ≤ 4611686018427387904 by omega), dt (show t.length + (([32] : List Int) ++ itoaI y).length ≤ 4611686018427387904 by simp; omega)]
    rfl
  have st2 : ∀ t : List Int, t.length ≤ 20000 → st_flight_line_1 t x y z 2 = some (.inl (t ++ (([32] : List Int) ++ itoaI z), x, y, z, 3)) := fun t ht => by
    unfold st_flight_line_1
    rw [go_itoa hz, Option.bind_some, dt (show 1 + (itoaI z).length ≤ 4611686018427387904 by omega), dt (show t.length + (([32] : List Int) ++ itoaI z).length ≤ 4611686018427387904 by simp; omega)]
    rfl
  have st3 : ∀ t : List Int, st_flight_line_1 t x y z 3 = some (.inr t) := fun t => rfl
  simp only [iterN]
  rw [st0]; dsimp only
  rw [st1 _ (by simp; omega)]; dsimp only
  rw [st2 _ (by simp; omega)]; dsimp only
  rw [st3]; simp
theorem line_print {d : DX} (h : FitX d) : go_flight_line d.1 d.2.1 d.2.2.1 d.2.2.2.1 d.2.2.2.2.1 d.2.2.2.2.2.1 d.2.2.2.2.2.2 = some (lineT d.1 d.2.2.2.1 d.2.2.2.2.1 d.2.2.2.2.2.1 d.2.2.2.2.2.2 ++ [10]) := by
  obtain ⟨v, nl, ex, b, x, y, z⟩ := d
  obtain ⟨h1, h2, h3, h4, h5, h6, h7⟩ := h
  dsimp only at *
  unfold go_flight_line lineT
  cases hv1 : v == feedK with
  | true =>
    have e := eq_of_beq hv1
    subst e
    rw [show (feedK == [102, 101, 101, 100]) = true from rfl, cond_true, show decide (feedK.length + 1 ≤ 4611686018427387904) = true from rfl, cond_true,
      hex_loop (l := feedK ++ [32]) nl ex nl ex h3 h4 (by decide), Option.bind_some]
    have : (feedK == [102, 97, 117, 108, 116]) = false := rfl
    have hh := hexT_len b
    dsimp only
    have h5' : (feedK ++ [32] ++ hexT b : List Int).length + 1 ≤ 4611686018427387904 := by
      rw [List.length_append, show (feedK ++ [32] : List Int).length = 5 from rfl]; omega
    rw [this, cond_false, dt h5', cond_true, cond_true]
    simp
  | false =>
    have h1' : (v == [102, 101, 101, 100]) = false := hv1
    rw [h1', cond_false, cond_false]
    cases hv2 : v == faultK with
    | true =>
      have h2' : (v == [102, 97, 117, 108, 116]) = true := hv2
      have lx := itoa_len h5
      have ly := itoa_len h6
      have lz := itoa_len h7
      rw [h2', cond_true, num3_loop h5 h6 h7 (by omega), Option.bind_some, dt (by simp; omega), cond_true, cond_true]
    | false =>
      have h2' : (v == [102, 97, 117, 108, 116]) = false := hv2
      rw [h2', cond_false, dt (show v.length + 1 ≤ 4611686018427387904 by omega), cond_true, cond_false]
def textX (d : DX) : List Int := lineT d.1 d.2.2.2.1 d.2.2.2.2.1 d.2.2.2.2.2.1 d.2.2.2.2.2.2
theorem lineOf_law {d : DX} (h : FitX d) : lineOf (doX d) = some (textX d ++ [10]) := (rfl : lineOf (doX d) = go_flight_line d.1 d.2.1 d.2.2.1 d.2.2.2.1 d.2.2.2.2.1 d.2.2.2.2.2.1 d.2.2.2.2.2.2).trans (line_print h)
def flat : List (List Int) → List Int
  | [] => []
  | l :: r => l ++ 10 :: flat r
theorem linesOf_law : ∀ {ds : List DX}, (∀ d ∈ ds, FitX d) → linesOf (ds.map doX) = some (flat (ds.map textX))
  | [], _ => rfl
  | d :: r, h => by
    rw [List.map_cons, linesOf, lineOf_law (h d (List.mem_cons_self ..)), Option.bind_some, linesOf_law (fun e he => h e (List.mem_cons_of_mem _ he)), Option.bind_some, List.map_cons, flat]
    simp
end Go.Proofs
end
set_option linter.unusedVariables false
set_option linter.unusedSimpArgs false
noncomputable section
namespace Go.Proofs
open Go Go.Fx
theorem doX_get {ds : List DX} {i : Nat} (h : i < ds.length) : ∃ d, ds[i]? = some d ∧ d ∈ ds ∧ (ds.map doX).getD i .nilSl = doX d := by
  refine ⟨ds[i], List.getElem?_eq_getElem h, List.getElem_mem h, ?_⟩
  rw [List.getD_eq_getElem?_getD, List.getElem?_map, List.getElem?_eq_getElem h]; rfl
theorem doX_len (d : DX) : (PV.cells (doX d)).length = 5 := rfl
theorem doX_ok (d : DX) : Shp.ok (.agg [.str, (.isl .u8), (.int .i64), (.int .i64), (.int .i64)]) (.agg (PV.cells (doX d))) = true := rfl
theorem print1_law {d : DX} (h : FitX d) : go_flight_Print_1 d.1 d.2.1 d.2.2.1 d.2.2.2.1 d.2.2.2.2.1 d.2.2.2.2.2.1 d.2.2.2.2.2.2 = some (!rightX d) := by
  unfold go_flight_Print_1
  rw [right_law h.x h.y h.z, Option.bind_some]; rfl
theorem all_take {p : DX → Bool} {ds : List DX} {i : Nat} {d : DX} (h : ds[i]? = some d) (ha : (ds.take i).all p = true) (hd : p d = true) : (ds.take (i + 1)).all p = true := by
  rw [List.take_add_one, h, List.all_append, ha, Bool.true_and]
  show (p d && true) = true
  rw [hd]; rfl
theorem all_not {p : DX → Bool} {ds : List DX} {d : DX} (h : d ∈ ds) (hd : p d = false) : ds.all p = false := by
  rw [List.all_eq_false]
  exact ⟨d, h, by rw [hd]; simp⟩
theorem contains_do {ds : List DX} (h : ∀ d ∈ ds, FitX d) (hl : ds.length ≤ 1000000) (nl ex : Bool) : go_slices_ContainsFunc__flight_Do_flight_Do nl ex (ds.map doX) = some (!ds.all rightX) := by
  have key : ∃ y, lp_slices_IndexFunc__flight_Do_flight_Do_0 nl ex (ds.map doX) (((ds.map doX).length : Nat) : Int) 0 = some y ∧ (match y with | .inl () => ds.all rightX = true | .inr i => 0 ≤ i ∧ ds.all rightX = false) := by
    unfold lp_slices_IndexFunc__flight_Do_flight_Do_0
    refine loop_rule (step := fun x : Bool × Bool × List PV × Int × Int => st_slices_IndexFunc__flight_Do_flight_Do_0 x.1 x.2.1 x.2.2.1 x.2.2.2.1 x.2.2.2.2)
      (fun x => ∃ i : Nat, x = (nl, ex, ds.map doX, (((ds.map doX).length : Nat) : Int), (i : Int)) ∧ i ≤ ds.length ∧ (ds.take i).all rightX = true)
      (fun x => ds.length - x.2.2.2.2.toNat) (fun y : Unit ⊕ Int => match y with | .inl () => ds.all rightX = true | .inr i => 0 ≤ i ∧ ds.all rightX = false) (fun x ⟨i, hx, q1, q2⟩ => ?_) ⟨0, rfl, Nat.zero_le _, rfl⟩ (by dsimp only; omega)
    subst hx
    dsimp only
    unfold st_slices_IndexFunc__flight_Do_flight_Do_0
    rw [List.length_map]
    by_cases hi : i < ds.length
    · obtain ⟨d, g1, g2, g3⟩ := doX_get hi
      have w1 : IntKind.wrap .i64 ((i : Int) + 1) = ((i + 1 : Nat) : Int) := by rw [w64 (by omega) (by omega)]; rfl
      have c1 : decide ((i : Int) < ((ds.length : Nat) : Int)) = true := dt (by omega)
      have c2 : decide ((0 : Int) ≤ (i : Int)) = true := dt (by omega)
      have c3 : decide (i < ds.length) = true := dt hi
      have hp := print1_law (h d g2)
      simp only [Int.toNat_natCast, w1, c1, c2, c3, g3, doX_len, doX_ok, cond_true, decide_true]
      change (∃ y, (go_flight_Print_1 d.1 d.2.1 d.2.2.1 d.2.2.2.1 d.2.2.2.2.1 d.2.2.2.2.2.1 d.2.2.2.2.2.2).bind _ = _ ∧ _) ∨ ∃ x', (go_flight_Print_1 d.1 d.2.1 d.2.2.1 d.2.2.2.1 d.2.2.2.2.1 d.2.2.2.2.2.1 d.2.2.2.2.2.2).bind _ = _ ∧ _
      rw [hp, Option.bind_some]
      cases hr : rightX d with
      | false => exact .inl ⟨_, rfl, by omega, all_not g2 hr⟩
      | true => exact .inr ⟨_, rfl, ⟨i + 1, rfl, by omega, all_take g1 q2 hr⟩, by dsimp only; omega⟩
    · left
      rw [df (show ¬ (i : Int) < ((ds.length : Nat) : Int) by omega), cond_false]
      rw [List.take_of_length_le (by omega)] at q2
      exact ⟨_, rfl, q2⟩
  obtain ⟨y, h1, h2⟩ := key
  unfold go_slices_ContainsFunc__flight_Do_flight_Do go_slices_IndexFunc__flight_Do_flight_Do
  rw [h1, Option.bind_some]
  cases y with
  | inl u => cases u; rw [h2]; rfl
  | inr i =>
    rw [h2.2]
    show some (decide (i ≥ 0)) = some true
    rw [dt h2.1]
theorem textX_len {d : DX} (h : FitX d) : (textX d).length ≤ 2006 := by
  obtain ⟨v, nl, ex, b, x, y, z⟩ := d
  obtain ⟨h1, h2, h3, h4, h5, h6, h7⟩ := h
  dsimp only at *
  have lx := itoa_len h5
  have ly := itoa_len h6
  have lz := itoa_len h7
  have lb := hexT_len b
  show (lineT v b x y z).length ≤ _
  unfold lineT
  cases hv1 : v == feedK with
  | true =>
    rw [cond_true, eq_of_beq hv1, List.length_append, List.length_cons, show feedK.length = 4 from rfl]; omega
  | false =>
    rw [cond_false]
    cases v == faultK with
    | true =>
      rw [cond_true]
      simp only [List.length_append, List.length_cons]; omega
    | false => rw [cond_false]; omega
theorem flat_len : ∀ {ds : List DX}, (∀ d ∈ ds, FitX d) → (flat (ds.map textX)).length ≤ 2007 * ds.length
  | [], _ => Nat.le_refl _
  | d :: r, h => by
    have := textX_len (h d (List.mem_cons_self ..))
    have := flat_len (ds := r) (fun e he => h e (List.mem_cons_of_mem _ he))
    rw [List.map_cons, flat, List.length_append, List.length_cons, List.length_cons]; omega
theorem print_law {ds : List DX} (h : ∀ d ∈ ds, FitX d) (hl : ds.length ≤ 1000000) (nl ex : Bool) : go_flight_Print nl ex (ds.map doX) = some (bif ds.all rightX then (flat (ds.map textX), 0) else ([], 1)) := by
  unfold go_flight_Print
  rw [contains_do h hl, Option.bind_some]
  cases ds.all rightX with
  | false => rfl
  | true =>
    have := flat_len h
    rw [Bool.not_true, cond_false, List.length_map, dt hl, cond_true, linesOf_law h, Option.bind_some, dt (show (flat (ds.map textX)).length ≤ 140737488355328 by omega)]
    rfl
def rdX (d : DX) : DV := (d.1, (bif d.1 == feedK then some d.2.2.2.1 else none), d.2.2.2.2.1, d.2.2.2.2.2.1, d.2.2.2.2.2.2)
def litA : List Int := [114, 101, 115, 101, 116, 10, 102, 97, 117, 108, 116, 32, 48, 32, 49, 32, 45, 53, 10]
def litD : List DX := [(resetK, true, true, [], 0, 0, 0), (faultK, true, true, [], 0, 1, -5)]
theorem litD_fit : ∀ d ∈ litD, FitX d := by
  intro d hd
  simp only [litD, List.mem_cons, List.not_mem_nil, or_false] at hd
  rcases hd with rfl | rfl <;> exact ⟨by decide, by unfold isB; decide, by unfold isB; decide, by decide, by unfold in64; decide, by unfold in64; decide, by unfold in64; decide⟩
theorem litD_flat : flat (litD.map textX) = litA := by
  have e0 : itoaI 0 = [48] := by rw [itoa_pos (by decide)]; exact decI_low (by decide)
  have e1 : itoaI 1 = [49] := by rw [itoa_pos (by decide)]; exact decI_low (by decide)
  have e5 : itoaI (-5) = [45, 53] := by rw [itoa_neg (by decide)]; exact congrArg _ (decI_low (by decide))
  show resetK ++ 10 :: ((faultK ++ 32 :: (itoaI 0 ++ 32 :: (itoaI 1 ++ 32 :: itoaI (-5)))) ++ 10 :: []) = litA
  rw [e0, e1, e5]; rfl
theorem awake_law : go_coupletlaw20_awake = some true := by
  unfold go_coupletlaw20_awake
  have hp := parse_law (l := litA) (by unfold isB; decide) (by decide)
  have e : parseI 0 (cutC 10 (trimNL litA)) = .inr (litD.map rdX) := by rfl
  rw [e] at hp
  have hP := print_law litD_fit (by decide) false false
  rw [litD_flat] at hP
  have h0 : go_flight_Parse [114, 101, 115, 101, 116, 10, 102, 97, 117, 108, 116, 32, 48, 32, 49, 32, 45, 53, 10] = some (false, false, litD.map doX, 2, 0) := hp
  have h1 : go_flight_Print false false (litD.map doX) = some (litA, 0) := hP
  rw [h0, Option.bind_some]
  dsimp only
  rw [h1, Option.bind_some]
  have hR := right_law (v := resetK) (b := []) (x := 0) (y := 0) (z := 0) (by unfold in64; decide) (by unfold in64; decide) (by unfold in64; decide) true true
  show (go_flight_Right resetK true true [] 0 0 0).bind _ = some true
  rw [hR]; rfl
end Go.Proofs
end
set_option linter.unusedVariables false
set_option linter.unusedSimpArgs false
noncomputable section
namespace Go.Proofs
open Go Go.Fx
theorem all_isB {l : List Int} (h : isB l) : l.all (fun x => decide ((0 ≤ x) ∧ (x < 256))) = true := List.all_eq_true.2 fun x hx => dt (h x hx)
theorem same_law {v b b' : List Int} {x y z : Int} {n1 e1 n2 e2 : Bool} (hb : isB b) (hb' : b' = b) : go_coupletlaw20_same v n1 e1 b x y z v n2 e2 b' x y z = some true := by
  subst hb'
  unfold go_coupletlaw20_same
  rw [beq_self_eq_true, cond_true, all_isB hb, cond_true, cond_true, beq_self_eq_true, cond_true, beq_self_eq_true, cond_true, beq_self_eq_true, cond_true, beq_self_eq_true]
theorem hexG_isB : ∀ {l bs : List Int} {h : Int}, h ≤ 15 → hexG h l = some bs → isB bs
  | [], bs, h, _, e => by cases e; exact fun x hx => absurd hx List.not_mem_nil
  | x :: r, bs, h, hh, e => by
    rw [hexG] at e
    have hv := hexV_le x
    by_cases h1 : hexV x < 0
    · rw [dt h1] at e; cases e
    · rw [df h1, cond_false] at e
      by_cases h2 : h < 0
      · rw [dt h2, cond_true] at e; exact hexG_isB hv.2 e
      · rw [df h2, cond_false] at e
        cases hq : hexG (-1) r with
        | none => rw [hq] at e; cases e
        | some q =>
          rw [hq] at e
          cases e
          exact isB_cons.2 ⟨by omega, hexG_isB (by decide) hq⟩
theorem line_isB {s : List Int} {d : DV} (h : lineI s = some d) : isB (d.2.1.getD []) := by
  have nil : isB [] := fun x hx => absurd hx List.not_mem_nil
  unfold lineI at h
  cases hc : cutC 32 s with
  | nil => rw [hc] at h; cases h
  | cons v ws =>
    rw [hc] at h
    dsimp only at h
    unfold lineW at h
    cases h1 : v == feedK with
    | true =>
      rw [h1, cond_true] at h
      cases hf : feedI ws with
      | none => rw [hf] at h; cases h
      | some bs =>
        rw [hf] at h; cases h
        match ws, hf with
        | [x], hf =>
          have hf : hexB x = some bs := hf
          unfold hexB at hf
          generalize (x == [] || (Int.tmod (x.length : Int) 2 == 1) || decide (x.length > 1200)) = c at hf
          cases c with
          | true => cases hf
          | false => exact hexG_isB (by decide) hf
    | false =>
      rw [h1, cond_false] at h
      cases h2 : v == faultK with
      | true =>
        rw [h2, cond_true] at h
        cases hf : faultI ws with
        | none => rw [hf] at h; cases h
        | some p => rw [hf] at h; cases h; exact nil
      | false =>
        rw [h2, cond_false] at h
        cases h3 : v == resetK with
        | true =>
          rw [h3, cond_true] at h
          cases ws with
          | nil => cases h; exact nil
          | cons _ _ => cases h
        | false => rw [h3] at h; cases h
theorem pv_get {ds : List DV} {i : Nat} {d : DV} (h : ds[i]? = some d) : (ds.map doPV).getD i .nilSl = doPV d := by
  rw [List.getD_eq_getElem?_getD, List.getElem?_map, h]; rfl
theorem pv_ok (d : DV) : Shp.ok (.agg [.str, (.isl .u8), (.int .i64), (.int .i64), (.int .i64)]) (.agg (PV.cells (doPV d))) = true := by
  obtain ⟨v, w, x, y, z⟩ := d
  cases w <;> rfl
theorem pv_len (d : DV) : (PV.cells (doPV d)).length = 5 := rfl
theorem word_ints (w : Option (List Int)) : PV.ints (wordPV w) = w.getD [] := by cases w <;> rfl
theorem true_FlightParses {l : List Int} (hb : isB l) : go_coupletlaw20_FlightParses l = some true := by
  unfold go_coupletlaw20_FlightParses
  by_cases hl : ((l.length : Nat) : Int) > 3000
  · rw [dt hl, cond_true, awake_law]; rfl
  rw [df hl, cond_false, parse_law hb (by omega), Option.bind_some]
  obtain ⟨ex, hlines⟩ := lines_law (l := l) (by omega)
  rw [hlines, Option.bind_some]
  dsimp only
  have hLb := isB_cut (c := 10) (trimNL_isB hb)
  have hLl := cut_len (c := 10) (trimNL l)
  have htl := trimNL_len l
  generalize cutC 10 (trimNL l) = L at hLb hLl ⊢
  have hll : ∀ w ∈ L, w.length ≤ 100000 := fun w hw => by have := hLl.2 w hw; omega
  have hL : L.length ≤ 5000 := by omega
  have step : ∀ (b4 b5 : Bool) (es6 : List PV) (n7 n8 : Int) (k i : Nat) (hi : i < L.length), (L.getD i [] == []) = true →
      st_coupletlaw20_FlightParses_0 b4 b5 es6 n7 n8 false ex (strs L) (k : Int) false ex (strs L) (((strs L).length : Nat) : Int) (i : Int) = some (.inl (b4, b5, es6, n7, n8, false, ex, strs L, (k : Int), false, ex, strs L, (((strs L).length : Nat) : Int), ((i + 1 : Nat) : Int))) := fun b4 b5 es6 n7 n8 k i hi he => by
    unfold st_coupletlaw20_FlightParses_0
    have w1 : IntKind.wrap .i64 ((i : Int) + 1) = ((i + 1 : Nat) : Int) := by rw [w64 (by omega) (by omega)]; rfl
    simp only [strs_len, Int.toNat_natCast, w1, dt (show (i : Int) < ((L.length : Nat) : Int) by omega), dt (show (0 : Int) ≤ (i : Int) by omega), dt hi, strs_get hi, scal_str, ok_str, chars_str, cond_true, he]
  have stepN : ∀ (b4 b5 : Bool) (es6 : List PV) (n7 n8 : Int) (k i : Nat) (hi : i < L.length), (L.getD i [] == []) = false → lineI (L.getD i []) = none →
      st_coupletlaw20_FlightParses_0 b4 b5 es6 n7 n8 false ex (strs L) (k : Int) false ex (strs L) (((strs L).length : Nat) : Int) (i : Int) =
        bif (((es6.length : Nat) : Int) == 0) then bif n7 == ((i + 1 : Nat) : Int) then bif n8 == 4 then some (.inr (.inr true)) else some (.inr (.inr false)) else some (.inr (.inr false)) else some (.inr (.inr false)) := fun b4 b5 es6 n7 n8 k i hi he hn => by
    unfold st_coupletlaw20_FlightParses_0
    have hm : L.getD i [] ∈ L := by
      rw [List.getD_eq_getElem?_getD, List.getElem?_eq_getElem hi]; exact List.getElem_mem hi
    obtain ⟨r, h1, h2⟩ := line_law (hLb _ hm) (hll _ hm)
    rw [hn] at h2
    dsimp only at h2
    have w1 : IntKind.wrap .i64 ((i : Int) + 1) = ((i + 1 : Nat) : Int) := by rw [w64 (by omega) (by omega)]; rfl
    simp only [strs_len, Int.toNat_natCast, w1, dt (show (i : Int) < ((L.length : Nat) : Int) by omega), dt (show (0 : Int) ≤ (i : Int) by omega), dt hi, strs_get hi, scal_str, ok_str, chars_str, cond_true, he, cond_false, h1, Option.bind_some, h2, Bool.not_false, awake_law]
  have stepS : ∀ (b4 b5 : Bool) (es6 : List PV) (n7 n8 : Int) (k i : Nat) (d : DV) (hi : i < L.length), (L.getD i [] == []) = false → lineI (L.getD i []) = some d → k ≤ 5000 → (n8 = 0 → k < es6.length ∧ es6.getD k .nilSl = doPV d) →
      st_coupletlaw20_FlightParses_0 b4 b5 es6 n7 n8 false ex (strs L) (k : Int) false ex (strs L) (((strs L).length : Nat) : Int) (i : Int) =
        some (.inl (b4, b5, es6, n7, n8, false, ex, strs L, ((k + 1 : Nat) : Int), false, ex, strs L, (((strs L).length : Nat) : Int), ((i + 1 : Nat) : Int))) := fun b4 b5 es6 n7 n8 k i d hi he hn hk hes => by
    unfold st_coupletlaw20_FlightParses_0
    have hm : L.getD i [] ∈ L := by
      rw [List.getD_eq_getElem?_getD, List.getElem?_eq_getElem hi]; exact List.getElem_mem hi
    obtain ⟨r, h1, h2⟩ := line_law (hLb _ hm) (hll _ hm)
    have hdB := line_isB hn
    rw [hn] at h2
    dsimp only at h2
    have w1 : IntKind.wrap .i64 ((i : Int) + 1) = ((i + 1 : Nat) : Int) := by rw [w64 (by omega) (by omega)]; rfl
    have w2 : IntKind.wrap .i64 ((k : Int) + 1) = ((k + 1 : Nat) : Int) := by rw [w64 (by omega) (by omega)]; rfl
    simp only [strs_len, Int.toNat_natCast, w1, w2, dt (show (i : Int) < ((L.length : Nat) : Int) by omega), dt (show (0 : Int) ≤ (i : Int) by omega), dt hi, strs_get hi, scal_str, ok_str, chars_str, cond_true, he, cond_false, h1, Option.bind_some, h2, Bool.not_true]
    by_cases h8 : n8 = 0
    · obtain ⟨g1, g2⟩ := hes h8
      rw [beq_iff_eq.2 h8, cond_true]
      simp only [df (show ¬ (k : Int) ≥ ((es6.length : Nat) : Int) by omega), dt (show (0 : Int) ≤ (k : Int) by omega), dt (show (k : Int) < ((es6.length : Nat) : Int) by omega), dt g1, g2, pv_len, pv_ok, cond_true, cond_false, decide_true]
      obtain ⟨q1, q2, q3, q4, q5, q6⟩ := h2
      have hs : go_coupletlaw20_same d.1 (PV.nl (wordPV d.2.1)) (PV.ex (wordPV d.2.1)) (PV.ints (wordPV d.2.1)) d.2.2.1 d.2.2.2.1 d.2.2.2.2 r.1 r.2.1 r.2.2.1 r.2.2.2.1 r.2.2.2.2.1 r.2.2.2.2.2.1 r.2.2.2.2.2.2.1 = some true := by
        rw [q1, q2, q3, q4, q5]
        exact same_law (by rw [word_ints]; exact hdB) (word_ints _).symm
      rw [q1, q2, q3, q4, q5] at hs
      simp only [doPV, PV.cells, PV.subs, List.headD_cons, List.tail_cons, PV.chars, PV.num]
      rw [hs]; rfl
    · rw [beq_eq_false_iff_ne.2 h8, cond_false]
  have key : ∀ (b4 b5 : Bool) (es6 : List PV) (n7 n8 : Int), (match parseI 0 L with
        | .inl j => es6 = [] ∧ n7 = (j : Int) ∧ n8 = 4
        | .inr ds => es6 = ds.map doPV ∧ n7 = ((L.length : Nat) : Int) ∧ n8 = 0) →
      ∃ y, lp_coupletlaw20_FlightParses_0 b4 b5 es6 n7 n8 false ex (strs L) 0 false ex (strs L) (((strs L).length : Nat) : Int) 0 = some y ∧ (match y with
        | .inl z => n8 = 0 ∧ n7 = ((L.length : Nat) : Int) ∧ z = (b4, b5, es6, n7, n8, false, ex, strs L, ((es6.length : Nat) : Int))
        | .inr b => b = true) := fun b4 b5 es6 n7 n8 hP => by
    unfold lp_coupletlaw20_FlightParses_0
    refine loop_rule (step := fun x : Bool × Bool × List PV × Int × Int × Bool × Bool × List PV × Int × Bool × Bool × List PV × Int × Int => st_coupletlaw20_FlightParses_0 x.1 x.2.1 x.2.2.1 x.2.2.2.1 x.2.2.2.2.1 x.2.2.2.2.2.1 x.2.2.2.2.2.2.1 x.2.2.2.2.2.2.2.1 x.2.2.2.2.2.2.2.2.1 x.2.2.2.2.2.2.2.2.2.1 x.2.2.2.2.2.2.2.2.2.2.1 x.2.2.2.2.2.2.2.2.2.2.2.1 x.2.2.2.2.2.2.2.2.2.2.2.2.1 x.2.2.2.2.2.2.2.2.2.2.2.2.2)
      (fun x => ∃ (i k : Nat) (dz : List DV), x = (b4, b5, es6, n7, n8, false, ex, strs L, (k : Int), false, ex, strs L, (((strs L).length : Nat) : Int), (i : Int)) ∧ i ≤ L.length ∧ k ≤ i ∧ dz.length = k ∧ parseI 0 L = (match parseI i (L.drop i) with | .inl j => .inl j | .inr es => .inr (dz ++ es)))
      (fun x => L.length - x.2.2.2.2.2.2.2.2.2.2.2.2.2.toNat)
      (fun y : (Bool × Bool × List PV × Int × Int × Bool × Bool × List PV × Int) ⊕ Bool => match y with
        | .inl z => n8 = 0 ∧ n7 = ((L.length : Nat) : Int) ∧ z = (b4, b5, es6, n7, n8, false, ex, strs L, ((es6.length : Nat) : Int))
        | .inr b => b = true) (fun x ⟨i, k, dz, hx, q1, q2, q3, q4⟩ => ?_) ⟨0, 0, [], rfl, Nat.zero_le _, Nat.le_refl _, rfl, ?_⟩ (by dsimp only; omega)
    · subst hx
      dsimp only
      by_cases hi : i < L.length
      · have hd : L.drop i = L.getD i [] :: L.drop (i + 1) := by
          rw [List.getD_eq_getElem?_getD, List.getElem?_eq_getElem hi]; exact List.drop_eq_getElem_cons hi
        rw [hd, parseI] at q4
        cases he : L.getD i [] == [] with
        | true =>
          rw [he, cond_true] at q4
          exact .inr ⟨_, step b4 b5 es6 n7 n8 k i hi he, ⟨i + 1, k, dz, rfl, by omega, by omega, q3, q4⟩, by dsimp only; omega⟩
        | false =>
          rw [he, cond_false] at q4
          cases hn : lineI (L.getD i []) with
          | none =>
            rw [hn] at q4
            dsimp only at q4
            rw [q4] at hP
            obtain ⟨rfl, rfl, rfl⟩ := hP
            refine .inl ⟨.inr true, (stepN b4 b5 [] _ 4 k i hi he hn).trans ?_, rfl⟩
            rw [beq_self_eq_true]; rfl
          | some d =>
            rw [hn] at q4
            dsimp only at q4
            refine .inr ⟨_, stepS b4 b5 es6 n7 n8 k i d hi he hn (by omega) (fun h8 => ?_), ⟨i + 1, k + 1, dz ++ [d], rfl, by omega, by omega, by simp [q3], ?_⟩, by dsimp only; omega⟩
            · rw [q4] at hP
              cases hp : parseI (i + 1) (L.drop (i + 1)) with
              | inl j => rw [hp] at hP; have := hP.2.2; omega
              | inr es =>
                rw [hp] at hP
                obtain ⟨rfl, _, _⟩ := hP
                refine ⟨by simp; omega, pv_get ?_⟩
                rw [List.getElem?_append_right (by omega), q3, Nat.sub_self]; rfl
            · rw [q4]
              cases parseI (i + 1) (L.drop (i + 1)) with
              | inl j => rfl
              | inr es => simp
      · left
        rw [List.drop_eq_nil_of_le (by omega), parseI] at q4
        dsimp only at q4
        rw [List.append_nil] at q4
        rw [q4] at hP
        obtain ⟨rfl, rfl, rfl⟩ := hP
        refine ⟨.inl (b4, b5, dz.map doPV, ((L.length : Nat) : Int), 0, false, ex, strs L, (k : Int)), ?_, rfl, rfl, ?_⟩
        · unfold st_coupletlaw20_FlightParses_0
          rw [strs_len, df (show ¬ (i : Int) < ((L.length : Nat) : Int) by omega), cond_false]
        · rw [List.length_map, q3]
    · rw [List.drop_zero]; cases parseI 0 L <;> rfl
  cases hp : parseI 0 L with
  | inl j =>
    obtain ⟨y, h1, h2⟩ := key true true [] (j : Int) 4 (by rw [hp]; exact ⟨rfl, rfl, rfl⟩)
    dsimp only
    rw [h1, Option.bind_some]
    cases y with
    | inl z => exact absurd h2.1 (by decide)
    | inr b => rw [h2]; rfl
  | inr ds =>
    obtain ⟨y, h1, h2⟩ := key ds.isEmpty ds.isEmpty (ds.map doPV) ((L.length : Nat) : Int) 0 (by rw [hp]; exact ⟨rfl, rfl, rfl⟩)
    dsimp only
    rw [h1, Option.bind_some]
    cases y with
    | inl z =>
      obtain ⟨_, _, rfl⟩ := h2
      dsimp only [Sum.elim_inl]
      rw [beq_self_eq_true, cond_true, strs_len, beq_self_eq_true, cond_true, awake_law]; rfl
    | inr b => rw [h2]; rfl
end Go.Proofs
end
set_option linter.unusedVariables false
set_option linter.unusedSimpArgs false
noncomputable section
namespace Go.Proofs
open Go Go.Fx
end Go.Proofs
end
set_option linter.unusedVariables false
set_option maxRecDepth 100000
noncomputable section
namespace Go.Proofs
open Go Go.Fx
end Go.Proofs
end
set_option linter.unusedVariables false
set_option maxRecDepth 100000
noncomputable section
namespace Go.Proofs
open Go Go.Fx
end Go.Proofs
end
set_option linter.unusedVariables false
set_option linter.unusedSimpArgs false
noncomputable section
namespace Go.Proofs
open Go Go.Fx
end Go.Proofs
end
set_option linter.unusedVariables false
noncomputable section
namespace Go.Proofs
open Go Go.Fx
theorem law_FlightParses {l : List Int} (w : l.length ≤ maxLen) (c : ∀ x ∈ l, 0 ≤ x ∧ x < 256) : go_coupletlaw20_FlightParses l = some true := true_FlightParses c
end Go.Proofs
end
