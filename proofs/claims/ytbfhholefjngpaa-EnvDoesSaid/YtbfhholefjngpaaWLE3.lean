import Derived.Test.YtbfhholefjngpaaWGE2
import Derived.Test.YtbfhholefjngpaaWLh
import Derived.Test.YtbfhholefjngpaaWHoldlaw
import Derived.Test.YtbfhholefjngpaaWGE3
/-
  Layer 3: what the document's functions answer (ref one, ref Do).
-/
set_option linter.unusedSimpArgs false
set_option linter.unusedVariables false
set_option maxRecDepth 100000
namespace Go.Proofs
open Go Go.Fx Go.Mdlaw Go.Rootlaw Go.Cmplaw

theorem bits_inj : ∀ {m x y : Nat}, x < 2 ^ m → y < 2 ^ m → Bitrow.bits m x = Bitrow.bits m y → x = y
  | 0, x, y, hx, hy, _ => by simp at hx hy; omega
  | m + 1, x, y, hx, hy, h => by
    simp only [Bitrow.bits, List.cons.injEq] at h
    have := bits_inj (m := m) (x := x / 2) (y := y / 2) (by rw [Nat.pow_succ] at hx; omega) (by rw [Nat.pow_succ] at hy; omega) h.2
    omega
theorem lessV_bits {x y : Nat} (hx : x < 2 ^ 130) (hy : y < 2 ^ 130) : lessV (Bitrow.bits 130 x) (Bitrow.bits 130 y) = decide (x < y) := by
  have h : ∃ x' y' : Nat, x' < 2 ^ 130 ∧ y' < 2 ^ 130 ∧ Bitrow.bits 130 x = Bitrow.bits 130 x' ∧ Bitrow.bits 130 y = Bitrow.bits 130 y' := ⟨x, y, hx, hy, rfl, rfl⟩
  have key : ∀ {x' y' : Nat}, x' < 2 ^ 130 → y' < 2 ^ 130 → Bitrow.bits 130 x = Bitrow.bits 130 x' → Bitrow.bits 130 y = Bitrow.bits 130 y' → decide (x' < y') = decide (x < y) := fun h1 h2 h3 h4 => by
    rw [bits_inj hx h1 h3, bits_inj hy h2 h4]
  unfold lessV
  rw [dif_pos h]
  obtain ⟨h1, h2, h3, h4⟩ := h.choose_spec.choose_spec
  exact key h1 h2 h3 h4

theorem go_right (n : Int) : go_coupletref02_Right n = some (decide (okF n)) := by
  unfold go_coupletref02_Right
  by_cases h1 : n ≥ -1125899906842624
  · by_cases h2 : n ≤ 1125899906842624
    · simp [h1, h2, okF]
    · simp [h1, h2, okF]
  · have : ¬ (-1125899906842624 ≤ n) := h1
    simp [h1, this, okF]
theorem go_told (n : Int) (b : Bool) : go_coupletref02_Told n b = some (if b = true ∧ okF n then (n, true) else (0, false)) := by
  unfold go_coupletref02_Told
  rw [go_right]
  cases b
  · rfl
  · by_cases h : okF n <;> simp [h]
theorem td1 (n : Int) : td n true [n] = if okF n then (n, true) else (0, false) := by
  unfold td; simp
theorem go_fine (a : Nm) : go_coupletref03_Fine a.v a.lo a.hi a.bad = some (fine a) := by
  unfold go_coupletref03_Fine fine
  simp only [go_right, Option.bind_some]
  cases a.bad <;> cases decide (okF a.lo) <;> cases decide (okF a.hi) <;> cases decide (a.lo ≤ a.v) <;> rfl
theorem go_mul (x y m : Int) : go_coupletref02_Mul x y m = some (fMul x y m) := by
  have e : go_coupletref01_MulDiv x y 16777216 m = some ((md x y 16777216 m).1, (md x y 16777216 m).2) := rfl
  unfold go_coupletref02_Mul fMul td
  simp only [go_right, Option.bind_some, e, go_told]
  generalize md x y 16777216 m = r
  by_cases hx : okF x
  · by_cases hy : okF y
    · by_cases hr : okF r.1
      · cases hb : r.2 <;> simp [hx, hy, hr, hb]
      · simp [hx, hy, hr]
    · simp [hx, hy]
  · simp [hx]
theorem go_div (x y m : Int) : go_coupletref02_Div x y m = some (fDiv x y m) := by
  have e : go_coupletref01_MulDiv x 16777216 y m = some ((md x 16777216 y m).1, (md x 16777216 y m).2) := rfl
  unfold go_coupletref02_Div fDiv td
  simp only [go_right, Option.bind_some, e, go_told]
  generalize md x 16777216 y m = r
  by_cases hx : okF x
  · by_cases hy : okF y
    · by_cases hr : okF r.1
      · cases hb : r.2 <;> simp [hx, hy, hr, hb]
      · simp [hx, hy, hr]
    · simp [hx, hy]
  · simp [hx]

theorem one0 (x y m : Int) : go_coupletref03_one 0 x y m = some (fAdd x y) := by
  unfold go_coupletref03_one fAdd
  rw [show ((0 : Int) == 0) = true from rfl]
  simp only [go_right, Option.bind_some, cond_true, go_told]
  by_cases hx : okF x
  · by_cases hy : okF y
    · have hw : IntKind.wrap .i64 (x + y) = x + y := by unfold okF at hx hy; exact w64 (by omega) (by omega)
      rw [hw, td1]
      by_cases h : okF (x + y) <;> simp [hx, hy, h]
    · simp [hx, hy]
  · simp [hx]
theorem one1 (x y m : Int) : go_coupletref03_one 1 x y m = some (fSub x y) := by
  unfold go_coupletref03_one fSub
  rw [show ((1 : Int) == 0) = false from rfl, show ((1 : Int) == 1) = true from rfl]
  simp only [go_right, Option.bind_some, cond_true, cond_false, go_told]
  by_cases hx : okF x
  · by_cases hy : okF y
    · have hw : IntKind.wrap .i64 (x - y) = x - y := by unfold okF at hx hy; exact w64 (by omega) (by omega)
      rw [hw, td1]
      by_cases h : okF (x - y) <;> simp [hx, hy, h]
    · simp [hx, hy]
  · simp [hx]
theorem one2 (x y m : Int) : go_coupletref03_one 2 x y m = some (fMul x y m) := by
  unfold go_coupletref03_one
  rw [show ((2 : Int) == 0) = false from rfl, show ((2 : Int) == 1) = false from rfl, show ((2 : Int) == 2) = true from rfl]
  simp only [go_mul, Option.bind_some, cond_true, cond_false]
theorem one3 (x y m : Int) : go_coupletref03_one 3 x y m = some (fDiv x y m) := by
  unfold go_coupletref03_one
  rw [show ((3 : Int) == 0) = false from rfl, show ((3 : Int) == 1) = false from rfl, show ((3 : Int) == 2) = false from rfl, show ((3 : Int) == 3) = true from rfl]
  simp only [go_div, Option.bind_some, cond_true, cond_false]

theorem go_rt {x : Int} (hx : okF x) : go_coupletref02_Root x = some (((isq x : Nat) : Int), !decide (isq x * isq x < x.natAbs * 16777216)) := by
  have hw : okW x := by unfold okF at hx; unfold okW; omega
  have h : go_coupletref01_Root x 16777216 = some (((sqr x 16777216 : Nat) : Int), !decide (sqr x 16777216 * sqr x 16777216 < x.natAbs * (16777216 : Int).natAbs)) := if_pos ⟨hw, by decide⟩
  have e : sqr x 16777216 = isq x := rfl
  unfold go_coupletref02_Root
  rw [h, e]
  rfl
theorem fRt_bad {x m : Int} (h : ¬ okF x ∨ x < 0) : fRt x m = (0, false) := by
  unfold fRt fRoot td
  rw [if_neg]
  rintro ⟨h1, h2⟩
  rcases h with h | h
  · exact h (h2 x (by simp))
  · unfold rt at h1
    rw [if_neg (fun ho => by have := ho.1.2.2; omega)] at h1
    cases h1
theorem wrapS {R : Nat} (h : R ≤ 137438953472) : IntKind.wrap .i64 ((R : Int) + 1) = ((R + 1 : Nat) : Int) := by
  rw [w64 (by omega) (by omega)]; rfl
theorem times_rt {R : Nat} (h : R ≤ 137438953472) : go_coupletref01_Times (R : Int) ((R + 1 : Nat) : Int) = some (false, false, Bitrow.bits 130 (R * (R + 1))) := by
  have : go_coupletref01_Times (R : Int) ((R + 1 : Nat) : Int) = some (false, false, Bitrow.bits 130 ((R : Int).toNat * ((R + 1 : Nat) : Int).toNat)) := if_pos ⟨by omega, by omega, by omega, by omega⟩
  rw [this, Int.toNat_natCast, Int.toNat_natCast]
theorem times_x {x c : Int} (h0 : 0 ≤ x) (hx : x < 9223372036854775808) (c0 : 0 ≤ c) (hc : c < 9223372036854775808) {k : Nat} (hk : c.toNat = k) : go_coupletref01_Times x c = some (false, false, Bitrow.bits 130 (x.natAbs * k)) := by
  have : go_coupletref01_Times x c = some (false, false, Bitrow.bits 130 (x.toNat * c.toNat)) := if_pos ⟨h0, hx, c0, hc⟩
  rw [this, hk, show x.toNat = x.natAbs by omega]
theorem less_rt {Q P : Nat} (hQ : Q < 2 ^ 130) (hP : P < 2 ^ 130) : go_coupletref01_Less false false (Bitrow.bits 130 Q) false false (Bitrow.bits 130 P) = some (decide (Q < P)) := by
  have : go_coupletref01_Less false false (Bitrow.bits 130 Q) false false (Bitrow.bits 130 P) = some (lessV (Bitrow.bits 130 Q) (Bitrow.bits 130 P)) := if_pos ⟨Q, P, hQ, hP, rfl, rfl⟩
  rw [this, lessV_bits hQ hP]
theorem rt_big {R : Nat} (h : R ≤ 137438953472) : R * (R + 1) < 2 ^ 130 := by
  have := Nat.mul_le_mul h (show R + 1 ≤ 137438953473 by omega)
  exact Nat.lt_of_le_of_lt this (by decide)
theorem x_big {x : Int} (h : okF x) : x.natAbs * 16777216 < 2 ^ 130 := by
  have h1 : x.natAbs ≤ 1125899906842624 := by unfold okF at h; omega
  exact Nat.lt_of_le_of_lt (Nat.mul_le_mul_right _ h1) (by decide)
theorem one4_end {R P : Nat} {m : Int} (hm : 0 ≤ m ∧ m ≤ 2) (l1 : R * R ≤ P) : (bif !decide (R * R < P) then some ((R : Int), true) else bif (m == 1) then some ((R : Int), true) else bif (m == 2) then some (((R + 1 : Nat) : Int), true) else bif decide (R * (R + 1) < P) then some (((R + 1 : Nat) : Int), true) else some ((R : Int), true)) =
    some (((R + (rup m R P).toNat : Nat) : Int), true) := by
  by_cases he : R * R = P
  · have : ¬ R * R < P := by omega
    have hr : rup m R P = false := by unfold rup; simp [he]
    simp [this, hr]
  · have h1 : R * R < P := by omega
    rcases (by omega : m = 0 ∨ m = 1 ∨ m = 2) with rfl | rfl | rfl
    · have hr : rup 0 R P = decide (R * (R + 1) < P) := by unfold rup; simp [he]
      rw [hr]
      by_cases h2 : R * (R + 1) < P <;> simp [h1, h2]
    · have hr : rup 1 R P = false := by unfold rup; simp
      simp [h1, hr]
    · have hr : rup 2 R P = true := by unfold rup; simp [he]
      simp [h1, hr]
end Go.Proofs

/-
  Layer 3: what the document's functions answer (ref one, ref Do).
-/
set_option linter.unusedSimpArgs false
set_option linter.unusedVariables false
set_option maxRecDepth 100000
namespace Go.Proofs
open Go Go.Fx Go.Mdlaw Go.Rootlaw Go.Cmplaw

theorem one4_core {T : Int → Int → Option (Bool × Bool × List Int)} {L : Bool → Bool → List Int → Bool → Bool → List Int → Option Bool} {R P : Nat} {x m c : Int} {B1 B2 : List Int} (hw : IntKind.wrap .i64 ((R : Int) + 1) = ((R + 1 : Nat) : Int))
    (ht : T (R : Int) ((R + 1 : Nat) : Int) = some (false, false, B1)) (ht2 : T x c = some (false, false, B2)) (hl : L false false B1 false false B2 = some (decide (R * (R + 1) < P))) (hm : 0 ≤ m ∧ m ≤ 2) (l1 : R * R ≤ P) :
    ((some ((R : Int), !decide (R * R < P))).bind fun r13 =>
        bif r13.2 then
         some (r13.1, true)
        else
         bif (m == 1) then
          some (r13.1, true)
         else
          bif (m == 2) then
           some ((IntKind.wrap .i64 (r13.1 + 1)), true)
          else
           (T r13.1 (IntKind.wrap .i64 (r13.1 + 1))).bind fun r14 =>
           (T x c).bind fun r15 =>
           (L r14.1 r14.2.1 r14.2.2 r15.1 r15.2.1 r15.2.2).bind fun r16 =>
           bif r16 then
            some ((IntKind.wrap .i64 (r13.1 + 1)), true)
           else
            some (r13.1, true)) = some (((R + (rup m R P).toNat : Nat) : Int), true) := by
  simp only [Option.bind_some, hw, ht, ht2, hl]
  exact one4_end hm l1
theorem one4 {x y m : Int} (hm : 0 ≤ m ∧ m ≤ 2) : go_coupletref03_one 4 x y m = some (fRt x m) := by
  unfold go_coupletref03_one
  rw [show ((4 : Int) == 0) = false from rfl, show ((4 : Int) == 1) = false from rfl, show ((4 : Int) == 2) = false from rfl, show ((4 : Int) == 3) = false from rfl]
  simp only [go_right, Option.bind_some, cond_false]
  by_cases hx : okF x
  · rcases Int.lt_or_le x 0 with h0 | h0
    · rw [fRt_bad (.inr h0)]; simp [hx, h0]
    · have h0' : ¬ x < 0 := by omega
      have hb := isq_bound hx
      have hP := x_big hx
      have hQ := rt_big hb
      have ht2 : go_coupletref01_Times x 16777216 = _ := times_x h0 (by unfold okF at hx; omega) (by decide) (by decide) (k := 16777216) (by decide)
      have hR := times_rt hb
      have hW := wrapS hb
      have hl := less_rt hQ hP
      have l1 := isq_le x
      have g := go_rt hx
      rw [fRt_tells hx h0 hm]
      clear hQ hP hb
      generalize isq x = R at *
      generalize x.natAbs * 16777216 = P at *
      generalize Bitrow.bits 130 P = B2 at *
      generalize Bitrow.bits 130 (R * (R + 1)) = B1 at *
      generalize go_coupletref01_Times = T at *
      generalize go_coupletref01_Less = L at *
      generalize go_coupletref02_Root x = Q at *
      subst g
      rw [show (decide (okF x)) = true from decide_eq_true hx, show decide (x < 0) = false from decide_eq_false h0']
      rw [Bool.not_true, cond_false, cond_false]
      exact one4_core hW hR ht2 hl hm l1
  · rw [fRt_bad (.inl hx)]; simp [hx]

end Go.Proofs

/-
  Layer 3: what the document's functions answer (ref one, ref Do).
-/
set_option linter.unusedSimpArgs false
set_option linter.unusedVariables false
set_option maxRecDepth 100000
namespace Go.Proofs
open Go Go.Fx Go.Mdlaw Go.Rootlaw Go.Cmplaw

/-! the loop of Do -/
theorem least_snoc (L : List Int) (x : Int) : least (L ++ [x]) = if L = [] then x else min (least L) x := by
  cases L with
  | nil => rfl
  | cons y L => show (L ++ [x]).foldl min y = _; rw [List.foldl_append]; rfl
theorem greatest_snoc (L : List Int) (x : Int) : greatest (L ++ [x]) = if L = [] then x else max (greatest L) x := by
  cases L with
  | nil => rfl
  | cons y L => show (L ++ [x]).foldl max y = _; rw [List.foldl_append]; rfl
theorem isAll_snoc (f : Fn) (P : List (Int × Int)) (p : Int × Int) : isAll f (P ++ [p]) = (isAll f P && ((f p.1 p.2 1).2 && (f p.1 p.2 2).2)) := by
  unfold isAll; rw [List.all_append]; simp

def rowOf (p : Int × Int) : PV := .isl false true .i64 [p.1, p.2]

theorem do_step {w : Int} {b : Bool} {k : Nat} {es : List PV} {x y v lo hi : Int} {r1 r2 : Int × Bool} (hk : k < es.length) (hl : es.length < 100) (he : es.getD k .nilSl = .isl false true .i64 [x, y])
    (e1 : go_coupletref03_one w x y 1 = some r1) (e2 : go_coupletref03_one w x y 2 = some r2) :
    st_coupletref03_Do_0 w b (k : Int) 0 0 0 false 0 0 0 true false true es v lo hi false =
      some (.inl (w, b && (r1.2 && r2.2), ((k + 1 : Nat) : Int), 0, 0, 0, false, 0, 0, 0, true, false, true, es, v, (if k = 0 then r1.1 else min lo r1.1), (if k = 0 then r2.1 else max hi r2.1), false)) := by
  have h1 : (k : Int) < ((es.length : Nat) : Int) := by omega
  have h2 : (0 : Int) ≤ (k : Int) := by omega
  have h7 : IntKind.wrap .i64 ((k : Int) + 1) = ((k + 1 : Nat) : Int) := by rw [w64 (by omega) (by omega)]; rfl
  have h8 : ((k : Int) == 0) = decide (k = 0) := by
    rw [ibeq]; congr 1; apply propext; omega
  have g1 : PV.scal (.isl false true .i64 [x, y]) = true := rfl
  have g2 : Shp.ok (.isl .i64) (.isl false true .i64 [x, y]) = true := rfl
  have g3 : PV.ints (.isl false true .i64 [x, y]) = [x, y] := rfl
  have g4 : (decide ((0 : Int) < (((List.length [x, y]) : Nat) : Int))) = true := rfl
  have g5 : (decide ((1 : Int) < (((List.length [x, y]) : Nat) : Int))) = true := rfl
  have g6 : (decide (0 < (List.length [x, y]))) = true := rfl
  have g7 : (decide (1 < (List.length [x, y]))) = true := rfl
  have g8 : List.getD [x, y] 0 0 = x := rfl
  have g9 : List.getD [x, y] 1 0 = y := rfl
  unfold st_coupletref03_Do_0
  simp only [h1, h2, hk, Int.toNat_natCast, decide_true, cond_true, he, g1, g2, g3, g4, g5, g6, g7, g8, g9, e1, e2, Option.bind_some, h7, h8]
  have m1 : min lo r1.1 = if r1.1 < lo then r1.1 else lo := by split <;> omega
  have m2 : max hi r2.1 = if r2.1 > hi then r2.1 else hi := by split <;> omega
  rw [m1, m2]
  obtain ⟨v1, o1⟩ := r1
  obtain ⟨v2, o2⟩ := r2
  by_cases c0 : k = 0
  · cases b <;> cases o1 <;> simp [c0]
  · by_cases c1 : v1 < lo <;> by_cases c2 : v2 > hi <;> cases b <;> cases o1 <;> simp [c0, c1, c2]

theorem do_loop {w v : Int} {b : Bool} (f : Fn) (P : List (Int × Int)) (hP : P.length < 100)
    (e : ∀ p ∈ P, ∀ m : Int, 0 ≤ m ∧ m ≤ 2 → go_coupletref03_one w p.1 p.2 m = some (f p.1 p.2 m)) :
    lp_coupletref03_Do_0 w b 0 0 0 0 false 0 0 0 true false true (P.map rowOf) v 0 0 false = some (b && isAll f P, 0, 0, 0, false, 0, 0, 0, true, v, least (lows f P), greatest (highs f P), false) := by
  have hlen : (P.map rowOf).length = P.length := List.length_map ..
  have key := loop_fold (step := fun x : (Int × Bool × Int × Int × Int × Int × Bool × Int × Int × Int × Bool × Bool × Bool × List PV × Int × Int × Int × Bool) => st_coupletref03_Do_0 x.1 x.2.1 x.2.2.1 x.2.2.2.1 x.2.2.2.2.1 x.2.2.2.2.2.1 x.2.2.2.2.2.2.1 x.2.2.2.2.2.2.2.1 x.2.2.2.2.2.2.2.2.1 x.2.2.2.2.2.2.2.2.2.1 x.2.2.2.2.2.2.2.2.2.2.1 x.2.2.2.2.2.2.2.2.2.2.2.1 x.2.2.2.2.2.2.2.2.2.2.2.2.1 x.2.2.2.2.2.2.2.2.2.2.2.2.2.1 x.2.2.2.2.2.2.2.2.2.2.2.2.2.2.1 x.2.2.2.2.2.2.2.2.2.2.2.2.2.2.2.1 x.2.2.2.2.2.2.2.2.2.2.2.2.2.2.2.2.1 x.2.2.2.2.2.2.2.2.2.2.2.2.2.2.2.2.2)
    (fun k => (w, b && isAll f (P.take k), ((k : Nat) : Int), 0, 0, 0, false, 0, 0, 0, true, false, true, P.map rowOf, v, least (lows f (P.take k)), greatest (highs f (P.take k)), false)) (b && isAll f P, 0, 0, 0, false, 0, 0, 0, true, v, least (lows f P), greatest (highs f P), false) P.length (by omega) (fun k hk => ?_) ?_
  · have h0 : ((w, b && isAll f (P.take 0), (((0 : Nat) : Nat) : Int), 0, 0, 0, false, 0, 0, 0, true, false, true, P.map rowOf, v, least (lows f (P.take 0)), greatest (highs f (P.take 0)), false) : (Int × Bool × Int × Int × Int × Int × Bool × Int × Int × Int × Bool × Bool × Bool × List PV × Int × Int × Int × Bool)) = (w, b, 0, 0, 0, 0, false, 0, 0, 0, true, false, true, P.map rowOf, v, 0, 0, false) := by
      rw [List.take_zero]
      have : isAll f [] = true := rfl
      rw [this, Bool.and_true]
      rfl
    rw [h0] at key
    exact key
  · have hg : (P.map rowOf).getD k .nilSl = .isl false true .i64 [(P[k]).1, (P[k]).2] := by
      rw [List.getD_eq_getElem?_getD, List.getElem?_map, List.getElem?_eq_getElem hk]; rfl
    have hp : P[k] ∈ P := List.getElem_mem hk
    have key := do_step (w := w) (b := b && isAll f (P.take k)) (k := k) (es := P.map rowOf) (v := v) (lo := least (lows f (P.take k))) (hi := greatest (highs f (P.take k))) (by omega) (by omega) hg (e _ hp 1 (by decide)) (e _ hp 2 (by decide))
    refine key.trans ?_
    have ht : P.take (k + 1) = P.take k ++ [P[k]] := by rw [List.take_add_one, List.getElem?_eq_getElem hk]; rfl
    have hn : (P.take k = []) ↔ k = 0 := by
      constructor
      · intro h; have := congrArg List.length h; rw [List.length_take, List.length_nil] at this; omega
      · rintro rfl; rfl
    have a1 : lows f (P.take (k + 1)) = lows f (P.take k) ++ [(f P[k].1 P[k].2 1).1] := by unfold lows; rw [ht, List.map_append]; rfl
    have a2 : highs f (P.take (k + 1)) = highs f (P.take k) ++ [(f P[k].1 P[k].2 2).1] := by unfold highs; rw [ht, List.map_append]; rfl
    have n1 : (lows f (P.take k) = []) ↔ k = 0 := by unfold lows; rw [List.map_eq_nil_iff]; exact hn
    have n2 : (highs f (P.take k) = []) ↔ k = 0 := by unfold highs; rw [List.map_eq_nil_iff]; exact hn
    rw [a1, a2, least_snoc, greatest_snoc, ht, isAll_snoc, Bool.and_assoc]
    simp only [n1, n2]
  · have h : ¬ (((P.length : Nat) : Int) < (((P.map rowOf).length : Nat) : Int)) := by omega
    rw [List.take_length]
    unfold st_coupletref03_Do_0
    simp only [h, decide_false, cond_false]

theorem do_end {w v : Int} {b : Bool} (f : Fn) (P : List (Int × Int)) (hP : P.length < 100)
    (e : ∀ p ∈ P, ∀ m : Int, 0 ≤ m ∧ m ≤ 2 → go_coupletref03_one w p.1 p.2 m = some (f p.1 p.2 m)) :
    ((lp_coupletref03_Do_0 w b 0 0 0 0 false 0 0 0 true false true (P.map rowOf) v 0 0 false).bind fun y =>
       bif (!y.1) then some (y.2.2.2.2.2.1, y.2.2.2.2.2.2.1, y.2.2.2.2.2.2.2.1, y.2.2.2.2.2.2.2.2.1)
       else some (y.2.2.2.2.2.2.2.2.2.1, y.2.2.2.2.2.2.2.2.2.2.1, y.2.2.2.2.2.2.2.2.2.2.2.1, y.2.2.2.2.2.2.2.2.2.2.2.2)) =
    some (if (b && isAll f P) = true then (v, least (lows f P), greatest (highs f P), false) else (0, 0, 0, true)) := by
  rw [do_loop f P hP e]
  cases (b && isAll f P) <;> rfl

def four (x : Nm) : Int × Int × Int × Bool := (x.v, x.lo, x.hi, x.bad)
theorem made_four (f : Fn) (a b : Nm) (P : List (Int × Int)) (ha : fine a = true) (hb : fine b = true) :
    (if ((f a.v b.v 0).2 && isAll f P) = true then ((f a.v b.v 0).1, least (lows f P), greatest (highs f P), false) else (0, 0, 0, true)) = four (made f a b P) := by
  unfold made
  rw [ha, hb, Bool.and_true, Bool.and_true]
  split <;> rfl
theorem made_wrong (f : Fn) (a b : Nm) (P : List (Int × Int)) (h : fine a = false ∨ fine b = false) : made f a b P = wrong := by
  unfold made
  rcases h with h | h <;> rw [h] <;> simp

theorem go_Do0 (a b : Nm) : go_coupletref03_Do 0 a.v a.lo a.hi a.bad b.v b.lo b.hi b.bad = some (four (nAdd a b)) := by
  unfold go_coupletref03_Do
  rw [go_fine a, go_fine b]
  simp only [Option.bind_some]
  cases ha : fine a
  · rw [nAdd, made_wrong _ _ _ _ (.inl ha)]; rfl
  cases hb : fine b
  · rw [nAdd, made_wrong _ _ _ _ (.inr hb)]; rfl
  rw [show ((0 : Int) == 3) = false from rfl, show ((0 : Int) == 0) = true from rfl, show ((0 : Int) == 1) = false from rfl]
  simp only [Bool.not_true, cond_false, cond_true, one0, Option.bind_some]
  rw [nAdd, ← made_four _ a b _ ha hb]
  exact do_end (fun x y _ => fAdd x y) [(a.lo, b.lo), (a.hi, b.hi)] (by simp) (fun p _ m _ => one0 _ _ _)
theorem go_Do1 (a b : Nm) : go_coupletref03_Do 1 a.v a.lo a.hi a.bad b.v b.lo b.hi b.bad = some (four (nSub a b)) := by
  unfold go_coupletref03_Do
  rw [go_fine a, go_fine b]
  simp only [Option.bind_some]
  cases ha : fine a
  · rw [nSub, made_wrong _ _ _ _ (.inl ha)]; rfl
  cases hb : fine b
  · rw [nSub, made_wrong _ _ _ _ (.inr hb)]; rfl
  rw [show ((1 : Int) == 3) = false from rfl, show ((1 : Int) == 0) = false from rfl, show ((1 : Int) == 4) = false from rfl, show ((1 : Int) == 1) = true from rfl]
  simp only [Bool.not_true, cond_false, cond_true, one1, Option.bind_some]
  rw [nSub, ← made_four _ a b _ ha hb]
  exact do_end (fun x y _ => fSub x y) [(a.lo, b.hi), (a.hi, b.lo)] (by simp) (fun p _ m _ => one1 _ _ _)
theorem go_Do2 (a b : Nm) : go_coupletref03_Do 2 a.v a.lo a.hi a.bad b.v b.lo b.hi b.bad = some (four (nMul a b)) := by
  unfold go_coupletref03_Do
  rw [go_fine a, go_fine b]
  simp only [Option.bind_some]
  cases ha : fine a
  · rw [nMul, made_wrong _ _ _ _ (.inl ha)]; rfl
  cases hb : fine b
  · rw [nMul, made_wrong _ _ _ _ (.inr hb)]; rfl
  rw [show ((2 : Int) == 3) = false from rfl, show ((2 : Int) == 0) = false from rfl, show ((2 : Int) == 4) = false from rfl, show ((2 : Int) == 1) = false from rfl]
  simp only [Bool.not_true, cond_false, cond_true, one2, Option.bind_some]
  rw [nMul, ← made_four _ a b _ ha hb]
  exact do_end fMul (pairs4 a b) (by simp [pairs4]) (fun p _ m _ => one2 _ _ _)
theorem go_Do3 (a b : Nm) : go_coupletref03_Do 3 a.v a.lo a.hi a.bad b.v b.lo b.hi b.bad = some (four (nDiv a b)) := by
  unfold go_coupletref03_Do
  rw [go_fine a, go_fine b]
  simp only [Option.bind_some]
  unfold nDiv
  cases ha : fine a
  · rw [made_wrong _ _ _ _ (.inl ha)]; split <;> rfl
  cases hb : fine b
  · rw [made_wrong _ _ _ _ (.inr hb)]; split <;> rfl
  rw [show ((3 : Int) == 3) = true from rfl, show ((3 : Int) == 0) = false from rfl, show ((3 : Int) == 4) = false from rfl, show ((3 : Int) == 1) = false from rfl]
  simp only [Bool.not_true, cond_false, cond_true, one3, Option.bind_some]
  have key := do_end (w := 3) (v := (fDiv a.v b.v 0).1) (b := (fDiv a.v b.v 0).2) fDiv (pairs4 a b) (by simp [pairs4]) (fun p _ m _ => one3 _ _ _)
  rw [made_four _ a b _ ha hb] at key
  by_cases h1 : b.lo ≤ 0
  · by_cases h2 : b.hi ≥ 0
    · rw [if_pos ⟨h1, h2⟩]; simp only [h1, h2, decide_true, cond_true]; rfl
    · rw [if_neg (fun h => h2 h.2)]; simp only [h1, h2, decide_true, decide_false, cond_true, cond_false]; exact key
  · rw [if_neg (fun h => h1 h.1)]; simp only [h1, decide_false, cond_false]; exact key
theorem go_Do4 (a : Nm) : go_coupletref03_Do 4 a.v a.lo a.hi a.bad a.v a.lo a.hi a.bad = some (four (nRoot a)) := by
  unfold go_coupletref03_Do
  rw [go_fine a]
  simp only [Option.bind_some]
  cases ha : fine a
  · rw [nRoot, made_wrong _ _ _ _ (.inl ha)]; rfl
  rw [show ((4 : Int) == 3) = false from rfl, show ((4 : Int) == 0) = false from rfl, show ((4 : Int) == 4) = true from rfl, show ((4 : Int) == 1) = false from rfl]
  simp only [Bool.not_true, cond_false, cond_true, one4 (m := 0) (by decide), Option.bind_some]
  rw [nRoot, ← made_four _ a a _ ha ha]
  exact do_end (fun x _ m => fRt x m) [(a.lo, a.lo), (a.hi, a.hi)] (by simp) (fun p _ m hm => one4 hm)
end Go.Proofs

/-
  Layer 3: the laws of EnvTells and EnvDoes.
-/
set_option linter.unusedSimpArgs false
set_option linter.unusedVariables false
set_option maxRecDepth 100000
namespace Go.Proofs
open Go Go.Fx Go.Mdlaw Go.Rootlaw Go.Cmplaw

theorem wf64' {n : Int} (h : (Lit.int .i64 n).wf = true) : i64 n := by
  simp only [Lit.wf, Bool.and_eq_true, decide_eq_true_eq] at h
  exact ⟨h.1, h.2⟩

theorem four_eq (a b : Nm) (h : a = b) : ((a.v == b.v) && ((a.lo == b.lo) && ((a.hi == b.hi) && ((a.bad == b.bad) && true)))) = true := by
  subst h; simp

theorem go_Given (a : Nm) : go_coupletlaw03_Given a.v a.lo a.hi a.bad = some (four a) := rfl
theorem gi_Add (a b : Nm) (ha : i64N a) (hb : i64N b) : go_env_Num_Add a.v a.lo a.hi a.bad b.v b.lo b.hi b.bad = some (four (nAdd a b)) := if_pos ⟨ha, hb⟩
theorem gi_Sub (a b : Nm) (ha : i64N a) (hb : i64N b) : go_env_Num_Sub a.v a.lo a.hi a.bad b.v b.lo b.hi b.bad = some (four (nSub a b)) := if_pos ⟨ha, hb⟩
theorem gi_Mul (a b : Nm) (ha : i64N a) (hb : i64N b) : go_env_Num_Mul a.v a.lo a.hi a.bad b.v b.lo b.hi b.bad = some (four (nMul a b)) := if_pos ⟨ha, hb⟩
theorem gi_Div (a b : Nm) (ha : i64N a) (hb : i64N b) : go_env_Num_Div a.v a.lo a.hi a.bad b.v b.lo b.hi b.bad = some (four (nDiv a b)) := if_pos ⟨ha, hb⟩
theorem gi_Root (a : Nm) (ha : i64N a) : go_env_Num_Root a.v a.lo a.hi a.bad = some (four (nRoot a)) := if_pos ha
theorem gi_Neg (a : Nm) (ha : i64N a) : go_env_Num_Neg a.v a.lo a.hi a.bad = some (four (nSub (point 0) a)) := if_pos ha
theorem gi_Of (a : Nm) {n : Int} (hn : i64 n) : go_env_Num_Of a.v a.lo a.hi a.bad n = some (four (nOf n)) := if_pos hn

/-- One round of EnvDoes: what is told at place k is the document's. -/
theorem does_step {x0 x1 x2 x3 x4 a b : Nm} {k : Nat} (hk : k < 5) {r s : Nm}
    (h0 : go_coupletref03_Do 0 a.v a.lo a.hi a.bad b.v b.lo b.hi b.bad = some (four x0)) (h1 : go_coupletref03_Do 1 a.v a.lo a.hi a.bad b.v b.lo b.hi b.bad = some (four x1)) (h2 : go_coupletref03_Do 2 a.v a.lo a.hi a.bad b.v b.lo b.hi b.bad = some (four x2))
    (h3 : go_coupletref03_Do 3 a.v a.lo a.hi a.bad b.v b.lo b.hi b.bad = some (four x3)) (h4 : go_coupletref03_Do 4 a.v a.lo a.hi a.bad a.v a.lo a.hi a.bad = some (four x4)) :
    st_coupletlaw03_EnvDoes_0 x0.v x0.lo x0.hi x0.bad x1.v x1.lo x1.hi x1.bad x2.v x2.lo x2.hi x2.bad x3.v x3.lo x3.hi x3.bad x4.v x4.lo x4.hi x4.bad (k : Int) a.v a.lo a.hi a.bad b.v b.lo b.hi b.bad =
      some (.inl (x0.v, x0.lo, x0.hi, x0.bad, x1.v, x1.lo, x1.hi, x1.bad, x2.v, x2.lo, x2.hi, x2.bad, x3.v, x3.lo, x3.hi, x3.bad, x4.v, x4.lo, x4.hi, x4.bad, ((k + 1 : Nat) : Int), a.v, a.lo, a.hi, a.bad, b.v, b.lo, b.hi, b.bad)) := by
  have b1 : (!((x0.v == x0.v) && ((x0.lo == x0.lo) && ((x0.hi == x0.hi) && ((x0.bad == x0.bad) && true))))) = false := by rw [four_eq _ _ rfl]; rfl
  have b2 : (!((x1.v == x1.v) && ((x1.lo == x1.lo) && ((x1.hi == x1.hi) && ((x1.bad == x1.bad) && true))))) = false := by rw [four_eq _ _ rfl]; rfl
  have b3 : (!((x2.v == x2.v) && ((x2.lo == x2.lo) && ((x2.hi == x2.hi) && ((x2.bad == x2.bad) && true))))) = false := by rw [four_eq _ _ rfl]; rfl
  have b4 : (!((x3.v == x3.v) && ((x3.lo == x3.lo) && ((x3.hi == x3.hi) && ((x3.bad == x3.bad) && true))))) = false := by rw [four_eq _ _ rfl]; rfl
  have b5 : (!((x4.v == x4.v) && ((x4.lo == x4.lo) && ((x4.hi == x4.hi) && ((x4.bad == x4.bad) && true))))) = false := by rw [four_eq _ _ rfl]; rfl
  have hg : ∀ v lo hi bad, go_coupletlaw03_Given v lo hi bad = some (v, lo, hi, bad) := fun _ _ _ _ => rfl
  unfold st_coupletlaw03_EnvDoes_0
  simp only [four] at h0 h1 h2 h3 h4
  generalize go_coupletref03_Do = D at *
  generalize go_coupletlaw03_Given = G at *
  rcases (by omega : k = 0 ∨ k = 1 ∨ k = 2 ∨ k = 3 ∨ k = 4) with rfl | rfl | rfl | rfl | rfl
  · have w : IntKind.wrap .i64 ((0 : Int) + 1) = ((0 + 1 : Nat) : Int) := by rw [w64 (by decide) (by decide)]; rfl
    simp only [show ((0 : Nat) : Int) = 0 from rfl, show decide ((0 : Int) < 5) = true from rfl, show decide ((0 : Int) ≤ 0) = true from rfl, show decide ((0 : Int) < ((5 : Nat) : Int)) = true from rfl, show Int.toNat 0 = 0 from rfl, show ((0 : Nat) == 0) = true from rfl, show ((0 : Int) == 4) = false from rfl, cond_true, cond_false, hg, Option.bind_some, h0, b1, w]
  · have w : IntKind.wrap .i64 ((1 : Int) + 1) = ((1 + 1 : Nat) : Int) := by rw [w64 (by decide) (by decide)]; rfl
    simp only [show ((1 : Nat) : Int) = 1 from rfl, show decide ((1 : Int) < 5) = true from rfl, show decide ((0 : Int) ≤ 1) = true from rfl, show decide ((1 : Int) < ((5 : Nat) : Int)) = true from rfl, show Int.toNat 1 = 1 from rfl, show ((1 : Nat) == 0) = false from rfl, show ((1 : Nat) == 1) = true from rfl, show ((1 : Int) == 4) = false from rfl, cond_true, cond_false, hg, Option.bind_some, h1, b2, w]
  · have w : IntKind.wrap .i64 ((2 : Int) + 1) = ((2 + 1 : Nat) : Int) := by rw [w64 (by decide) (by decide)]; rfl
    simp only [show ((2 : Nat) : Int) = 2 from rfl, show decide ((2 : Int) < 5) = true from rfl, show decide ((0 : Int) ≤ 2) = true from rfl, show decide ((2 : Int) < ((5 : Nat) : Int)) = true from rfl, show Int.toNat 2 = 2 from rfl, show ((2 : Nat) == 0) = false from rfl, show ((2 : Nat) == 1) = false from rfl, show ((2 : Nat) == 2) = true from rfl, show ((2 : Int) == 4) = false from rfl, cond_true, cond_false, hg, Option.bind_some, h2, b3, w]
  · have w : IntKind.wrap .i64 ((3 : Int) + 1) = ((3 + 1 : Nat) : Int) := by rw [w64 (by decide) (by decide)]; rfl
    simp only [show ((3 : Nat) : Int) = 3 from rfl, show decide ((3 : Int) < 5) = true from rfl, show decide ((0 : Int) ≤ 3) = true from rfl, show decide ((3 : Int) < ((5 : Nat) : Int)) = true from rfl, show Int.toNat 3 = 3 from rfl, show ((3 : Nat) == 0) = false from rfl, show ((3 : Nat) == 1) = false from rfl, show ((3 : Nat) == 2) = false from rfl, show ((3 : Nat) == 3) = true from rfl, show ((3 : Int) == 4) = false from rfl, cond_true, cond_false, hg, Option.bind_some, h3, b4, w]
  · have w : IntKind.wrap .i64 ((4 : Int) + 1) = ((4 + 1 : Nat) : Int) := by rw [w64 (by decide) (by decide)]; rfl
    simp only [show ((4 : Nat) : Int) = 4 from rfl, show decide ((4 : Int) < 5) = true from rfl, show decide ((0 : Int) ≤ 4) = true from rfl, show decide ((4 : Int) < ((5 : Nat) : Int)) = true from rfl, show Int.toNat 4 = 4 from rfl, show ((4 : Nat) == 0) = false from rfl, show ((4 : Nat) == 1) = false from rfl, show ((4 : Nat) == 2) = false from rfl, show ((4 : Nat) == 3) = false from rfl, show ((4 : Nat) == 4) = true from rfl, show ((4 : Int) == 4) = true from rfl, cond_true, cond_false, hg, Option.bind_some, h4, b5, w]

theorem law_EnvDoes {n0 n1 n2 : Int} {b3 : Bool} {n4 n5 n6 : Int} {b7 : Bool} (w0 : (Lit.int .i64 n0).wf = true) (w1 : (Lit.int .i64 n1).wf = true) (w2 : (Lit.int .i64 n2).wf = true) (w4 : (Lit.int .i64 n4).wf = true) (w5 : (Lit.int .i64 n5).wf = true) (w6 : (Lit.int .i64 n6).wf = true) :
    go_coupletlaw03_EnvDoes n0 n1 n2 b3 n4 n5 n6 b7 = some true := by
  have ha : i64N ⟨n0, n1, n2, b3⟩ := ⟨wf64' w0, wf64' w1, wf64' w2⟩
  have hb : i64N ⟨n4, n5, n6, b7⟩ := ⟨wf64' w4, wf64' w5, wf64' w6⟩
  obtain ⟨a, ea⟩ : ∃ a : Nm, a = ⟨n0, n1, n2, b3⟩ := ⟨_, rfl⟩
  obtain ⟨b, eb⟩ : ∃ b : Nm, b = ⟨n4, n5, n6, b7⟩ := ⟨_, rfl⟩
  rw [← ea] at ha
  rw [← eb] at hb
  obtain rfl : a.v = n0 := by rw [ea]
  obtain rfl : a.lo = n1 := by rw [ea]
  obtain rfl : a.hi = n2 := by rw [ea]
  obtain rfl : a.bad = b3 := by rw [ea]
  obtain rfl : b.v = n4 := by rw [eb]
  obtain rfl : b.lo = n5 := by rw [eb]
  obtain rfl : b.hi = n6 := by rw [eb]
  obtain rfl : b.bad = b7 := by rw [eb]
  clear ea eb w0 w1 w2 w4 w5 w6
  have aw : go_coupletlaw03_awake = some true := rfl
  have f1 : go_env_Num_Fine a.v a.lo a.hi a.bad = some (fine a) := rfl
  unfold go_coupletlaw03_EnvDoes
  rw [gi_Add a b ha hb, gi_Sub a b ha hb, gi_Mul a b ha hb, gi_Div a b ha hb, gi_Root a ha]
  simp only [Option.bind_some]
  have key : ∀ x0 x1 x2 x3 x4 : Nm, go_coupletref03_Do 0 a.v a.lo a.hi a.bad b.v b.lo b.hi b.bad = some (four x0) → go_coupletref03_Do 1 a.v a.lo a.hi a.bad b.v b.lo b.hi b.bad = some (four x1) → go_coupletref03_Do 2 a.v a.lo a.hi a.bad b.v b.lo b.hi b.bad = some (four x2) →
      go_coupletref03_Do 3 a.v a.lo a.hi a.bad b.v b.lo b.hi b.bad = some (four x3) → go_coupletref03_Do 4 a.v a.lo a.hi a.bad a.v a.lo a.hi a.bad = some (four x4) →
      lp_coupletlaw03_EnvDoes_0 x0.v x0.lo x0.hi x0.bad x1.v x1.lo x1.hi x1.bad x2.v x2.lo x2.hi x2.bad x3.v x3.lo x3.hi x3.bad x4.v x4.lo x4.hi x4.bad 0 a.v a.lo a.hi a.bad b.v b.lo b.hi b.bad = some (.inl (four a)) := fun x0 x1 x2 x3 x4 h0 h1 h2 h3 h4 => by
    unfold lp_coupletlaw03_EnvDoes_0
    refine loopN_of 6 (by decide) ?_
    have s : ∀ k : Nat, k < 5 → _ := fun k hk => does_step (x0 := x0) (x1 := x1) (x2 := x2) (x3 := x3) (x4 := x4) (a := a) (b := b) (k := k) hk (r := a) (s := a) h0 h1 h2 h3 h4
    have s0 := s 0 (by decide)
    have s1 := s 1 (by decide)
    have s2 := s 2 (by decide)
    have s3 := s 3 (by decide)
    have s4 := s 4 (by decide)
    rw [show (((0 : Nat) : Int)) = 0 from rfl] at s0
    simp only [iterN, s0, s1, s2, s3, s4]
    rfl
  have kk := key _ _ _ _ _ (go_Do0 a b) (go_Do1 a b) (go_Do2 a b) (go_Do3 a b) (go_Do4 a)
  simp only [four] at kk ⊢
  rw [kk]
  simp only [Option.bind_some, Sum.elim_inl, f1, go_Given, four, go_fine, aw, beq_self_eq_true, cond_true]


/-! EnvTells -/
theorem nOf_in {n : Int} (h : -67108864 ≤ n ∧ n ≤ 67108864) : nOf n = point (n * 16777216) := by
  have hu : okF (n * 16777216) := by unfold okF; omega
  have e : md n 16777216 1 0 = (n * 16777216, true) := md_exact ⟨by unfold okW; omega, by decide, by decide, by decide, by decide, by decide⟩ (by unfold okF at hu; unfold okW; omega) (by omega)
  have e2 : fOf n = (n * 16777216, true) := by
    unfold fOf td
    rw [e, if_pos ⟨rfl, by intro x hx; simp at hx; rw [hx]; exact hu⟩]
  unfold nOf
  rw [e2, if_pos rfl]
theorem nOf_out {n : Int} (h : ¬ (-67108864 ≤ n ∧ n ≤ 67108864)) : nOf n = wrong := by
  unfold nOf
  rw [if_neg]
  intro h2
  unfold fOf at h2
  have e := td_some h2
  have o := td_okF h2 _ (List.mem_cons_self ..)
  have near := md_near (a := n) (b := 16777216) (c := 1) (m := 0) (by decide) e.2
  generalize (md n 16777216 1 0).1 = r at *
  unfold okF at o
  omega

theorem tells5 (n : Int) (a p : Nm) : lp_coupletlaw03_EnvTells_5 n a.v a.lo a.hi a.bad p.v p.lo p.hi p.bad = some (n, decide (okF n), a.v, a.lo, a.hi, a.bad, p.v, p.lo, p.hi, p.bad) := by
  unfold lp_coupletlaw03_EnvTells_5 st_coupletlaw03_EnvTells_5
  by_cases h1 : n ≥ -1125899906842624
  · by_cases h2 : n ≤ 1125899906842624
    · simp [h1, h2, okF]
    · simp [h1, h2, okF]
  · have : ¬ (-1125899906842624 ≤ n) := h1
    simp [h1, this, okF]
theorem tells1 (n : Int) (a p : Nm) : lp_coupletlaw03_EnvTells_1 n a.v a.lo a.hi a.bad p.v p.lo p.hi p.bad = some (n, decide (-67108864 ≤ n ∧ n ≤ 67108864), a.v, a.lo, a.hi, a.bad, p.v, p.lo, p.hi, p.bad) := by
  unfold lp_coupletlaw03_EnvTells_1 st_coupletlaw03_EnvTells_1
  by_cases h1 : n ≥ -67108864
  · by_cases h2 : n ≤ 67108864
    · simp [h1, h2]
    · simp [h1, h2]
  · have : ¬ (-67108864 ≤ n) := h1
    simp [h1, this]
theorem tells0 (n : Int) (a : Nm) : lp_coupletlaw03_EnvTells_0 n (decide (okF n)) a.v a.lo a.hi a.bad (point n).v (point n).lo (point n).hi (point n).bad = some (n, false, a.v, a.lo, a.hi, a.bad) := by
  have hw : go_env_Wrong = some (0, 0, 0, true) := rfl
  unfold lp_coupletlaw03_EnvTells_0 st_coupletlaw03_EnvTells_0
  by_cases h : okF n
  · have e : point n = ⟨n, n, n, false⟩ := if_pos h
    rw [e]
    simp [h]
  · have e : point n = ⟨0, 0, 0, true⟩ := if_neg h
    rw [e, hw]
    simp [h]
theorem tells4 {n : Int} (a : Nm) : lp_coupletlaw03_EnvTells_4 n a.v a.lo a.hi a.bad (nOf n).v (nOf n).lo (nOf n).hi (nOf n).bad = some (.inl (four a)) := by
  unfold lp_coupletlaw03_EnvTells_4 st_coupletlaw03_EnvTells_4
  rw [tells1]
  simp only [Option.bind_some]
  by_cases h : -67108864 ≤ n ∧ n ≤ 67108864
  · have hw : IntKind.wrap .i64 (n * 16777216) = n * 16777216 := w64 (by omega) (by omega)
    have hp : ∀ k : Int, go_env_Point k = some (four (point k)) := fun _ => rfl
    rw [decide_eq_true h, hw, hp, nOf_in h]
    simp [four]
  · have hw : go_env_Wrong = some (four wrong) := rfl
    rw [decide_eq_false h, hw, nOf_out h]
    simp [four]
def sgn3 (a : Nm) : Int := bif (!a.bad) then (bif decide (a.v < 0) then -1 else 0) else 0
def sgn2 (a : Nm) : Int := bif (!a.bad) then (bif decide (a.v > 0) then 1 else sgn3 a) else sgn3 a
theorem tells3 (a : Nm) : lp_coupletlaw03_EnvTells_3 0 a.v a.lo a.hi a.bad = some (sgn3 a, a.v, a.lo, a.hi, a.bad) := by
  unfold lp_coupletlaw03_EnvTells_3 st_coupletlaw03_EnvTells_3 sgn3
  cases a.bad <;> cases decide (a.v < 0) <;> rfl
theorem tells2 (a : Nm) : lp_coupletlaw03_EnvTells_2 (sgn3 a) a.v a.lo a.hi a.bad = some (sgn2 a, a.v, a.lo, a.hi, a.bad) := by
  unfold lp_coupletlaw03_EnvTells_2 st_coupletlaw03_EnvTells_2 sgn2
  cases a.bad <;> cases decide (a.v > 0) <;> rfl
theorem sgn2_eq (a : Nm) : sgn2 a = nSign a := by
  unfold sgn2 sgn3 nSign
  cases hb : a.bad
  · rcases (by omega : a.v < 0 ∨ a.v = 0 ∨ a.v > 0) with h | h | h
    · have h1 : ¬ a.v > 0 := by omega
      have h2 : ¬ a.v = 0 := by omega
      simp [h, h1, h2]
    · simp [h]
    · have h1 : ¬ a.v < 0 := by omega
      have h2 : ¬ a.v = 0 := by omega
      simp [h, h1, h2]
  · simp

theorem law_EnvTells {n0 n1 n2 : Int} {b3 : Bool} {n4 : Int} (w0 : (Lit.int .i64 n0).wf = true) (w1 : (Lit.int .i64 n1).wf = true) (w2 : (Lit.int .i64 n2).wf = true) (w4 : (Lit.int .i64 n4).wf = true) :
    go_coupletlaw03_EnvTells n0 n1 n2 b3 n4 = some true := by
  have ha : i64N ⟨n0, n1, n2, b3⟩ := ⟨wf64' w0, wf64' w1, wf64' w2⟩
  have hn : i64 n4 := wf64' w4
  obtain ⟨a, ea⟩ : ∃ a : Nm, a = ⟨n0, n1, n2, b3⟩ := ⟨_, rfl⟩
  rw [← ea] at ha
  obtain rfl : a.v = n0 := by rw [ea]
  obtain rfl : a.lo = n1 := by rw [ea]
  obtain rfl : a.hi = n2 := by rw [ea]
  obtain rfl : a.bad = b3 := by rw [ea]
  clear ea w0 w1 w2 w4
  have aw : go_coupletlaw03_awake = some true := rfl
  have gs : go_env_Num_Sign a.v a.lo a.hi a.bad = some (nSign a) := rfl
  have gp : go_env_Point n4 = some (four (point n4)) := rfl
  have hg : ∀ v lo hi bad, go_coupletlaw03_Given v lo hi bad = some (v, lo, hi, bad) := fun _ _ _ _ => rfl
  have hd : go_coupletref03_Do 1 0 0 0 false a.v a.lo a.hi a.bad = some (four (nSub (point 0) a)) := by
    have := go_Do1 (pt 0) a
    rw [point_pt (by decide)]
    exact this
  have t5 := tells5 n4 a (point n4)
  have t0 := tells0 n4 a
  have t4 := tells4 (n := n4) a
  have t3 := tells3 a
  have t2 := tells2 a
  have e1 := gi_Of a hn
  have e2 := gi_Neg a ha
  unfold go_coupletlaw03_EnvTells
  simp only [four] at *
  rw [sgn2_eq] at t2
  generalize go_coupletref03_Do = D at *
  generalize go_coupletlaw03_Given = G at *
  generalize go_env_Num_Sign = S at *
  simp only [gp, Option.bind_some, t5, t0, cond_false, e1, t4, Sum.elim_inl, t3, t2, gs, beq_self_eq_true, cond_true, e2, hg, hd, Bool.and_true, Bool.and_self, aw]
end Go.Proofs

