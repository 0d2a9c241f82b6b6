/-
  FlightBlank and FlightLong.
-/
import Derived.Test.YtlfffpkfipdboaaDoorWLP7
import Derived.Test.YtlfffpkfipdboaaDoorWGFp
import Derived.Test.YtlfffpkfipdboaaDoorWGF1
import Derived.Test.YtlfffpkfipdboaaDoorWSFs
import Derived.Test.YtlfffpkfipdboaaDoorWSFm
import Derived.Test.YtlfffpkfipdboaaDoorWLFn
import Derived.Test.YtlfffpkfipdboaaDoorWLP2
import Derived.Test.YtlfffpkfipdboaaDoorFxRng
import Derived.Test.YtlfffpkfipdboaaDoorChecked
set_option linter.unusedVariables false
set_option linter.unusedSimpArgs false
noncomputable section
namespace Go.Proofs
open Go Go.Fx
abbrev DX := List Int × Bool × Bool × List Int × Int × Int × Int
def doX (d : DX) : PV := .agg [.str d.1, .isl d.2.1 d.2.2.1 .u8 d.2.2.2.1, .int .i64 d.2.2.2.2.1, .int .i64 d.2.2.2.2.2.1, .int .i64 d.2.2.2.2.2.2]
def in64 (n : Int) : Prop := -9223372036854775808 ≤ n ∧ n ≤ 9223372036854775807
structure FitX (d : DX) : Prop where
  v : d.1.length ≤ 1000
  vB : isB d.1
  bB : isB d.2.2.2.1
  b : d.2.2.2.1.length ≤ 1000
  x : in64 d.2.2.2.2.1
  y : in64 d.2.2.2.2.2.1
  z : in64 d.2.2.2.2.2.2
def rightI (v b : List Int) (x y z : Int) : Bool :=
  bif v == feedK then (x == 0 && (y == 0 && z == 0)) && (decide ((b.length : Int) > 0) && decide ((b.length : Int) ≤ 600))
  else bif v == faultK then !decide ((b.length : Int) > 0) && (fewI x && (fewI y && fewI z))
  else bif v == resetK then (x == 0 && (y == 0 && z == 0)) && !decide ((b.length : Int) > 0)
  else false
def rightX (d : DX) : Bool := rightI d.1 d.2.2.2.1 d.2.2.2.2.1 d.2.2.2.2.2.1 d.2.2.2.2.2.2
theorem beq_pos (n : Nat) : ((n : Int) == 0) = !decide ((n : Int) > 0) := by
  by_cases h : (n : Int) > 0
  · rw [dt h, beq_eq_false_iff_ne.2 (by omega)]; rfl
  · rw [df h, beq_iff_eq.2 (by omega)]; rfl
theorem ge_pos (n : Nat) : decide ((n : Int) ≥ 1) = decide ((n : Int) > 0) := by
  by_cases h : (n : Int) > 0
  · rw [dt h, dt (by omega)]
  · rw [df h, df (by omega)]
theorem right_law {v b : List Int} {x y z : Int} (hx : in64 x) (hy : in64 y) (hz : in64 z) (nl ex : Bool) : go_flight_Right v nl ex b x y z = some (rightI v b x y z) := by
  unfold go_flight_Right rightI
  simp only [small_law hx, small_law hy, small_law hz, beq_pos, ge_pos, Option.bind_some]
  change (bif x == 0 then bif y == 0 then bif v == feedK then _ else bif v == faultK then _ else bif v == resetK then _ else _ else bif v == feedK then _ else bif v == faultK then _ else bif v == resetK then _ else _ else bif v == feedK then _ else bif v == faultK then _ else bif v == resetK then _ else _) = _
  cases x == 0 <;> cases y == 0 <;> cases v == feedK <;> cases v == faultK <;> cases v == resetK <;> cases z == 0 <;> cases decide ((b.length : Int) > 0) <;> cases decide ((b.length : Int) ≤ 600) <;> cases fewI x <;> cases fewI y <;> rfl
theorem few_law (n : Int) : go_coupletref20_few n = some (fewI n) := by
  unfold go_coupletref20_few fewI
  by_cases h : -9999999999999999 ≤ n
  · rw [dt (show n > -10000000000000000 by omega), cond_true]
    by_cases h2 : n ≤ 9999999999999999
    · rw [dt (show n < 10000000000000000 by omega), dt ⟨h, h2⟩]
    · rw [df (show ¬ n < 10000000000000000 by omega), df (show ¬ (-9999999999999999 ≤ n ∧ n ≤ 9999999999999999) by omega)]
  · rw [df (show ¬ n > -10000000000000000 by omega), df (show ¬ (-9999999999999999 ≤ n ∧ n ≤ 9999999999999999) by omega)]; rfl
theorem ref_right_law {v b : List Int} {x y z : Int} (nl ex : Bool) : go_coupletref20_Right v nl ex b x y z = some (rightI v b x y z) := by
  unfold go_coupletref20_Right rightI
  simp only [few_law, Option.bind_some]
  change (bif x == 0 then bif y == 0 then bif v == feedK then _ else bif _ then _ else bif v == resetK then bif _ then _ else bif v == faultK then _ else _ else bif v == faultK then _ else _ else bif v == feedK then _ else bif _ then _ else bif v == resetK then bif v == faultK then _ else _ else bif v == faultK then _ else _ else bif v == feedK then _ else bif _ then _ else bif v == resetK then bif v == faultK then _ else _ else bif v == faultK then _ else _) = _
  have hno : ((v == resetK) && (v == faultK)) = false := by
    cases h1 : v == resetK with
    | false => rfl
    | true => rw [eq_of_beq h1]; rfl
  revert hno
  cases x == 0 <;> cases y == 0 <;> cases v == feedK <;> cases v == faultK <;> cases v == resetK <;> cases z == 0 <;> cases decide ((b.length : Int) > 0) <;> cases decide ((b.length : Int) ≤ 600) <;> cases fewI x <;> cases fewI y <;> cases fewI z <;> first | exact fun _ => rfl | exact fun h => by cases h
def hexT : List Int → List Int
  | [] => []
  | x :: r => hexL.getD (x / 16).toNat 0 :: hexL.getD (x % 16).toNat 0 :: hexT r
theorem hex_val : ∀ i : Nat, i < 16 → hexV (hexL.getD i 0) = (i : Int) := by decide
set_option maxRecDepth 100000 in
theorem hex_sign : ∀ i : Nat, i < 16 → signB (hexL.getD i 0) = [hexL.getD i 0] := by decide
set_option maxRecDepth 100000 in
theorem and15 : ∀ n : Nat, n < 256 → IntKind.wrap .u8 (bAnd .u8 (n : Int) 15) = (n : Int) % 16 := by decide
theorem hexG_text : ∀ {b : List Int}, isB b → hexG (-1) (hexT b) = some b
  | [], _ => rfl
  | x :: r, hb => by
    have hx := (isB_cons.1 hb).1
    rw [hexT, hexG_pair, hex_val _ (by omega), hex_val _ (by omega), df (by omega), df (by omega), hexG_text (isB_cons.1 hb).2]
    simp only [cond_false, Option.map_some]
    congr 2; omega
theorem hexT_len : ∀ b : List Int, (hexT b).length = 2 * b.length
  | [] => rfl
  | x :: r => by rw [hexT, List.length_cons, List.length_cons, hexT_len r, List.length_cons]; omega
theorem hexL_chars {i : Nat} (h : i < 16) : 48 ≤ hexL.getD i 0 ∧ hexL.getD i 0 ≤ 102 := by
  have := hexL_get h
  simp only [hexL, List.mem_cons, List.not_mem_nil, or_false] at this ⊢
  omega
theorem hexT_chars : ∀ {b : List Int}, isB b → ∀ c ∈ hexT b, 48 ≤ c ∧ c ≤ 102
  | [], _, c, hc => absurd hc (List.not_mem_nil)
  | x :: r, hb, c, hc => by
    have hx := (isB_cons.1 hb).1
    rw [hexT, List.mem_cons, List.mem_cons] at hc
    rcases hc with rfl | rfl | hc
    · exact hexL_chars (by omega)
    · exact hexL_chars (by omega)
    · exact hexT_chars (isB_cons.1 hb).2 c hc
def lineT (v b : List Int) (x y z : Int) : List Int :=
  bif v == feedK then v ++ 32 :: hexT b else bif v == faultK then v ++ 32 :: (itoaI x ++ 32 :: (itoaI y ++ 32 :: itoaI z)) else v
theorem hex_loop {l b l13 l16 : List Int} {x y z : Int} (nl ex b14 b15 : Bool) (hb : isB b) (hl : b.length ≤ 1000) (hll : l.length ≤ 2000) : lp_flight_line_0 l nl ex b ((b.length : Nat) : Int) 0 l13 b14 b15 l16 x y z = some (l ++ hexT b, l13, b14, b15, l16, x, y, z) := by
  unfold lp_flight_line_0
  refine loop_spec (Y := List Int × List Int × Bool × Bool × List Int × Int × Int × Int) (step := fun x : List Int × Bool × Bool × List Int × Int × Int × List Int × Bool × Bool × List Int × Int × Int × Int => st_flight_line_0 x.1 x.2.1 x.2.2.1 x.2.2.2.1 x.2.2.2.2.1 x.2.2.2.2.2.1 x.2.2.2.2.2.2.1 x.2.2.2.2.2.2.2.1 x.2.2.2.2.2.2.2.2.1 x.2.2.2.2.2.2.2.2.2.1 x.2.2.2.2.2.2.2.2.2.2.1 x.2.2.2.2.2.2.2.2.2.2.2.1 x.2.2.2.2.2.2.2.2.2.2.2.2)
    (fun _ => (l ++ hexT b, l13, b14, b15, l16, x, y, z))
    (fun s => ∃ (k : Nat) (t : List Int), s = (t, nl, ex, b, ((b.length : Nat) : Int), (k : Int), l13, b14, b15, l16, x, y, z) ∧ k ≤ b.length ∧ t.length = l.length + 2 * k ∧ t ++ hexT (b.drop k) = l ++ hexT b)
    (fun s => b.length - s.2.2.2.2.2.1.toNat) (fun s ⟨k, t, hs, q1, q2, q3⟩ => ?_) ⟨0, l, rfl, Nat.zero_le _, rfl, rfl⟩ (by dsimp only; omega)
  subst hs
  dsimp only
  unfold st_flight_line_0
  by_cases hk : k < b.length
  · right
    have hg := get_isB hb hk
    have w1 : IntKind.wrap .i64 ((k : Int) + 1) = ((k + 1 : Nat) : Int) := by rw [w64 (by omega) (by omega)]; rfl
    have c1 : decide ((k : Int) < ((b.length : Nat) : Int)) = true := dt (by omega)
    have c2 : decide ((0 : Int) ≤ (k : Int)) = true := dt (by omega)
    have c3 : decide (k < b.length) = true := dt hk
    rw [drop_get hk, hexT] at q3
    simp only [w1, c1, c2, c3, Int.toNat_natCast, cond_true]
    have ha : IntKind.wrap .u8 (bAnd .u8 (b.getD k 0) 15) = (b.getD k 0) % 16 := by
      have := and15 (b.getD k 0).toNat (by omega)
      rwa [Int.toNat_of_nonneg hg.1] at this
    have hs1 : signB (List.getD [48, 49, 50, 51, 52, 53, 54, 55, 56, 57, 97, 98, 99, 100, 101, 102] ((b.getD k 0) / 16).toNat 0) = [hexL.getD ((b.getD k 0) / 16).toNat 0] := hex_sign _ (by omega)
    have hs2 : signB (List.getD [48, 49, 50, 51, 52, 53, 54, 55, 56, 57, 97, 98, 99, 100, 101, 102] ((b.getD k 0) % 16).toNat 0) = [hexL.getD ((b.getD k 0) % 16).toNat 0] := hex_sign _ (by omega)
    have c4 : decide ((0 : Int) ≤ (b.getD k 0) / 16) = true := dt (by omega)
    have c5 : decide ((b.getD k 0) / 16 < ((16 : Nat) : Int)) = true := dt (by omega)
    have c6 : decide ((b.getD k 0) % 16 < ((16 : Nat) : Int)) = true := dt (by omega)
    simp only [ha, hs1, hs2, c4, c5, c6, cond_true, List.length_singleton, List.singleton_append, List.length_cons, List.length_nil]
    have c7 : decide (1 + 1 ≤ 4611686018427387904) = true := by decide
    have c8 : decide (t.length + (0 + 1 + 1) ≤ 4611686018427387904) = true := dt (by omega)
    simp only [Nat.zero_add] at c8 ⊢
    simp only [c7, c8, cond_true]
    refine ⟨_, rfl, ⟨k + 1, t ++ [hexL.getD ((b.getD k 0) / 16).toNat 0, hexL.getD ((b.getD k 0) % 16).toNat 0], rfl, by omega, by simp; omega, ?_⟩, by dsimp only; omega, trivial⟩
    rw [← q3, List.append_assoc]; rfl
  · left
    rw [df (show ¬ (k : Int) < ((b.length : Nat) : Int) by omega), cond_false]
    rw [List.drop_eq_nil_of_le (by omega), hexT, List.append_nil] at q3
    rw [q3]
theorem num3_loop {l : List Int} {x y z : Int} (hx : in64 x) (hy : in64 y) (hz : in64 z) (hl : l.length ≤ 10000) : lp_flight_line_1 l x y z 0 = some (l ++ 32 :: (itoaI x ++ 32 :: (itoaI y ++ 32 :: itoaI z))) := by
  have lx := itoa_len hx
  have ly := itoa_len hy
  have lz := itoa_len hz
  unfold lp_flight_line_1
  refine loopN_of 4 (by omega) ?_
  have st0 : st_flight_line_1 l x y z 0 = some (.inl (l ++ (([32] : List Int) ++ itoaI x), x, y, z, 1)) := by
    unfold st_flight_line_1
    rw [go_itoa hx, Option.bind_some, dt (show 1 + (itoaI x).length ≤ 4611686018427387904 by omega), dt (show l.length + (([32] : List Int) ++ itoaI x).length ≤ 4611686018427387904 by simp; omega)]
    rfl
  have st1 : ∀ t : List Int, t.length ≤ 20000 → st_flight_line_1 t x y z 1 = some (.inl (t ++ (([32] : List Int) ++ itoaI y), x, y, z, 2)) := fun t ht => by
    unfold st_flight_line_1
    rw [go_itoa hy, Option.bind_some, dt (show 1 + (itoaI y).length ≤ 4611686018427387904 by omega), dt (show t.length + (([32] : List Int) ++ itoaI y).length ≤ 4611686018427387904 by simp; omega)]
    rfl
  have st2 : ∀ t : List Int, t.length ≤ 20000 → st_flight_line_1 t x y z 2 = some (.inl (t ++ (([32] : List Int) ++ itoaI z), x, y, z, 3)) := fun t ht => by
    unfold st_flight_line_1
    rw [go_itoa hz, Option.bind_some, dt (show 1 + (itoaI z).length ≤ 4611686018427387904 by omega), dt (show t.length + (([32] : List Int) ++ itoaI z).length ≤ 4611686018427387904 by simp; omega)]
    rfl
  have st3 : ∀ t : List Int, st_flight_line_1 t x y z 3 = some (.inr t) := fun t => rfl
  simp only [iterN]
  rw [st0]; dsimp only
  rw [st1 _ (by simp; omega)]; dsimp only
  rw [st2 _ (by simp; omega)]; dsimp only
  rw [st3]; simp
theorem line_print {d : DX} (h : FitX d) : go_flight_line d.1 d.2.1 d.2.2.1 d.2.2.2.1 d.2.2.2.2.1 d.2.2.2.2.2.1 d.2.2.2.2.2.2 = some (lineT d.1 d.2.2.2.1 d.2.2.2.2.1 d.2.2.2.2.2.1 d.2.2.2.2.2.2 ++ [10]) := by
  obtain ⟨v, nl, ex, b, x, y, z⟩ := d
  obtain ⟨h1, h2, h3, h4, h5, h6, h7⟩ := h
  dsimp only at *
  unfold go_flight_line lineT
  cases hv1 : v == feedK with
  | true =>
    have e := eq_of_beq hv1
    subst e
    rw [show (feedK == [102, 101, 101, 100]) = true from rfl, cond_true, show decide (feedK.length + 1 ≤ 4611686018427387904) = true from rfl, cond_true,
      hex_loop (l := feedK ++ [32]) nl ex nl ex h3 h4 (by decide), Option.bind_some]
    have : (feedK == [102, 97, 117, 108, 116]) = false := rfl
    have hh := hexT_len b
    dsimp only
    have h5' : (feedK ++ [32] ++ hexT b : List Int).length + 1 ≤ 4611686018427387904 := by
      rw [List.length_append, show (feedK ++ [32] : List Int).length = 5 from rfl]; omega
    rw [this, cond_false, dt h5', cond_true, cond_true]
    simp
  | false =>
    have h1' : (v == [102, 101, 101, 100]) = false := hv1
    rw [h1', cond_false, cond_false]
    cases hv2 : v == faultK with
    | true =>
      have h2' : (v == [102, 97, 117, 108, 116]) = true := hv2
      have lx := itoa_len h5
      have ly := itoa_len h6
      have lz := itoa_len h7
      rw [h2', cond_true, num3_loop h5 h6 h7 (by omega), Option.bind_some, dt (by simp; omega), cond_true, cond_true]
    | false =>
      have h2' : (v == [102, 97, 117, 108, 116]) = false := hv2
      rw [h2', cond_false, dt (show v.length + 1 ≤ 4611686018427387904 by omega), cond_true, cond_false]
def textX (d : DX) : List Int := lineT d.1 d.2.2.2.1 d.2.2.2.2.1 d.2.2.2.2.2.1 d.2.2.2.2.2.2
theorem lineOf_law {d : DX} (h : FitX d) : lineOf (doX d) = some (textX d ++ [10]) := (rfl : lineOf (doX d) = go_flight_line d.1 d.2.1 d.2.2.1 d.2.2.2.1 d.2.2.2.2.1 d.2.2.2.2.2.1 d.2.2.2.2.2.2).trans (line_print h)
def flat : List (List Int) → List Int
  | [] => []
  | l :: r => l ++ 10 :: flat r
theorem linesOf_law : ∀ {ds : List DX}, (∀ d ∈ ds, FitX d) → linesOf (ds.map doX) = some (flat (ds.map textX))
  | [], _ => rfl
  | d :: r, h => by
    rw [List.map_cons, linesOf, lineOf_law (h d (List.mem_cons_self ..)), Option.bind_some, linesOf_law (fun e he => h e (List.mem_cons_of_mem _ he)), Option.bind_some, List.map_cons, flat]
    simp
end Go.Proofs
end
set_option linter.unusedVariables false
set_option linter.unusedSimpArgs false
noncomputable section
namespace Go.Proofs
open Go Go.Fx
theorem doX_get {ds : List DX} {i : Nat} (h : i < ds.length) : ∃ d, ds[i]? = some d ∧ d ∈ ds ∧ (ds.map doX).getD i .nilSl = doX d := by
  refine ⟨ds[i], List.getElem?_eq_getElem h, List.getElem_mem h, ?_⟩
  rw [List.getD_eq_getElem?_getD, List.getElem?_map, List.getElem?_eq_getElem h]; rfl
theorem doX_len (d : DX) : (PV.cells (doX d)).length = 5 := rfl
theorem doX_ok (d : DX) : Shp.ok (.agg [.str, (.isl .u8), (.int .i64), (.int .i64), (.int .i64)]) (.agg (PV.cells (doX d))) = true := rfl
theorem print1_law {d : DX} (h : FitX d) : go_flight_Print_1 d.1 d.2.1 d.2.2.1 d.2.2.2.1 d.2.2.2.2.1 d.2.2.2.2.2.1 d.2.2.2.2.2.2 = some (!rightX d) := by
  unfold go_flight_Print_1
  rw [right_law h.x h.y h.z, Option.bind_some]; rfl
theorem all_take {p : DX → Bool} {ds : List DX} {i : Nat} {d : DX} (h : ds[i]? = some d) (ha : (ds.take i).all p = true) (hd : p d = true) : (ds.take (i + 1)).all p = true := by
  rw [List.take_add_one, h, List.all_append, ha, Bool.true_and]
  show (p d && true) = true
  rw [hd]; rfl
theorem all_not {p : DX → Bool} {ds : List DX} {d : DX} (h : d ∈ ds) (hd : p d = false) : ds.all p = false := by
  rw [List.all_eq_false]
  exact ⟨d, h, by rw [hd]; simp⟩
theorem contains_do {ds : List DX} (h : ∀ d ∈ ds, FitX d) (hl : ds.length ≤ 1000000) (nl ex : Bool) : go_slices_ContainsFunc__flight_Do_flight_Do nl ex (ds.map doX) = some (!ds.all rightX) := by
  have key : ∃ y, lp_slices_IndexFunc__flight_Do_flight_Do_0 nl ex (ds.map doX) (((ds.map doX).length : Nat) : Int) 0 = some y ∧ (match y with | .inl () => ds.all rightX = true | .inr i => 0 ≤ i ∧ ds.all rightX = false) := by
    unfold lp_slices_IndexFunc__flight_Do_flight_Do_0
    refine loop_rule (step := fun x : Bool × Bool × List PV × Int × Int => st_slices_IndexFunc__flight_Do_flight_Do_0 x.1 x.2.1 x.2.2.1 x.2.2.2.1 x.2.2.2.2)
      (fun x => ∃ i : Nat, x = (nl, ex, ds.map doX, (((ds.map doX).length : Nat) : Int), (i : Int)) ∧ i ≤ ds.length ∧ (ds.take i).all rightX = true)
      (fun x => ds.length - x.2.2.2.2.toNat) (fun y : Unit ⊕ Int => match y with | .inl () => ds.all rightX = true | .inr i => 0 ≤ i ∧ ds.all rightX = false) (fun x ⟨i, hx, q1, q2⟩ => ?_) ⟨0, rfl, Nat.zero_le _, rfl⟩ (by dsimp only; omega)
    subst hx
    dsimp only
    unfold st_slices_IndexFunc__flight_Do_flight_Do_0
    rw [List.length_map]
    by_cases hi : i < ds.length
    · obtain ⟨d, g1, g2, g3⟩ := doX_get hi
      have w1 : IntKind.wrap .i64 ((i : Int) + 1) = ((i + 1 : Nat) : Int) := by rw [w64 (by omega) (by omega)]; rfl
      have c1 : decide ((i : Int) < ((ds.length : Nat) : Int)) = true := dt (by omega)
      have c2 : decide ((0 : Int) ≤ (i : Int)) = true := dt (by omega)
      have c3 : decide (i < ds.length) = true := dt hi
      have hp := print1_law (h d g2)
      simp only [Int.toNat_natCast, w1, c1, c2, c3, g3, doX_len, doX_ok, cond_true, decide_true]
      change (∃ y, (go_flight_Print_1 d.1 d.2.1 d.2.2.1 d.2.2.2.1 d.2.2.2.2.1 d.2.2.2.2.2.1 d.2.2.2.2.2.2).bind _ = _ ∧ _) ∨ ∃ x', (go_flight_Print_1 d.1 d.2.1 d.2.2.1 d.2.2.2.1 d.2.2.2.2.1 d.2.2.2.2.2.1 d.2.2.2.2.2.2).bind _ = _ ∧ _
      rw [hp, Option.bind_some]
      cases hr : rightX d with
      | false => exact .inl ⟨_, rfl, by omega, all_not g2 hr⟩
      | true => exact .inr ⟨_, rfl, ⟨i + 1, rfl, by omega, all_take g1 q2 hr⟩, by dsimp only; omega⟩
    · left
      rw [df (show ¬ (i : Int) < ((ds.length : Nat) : Int) by omega), cond_false]
      rw [List.take_of_length_le (by omega)] at q2
      exact ⟨_, rfl, q2⟩
  obtain ⟨y, h1, h2⟩ := key
  unfold go_slices_ContainsFunc__flight_Do_flight_Do go_slices_IndexFunc__flight_Do_flight_Do
  rw [h1, Option.bind_some]
  cases y with
  | inl u => cases u; rw [h2]; rfl
  | inr i =>
    rw [h2.2]
    show some (decide (i ≥ 0)) = some true
    rw [dt h2.1]
theorem textX_len {d : DX} (h : FitX d) : (textX d).length ≤ 2006 := by
  obtain ⟨v, nl, ex, b, x, y, z⟩ := d
  obtain ⟨h1, h2, h3, h4, h5, h6, h7⟩ := h
  dsimp only at *
  have lx := itoa_len h5
  have ly := itoa_len h6
  have lz := itoa_len h7
  have lb := hexT_len b
  show (lineT v b x y z).length ≤ _
  unfold lineT
  cases hv1 : v == feedK with
  | true =>
    rw [cond_true, eq_of_beq hv1, List.length_append, List.length_cons, show feedK.length = 4 from rfl]; omega
  | false =>
    rw [cond_false]
    cases v == faultK with
    | true =>
      rw [cond_true]
      simp only [List.length_append, List.length_cons]; omega
    | false => rw [cond_false]; omega
theorem flat_len : ∀ {ds : List DX}, (∀ d ∈ ds, FitX d) → (flat (ds.map textX)).length ≤ 2007 * ds.length
  | [], _ => Nat.le_refl _
  | d :: r, h => by
    have := textX_len (h d (List.mem_cons_self ..))
    have := flat_len (ds := r) (fun e he => h e (List.mem_cons_of_mem _ he))
    rw [List.map_cons, flat, List.length_append, List.length_cons, List.length_cons]; omega
theorem print_law {ds : List DX} (h : ∀ d ∈ ds, FitX d) (hl : ds.length ≤ 1000000) (nl ex : Bool) : go_flight_Print nl ex (ds.map doX) = some (bif ds.all rightX then (flat (ds.map textX), 0) else ([], 1)) := by
  unfold go_flight_Print
  rw [contains_do h hl, Option.bind_some]
  cases ds.all rightX with
  | false => rfl
  | true =>
    have := flat_len h
    rw [Bool.not_true, cond_false, List.length_map, dt hl, cond_true, linesOf_law h, Option.bind_some, dt (show (flat (ds.map textX)).length ≤ 140737488355328 by omega)]
    rfl
theorem cut_none {c : Int} : ∀ {w : List Int}, c ∉ w → cutC c w = [w]
  | [], _ => rfl
  | x :: r, h => by
    have e : (x == c) = false := by rw [beq_eq_false_iff_ne]; intro e; exact h (by rw [e]; exact List.mem_cons_self ..)
    rw [cutC, e, cond_false, cut_none (fun q => h (List.mem_cons_of_mem _ q))]; rfl
theorem cut_word {c : Int} {r : List Int} : ∀ {w : List Int}, c ∉ w → cutC c (w ++ c :: r) = w :: cutC c r
  | [], _ => by rw [List.nil_append, cutC, beq_self_eq_true, cond_true]
  | x :: w, h => by
    have e : (x == c) = false := by rw [beq_eq_false_iff_ne]; intro e; exact h (by rw [e]; exact List.mem_cons_self ..)
    rw [List.cons_append, cutC, e, cond_false, cut_word (fun q => h (List.mem_cons_of_mem _ q))]; rfl
theorem not_itoa (n : Int) : (32 : Int) ∉ itoaI n := fun h => by have := itoa_chars n _ h; omega
theorem not_hexT {b : List Int} (hb : isB b) : (32 : Int) ∉ hexT b := fun h => by have := hexT_chars hb _ h; omega
def rdX (d : DX) : DV := (d.1, (bif d.1 == feedK then some d.2.2.2.1 else none), d.2.2.2.2.1, d.2.2.2.2.2.1, d.2.2.2.2.2.2)
theorem hexB_text {b : List Int} (hb : isB b) (h1 : 0 < b.length) (h2 : b.length ≤ 600) : hexB (hexT b) = some b := by
  unfold hexB
  have e1 : (hexT b == []) = false := by
    rw [beq_eq_false_iff_ne]; intro e
    have := hexT_len b
    rw [e] at this
    simp at this; omega
  have e2 : (Int.tmod ((hexT b).length : Int) 2 == 1) = false := by
    rw [beq_eq_false_iff_ne, hexT_len, Int.tmod_eq_emod_of_nonneg (by omega)]; omega
  rw [e1, e2, df (show ¬ (hexT b).length > 1200 by rw [hexT_len]; omega)]
  exact hexG_text hb
theorem read_text {d : DX} (h : FitX d) (hr : rightX d = true) : lineI (textX d) = some (rdX d) := by
  obtain ⟨v, nl, ex, b, x, y, z⟩ := d
  obtain ⟨h1, h2, h3, h4, h5, h6, h7⟩ := h
  dsimp only at h1 h2 h3 h4 h5 h6 h7
  have hr : rightI v b x y z = true := hr
  show lineI (lineT v b x y z) = some (v, (bif v == feedK then some b else none), x, y, z)
  unfold rightI at hr
  unfold lineT
  cases hv1 : v == feedK with
  | true =>
    have e := eq_of_beq hv1
    subst e
    rw [hv1, cond_true] at hr
    simp only [Bool.and_eq_true, beq_iff_eq, decide_eq_true_eq] at hr
    obtain ⟨⟨rfl, rfl, rfl⟩, g1, g2⟩ := hr
    rw [cond_true]
    unfold lineI
    rw [cut_word (by decide), cut_none (not_hexT h3)]
    show lineW feedK [hexT b] = _
    unfold lineW
    rw [show (feedK == feedK) = true from rfl, cond_true]
    show (hexB (hexT b)).map _ = _
    rw [hexB_text h3 (by omega) (by omega)]; rfl
  | false =>
    rw [cond_false]
    rw [hv1, cond_false] at hr
    cases hv2 : v == faultK with
    | true =>
      have e := eq_of_beq hv2
      subst e
      rw [hv2, cond_true] at hr
      simp only [Bool.and_eq_true] at hr
      obtain ⟨_, g1, g2, g3⟩ := hr
      have rx := ref_itoa x
      have ry := ref_itoa y
      have rz := ref_itoa z
      rw [cond_true]
      unfold lineI
      rw [cut_word (by decide), cut_word (not_itoa x), cut_word (not_itoa y), cut_none (not_itoa z)]
      show lineW faultK [itoaI x, itoaI y, itoaI z] = _
      unfold lineW
      rw [hv1, cond_false, show (faultK == faultK) = true from rfl, cond_true]
      unfold faultI
      dsimp only
      rw [rx.1, ry.1, rz.1, g1, g2, g3, rx.2 g1, ry.2 g2, rz.2 g3]; rfl
    | false =>
      rw [cond_false]
      rw [hv2, cond_false] at hr
      cases hv3 : v == resetK with
      | true =>
        have e := eq_of_beq hv3
        subst e
        rw [hv3, cond_true] at hr
        simp only [Bool.and_eq_true, beq_iff_eq] at hr
        obtain ⟨⟨rfl, rfl, rfl⟩, _⟩ := hr
        rfl
      | false => rw [hv3, cond_false] at hr; cases hr
theorem text_chars {d : DX} (h : FitX d) (hr : rightX d = true) : (∀ c ∈ textX d, 32 ≤ c ∧ c < 256) ∧ textX d ≠ [] := by
  obtain ⟨v, nl, ex, b, x, y, z⟩ := d
  obtain ⟨h1, h2, h3, h4, h5, h6, h7⟩ := h
  dsimp only at h1 h2 h3 h4 h5 h6 h7
  have hr : rightI v b x y z = true := hr
  show (∀ c ∈ lineT v b x y z, _) ∧ lineT v b x y z ≠ []
  unfold rightI at hr
  unfold lineT
  have hx := itoa_chars x
  have hy := itoa_chars y
  have hz := itoa_chars z
  have hb := hexT_chars h3
  have k1 : ∀ c ∈ feedK, 32 ≤ c ∧ c < 256 := by decide
  have k2 : ∀ c ∈ faultK, 32 ≤ c ∧ c < 256 := by decide
  have k3 : ∀ c ∈ resetK, 32 ≤ c ∧ c < 256 := by decide
  cases hv1 : v == feedK with
  | true =>
    rw [cond_true, eq_of_beq hv1]
    refine ⟨fun c hc => ?_, by simp⟩
    rw [List.mem_append, List.mem_cons] at hc
    rcases hc with hc | hc | hc
    · exact k1 c hc
    · omega
    · have := hb c hc; omega
  | false =>
    rw [cond_false]
    rw [hv1, cond_false] at hr
    cases hv2 : v == faultK with
    | true =>
      rw [cond_true, eq_of_beq hv2]
      refine ⟨fun c hc => ?_, by simp⟩
      simp only [List.mem_append, List.mem_cons] at hc
      rcases hc with hc | hc | hc | hc | hc | hc | hc
      · exact k2 c hc
      · omega
      · have := hx c hc; omega
      · omega
      · have := hy c hc; omega
      · omega
      · have := hz c hc; omega
    | false =>
      rw [cond_false]
      rw [hv2, cond_false] at hr
      cases hv3 : v == resetK with
      | true => rw [eq_of_beq hv3]; exact ⟨k3, by decide⟩
      | false => rw [hv3, cond_false] at hr; cases hr
theorem trim_snoc : ∀ l : List Int, trimNL (l ++ [10]) = l
  | [] => rfl
  | x :: r => by rw [List.cons_append, trimNL_cons (.inr (by simp)), trim_snoc r]
theorem trim_app {r : List Int} (h : r ≠ []) : ∀ l : List Int, trimNL (l ++ r) = l ++ trimNL r
  | [] => rfl
  | x :: l => by rw [List.cons_append, trimNL_cons (.inr (by simp [h])), trim_app h l]; rfl
theorem flat_lines : ∀ {ls : List (List Int)}, (∀ l ∈ ls, (10 : Int) ∉ l) → ls ≠ [] → cutC 10 (trimNL (flat ls)) = ls
  | [], _, h => absurd rfl h
  | [l], h, _ => by rw [flat, flat, trim_snoc, cut_none (h l (List.mem_singleton.2 rfl))]
  | l :: l' :: r, h, _ => by
    have ih := flat_lines (ls := l' :: r) (fun x hx => h x (List.mem_cons_of_mem _ hx)) (by simp)
    have hne : flat (l' :: r) ≠ [] := by rw [flat]; simp
    rw [flat, trim_app (by simp), trimNL_cons (.inr hne), cut_word (h l (List.mem_cons_self ..)), ih]
theorem flat_isB : ∀ {ls : List (List Int)}, (∀ l ∈ ls, isB l) → isB (flat ls)
  | [], _ => fun x hx => absurd hx List.not_mem_nil
  | l :: r, h => fun x hx => by
    rw [flat, List.mem_append, List.mem_cons] at hx
    rcases hx with hx | hx | hx
    · exact h l (List.mem_cons_self ..) x hx
    · omega
    · exact flat_isB (fun y hy => h y (List.mem_cons_of_mem _ hy)) x hx
theorem parseI_texts : ∀ {ds : List DX} (k : Nat), (∀ d ∈ ds, FitX d) → (∀ d ∈ ds, rightX d = true) → parseI k (ds.map textX) = .inr (ds.map rdX)
  | [], _, _, _ => rfl
  | d :: r, k, h, hr => by
    have h1 := h d (List.mem_cons_self ..)
    have h2 := hr d (List.mem_cons_self ..)
    have e : (textX d == []) = false := by rw [beq_eq_false_iff_ne]; exact (text_chars h1 h2).2
    rw [List.map_cons, parseI, e, cond_false, read_text h1 h2, parseI_texts (k + 1) (fun x hx => h x (List.mem_cons_of_mem _ hx)) (fun x hx => hr x (List.mem_cons_of_mem _ hx))]
    rfl
theorem trip_law {ds : List DX} (h : ∀ d ∈ ds, FitX d) (hr : ds.all rightX = true) (hl : ds.length ≤ 20) : ∃ nl ex, go_flight_Parse (flat (ds.map textX)) = some (nl, ex, (ds.map rdX).map doPV, ((max ds.length 1 : Nat) : Int), 0) := by
  have hr' : ∀ d ∈ ds, rightX d = true := fun d hd => List.all_eq_true.1 hr d hd
  have hc : ∀ l ∈ ds.map textX, (∀ c ∈ l, 32 ≤ c ∧ c < 256) := fun l hl => by
    obtain ⟨d, hd, rfl⟩ := List.mem_map.1 hl
    exact (text_chars (h d hd) (hr' d hd)).1
  have hb : isB (flat (ds.map textX)) := flat_isB fun l hl c hc' => by have := hc l hl c hc'; omega
  have hn : ∀ l ∈ ds.map textX, (10 : Int) ∉ l := fun l hl hm => by have := hc l hl _ hm; omega
  have hlen := flat_len h
  rw [parse_law hb (by omega)]
  cases ds with
  | nil => exact ⟨_, _, rfl⟩
  | cons d r =>
    rw [flat_lines hn (by simp), parseI_texts 0 h hr']
    rw [show max (d :: r).length 1 = ((d :: r).map textX).length from by rw [List.length_map, List.length_cons]; omega]
    exact ⟨_, _, rfl⟩
def litA : List Int := [114, 101, 115, 101, 116, 10, 102, 97, 117, 108, 116, 32, 48, 32, 49, 32, 45, 53, 10]
def litD : List DX := [(resetK, true, true, [], 0, 0, 0), (faultK, true, true, [], 0, 1, -5)]
theorem litD_fit : ∀ d ∈ litD, FitX d := by
  intro d hd
  simp only [litD, List.mem_cons, List.not_mem_nil, or_false] at hd
  rcases hd with rfl | rfl <;> exact ⟨by decide, by unfold isB; decide, by unfold isB; decide, by decide, by unfold in64; decide, by unfold in64; decide, by unfold in64; decide⟩
theorem litD_flat : flat (litD.map textX) = litA := by
  have e0 : itoaI 0 = [48] := by rw [itoa_pos (by decide)]; exact decI_low (by decide)
  have e1 : itoaI 1 = [49] := by rw [itoa_pos (by decide)]; exact decI_low (by decide)
  have e5 : itoaI (-5) = [45, 53] := by rw [itoa_neg (by decide)]; exact congrArg _ (decI_low (by decide))
  show resetK ++ 10 :: ((faultK ++ 32 :: (itoaI 0 ++ 32 :: (itoaI 1 ++ 32 :: itoaI (-5)))) ++ 10 :: []) = litA
  rw [e0, e1, e5]; rfl
theorem awake_law : go_coupletlaw20_awake = some true := by
  unfold go_coupletlaw20_awake
  have hp := parse_law (l := litA) (by unfold isB; decide) (by decide)
  have e : parseI 0 (cutC 10 (trimNL litA)) = .inr (litD.map rdX) := by rfl
  rw [e] at hp
  have hP := print_law litD_fit (by decide) false false
  rw [litD_flat] at hP
  have h0 : go_flight_Parse [114, 101, 115, 101, 116, 10, 102, 97, 117, 108, 116, 32, 48, 32, 49, 32, 45, 53, 10] = some (false, false, litD.map doX, 2, 0) := hp
  have h1 : go_flight_Print false false (litD.map doX) = some (litA, 0) := hP
  rw [h0, Option.bind_some]
  dsimp only
  rw [h1, Option.bind_some]
  have hR := right_law (v := resetK) (b := []) (x := 0) (y := 0) (z := 0) (by unfold in64; decide) (by unfold in64; decide) (by unfold in64; decide) true true
  show (go_flight_Right resetK true true [] 0 0 0).bind _ = some true
  rw [hR]; rfl
end Go.Proofs
end
set_option linter.unusedVariables false
set_option linter.unusedSimpArgs false
noncomputable section
namespace Go.Proofs
open Go Go.Fx
theorem all_isB {l : List Int} (h : isB l) : l.all (fun x => decide ((0 ≤ x) ∧ (x < 256))) = true := List.all_eq_true.2 fun x hx => dt (h x hx)
theorem same_law {v b b' : List Int} {x y z : Int} {n1 e1 n2 e2 : Bool} (hb : isB b) (hb' : b' = b) : go_coupletlaw20_same v n1 e1 b x y z v n2 e2 b' x y z = some true := by
  subst hb'
  unfold go_coupletlaw20_same
  rw [beq_self_eq_true, cond_true, all_isB hb, cond_true, cond_true, beq_self_eq_true, cond_true, beq_self_eq_true, cond_true, beq_self_eq_true, cond_true, beq_self_eq_true]
theorem pv_get {ds : List DV} {i : Nat} {d : DV} (h : ds[i]? = some d) : (ds.map doPV).getD i .nilSl = doPV d := by
  rw [List.getD_eq_getElem?_getD, List.getElem?_map, h]; rfl
theorem pv_ok (d : DV) : Shp.ok (.agg [.str, (.isl .u8), (.int .i64), (.int .i64), (.int .i64)]) (.agg (PV.cells (doPV d))) = true := by
  obtain ⟨v, w, x, y, z⟩ := d
  cases w <;> rfl
theorem pv_len (d : DV) : (PV.cells (doPV d)).length = 5 := rfl
theorem word_ints (w : Option (List Int)) : PV.ints (wordPV w) = w.getD [] := by cases w <;> rfl
end Go.Proofs
end
set_option linter.unusedVariables false
set_option linter.unusedSimpArgs false
noncomputable section
namespace Go.Proofs
open Go Go.Fx
theorem few_do {ds : List DX} (nl ex : Bool) : ∃ r, go_coupletlaw20_Few nl ex (ds.map doX) = some r ∧ (r = true → ds.length ≤ 20 ∧ ∀ d ∈ ds, d.1.length ≤ 100 ∧ d.2.2.2.1.length ≤ 601) := by
  have key : ∃ y, lp_coupletlaw20_Few_0 nl ex (ds.map doX) 0 = some y ∧ (match y with
      | .inl z => z.2.2 = ds.map doX ∧ (ds.length ≤ 20 → ∀ d ∈ ds, d.1.length ≤ 100 ∧ d.2.2.2.1.length ≤ 601)
      | .inr b => b = false) := by
    unfold lp_coupletlaw20_Few_0
    refine loop_rule (step := fun x : Bool × Bool × List PV × Int => st_coupletlaw20_Few_0 x.1 x.2.1 x.2.2.1 x.2.2.2)
      (fun x => ∃ i : Nat, x = (nl, ex, ds.map doX, (i : Int)) ∧ i ≤ 21 ∧ i ≤ ds.length ∧ ∀ d ∈ ds.take i, d.1.length ≤ 100 ∧ d.2.2.2.1.length ≤ 601)
      (fun x => 21 - x.2.2.2.toNat)
      (fun y : (Bool × Bool × List PV) ⊕ Bool => match y with
      | .inl z => z.2.2 = ds.map doX ∧ (ds.length ≤ 20 → ∀ d ∈ ds, d.1.length ≤ 100 ∧ d.2.2.2.1.length ≤ 601)
      | .inr b => b = false) (fun x ⟨i, hx, q0, q1, q2⟩ => ?_) ⟨0, rfl, by decide, Nat.zero_le _, fun d hd => by simp at hd⟩ (by dsimp only; omega)
    subst hx
    dsimp only
    unfold st_coupletlaw20_Few_0
    rw [List.length_map]
    by_cases hi : i < ds.length
    · by_cases h20 : i ≤ 20
      · obtain ⟨d, g1, g2, g3⟩ := doX_get hi
        have w1 : IntKind.wrap .i64 ((i : Int) + 1) = ((i + 1 : Nat) : Int) := by rw [w64 (by omega) (by omega)]; rfl
        have e1 : Shp.ok (.isl .u8) ((PV.cells (doX d)).getD 1 .nilSl) = true := rfl
        have e2 : PV.ints ((PV.cells (doX d)).getD 1 .nilSl) = d.2.2.2.1 := rfl
        have e3 : Shp.ok .str ((PV.cells (doX d)).getD 0 .nilSl) = true := rfl
        have e4 : PV.chars ((PV.cells (doX d)).getD 0 .nilSl) = d.1 := rfl
        simp only [Int.toNat_natCast, w1, dt (show (i : Int) < ((ds.length : Nat) : Int) by omega), dt (show (i : Int) ≤ 20 by omega), dt (show (0 : Int) ≤ (i : Int) by omega), dt hi, g3, e1, e2, e3, e4, cond_true]
        by_cases hb : ((d.2.2.2.1.length : Nat) : Int) > 601
        · rw [dt hb, cond_true]
          exact .inl ⟨_, rfl, rfl⟩
        · rw [df hb, cond_false]
          by_cases hv : ((d.1.length : Nat) : Int) > 100
          · rw [dt hv, cond_true]
            exact .inl ⟨_, rfl, rfl⟩
          · rw [df hv, cond_false]
            refine .inr ⟨_, rfl, ⟨i + 1, rfl, by omega, by omega, fun e he => ?_⟩, by dsimp only; omega⟩
            rw [List.take_add_one, g1, List.mem_append] at he
            rcases he with he | he
            · exact q2 e he
            · have : e = d := by simpa using he
              subst this
              exact ⟨by omega, by omega⟩
      · left
        rw [dt (show (i : Int) < ((ds.length : Nat) : Int) by omega), df (show ¬ (i : Int) ≤ 20 by omega), cond_true, cond_false]
        exact ⟨_, rfl, rfl, fun h => by omega⟩
    · left
      rw [df (show ¬ (i : Int) < ((ds.length : Nat) : Int) by omega), cond_false]
      rw [List.take_of_length_le (by omega)] at q2
      exact ⟨_, rfl, rfl, fun _ => q2⟩
  obtain ⟨y, h1, h2⟩ := key
  unfold go_coupletlaw20_Few
  rw [h1, Option.bind_some]
  cases y with
  | inl z =>
    refine ⟨_, rfl, fun h => ?_⟩
    rw [h2.1, List.length_map] at h
    have h := of_decide_eq_true h
    exact ⟨by omega, h2.2 (by omega)⟩
  | inr b => exact ⟨_, rfl, fun h => by rw [h2] at h; cases h⟩
theorem prints_loop0 {ds : List DX} (h : ∀ d ∈ ds, FitX d) (hl : ds.length ≤ 20) (nl ex : Bool) : lp_coupletlaw20_FlightPrints_0 nl ex (ds.map doX) true nl ex (ds.map doX) (((ds.map doX).length : Nat) : Int) 0 = some (.inl (nl, ex, ds.map doX, ds.all rightX)) := by
  unfold lp_coupletlaw20_FlightPrints_0
  refine loop_spec (Y := (Bool × Bool × List PV × Bool) ⊕ Bool) (step := fun x : Bool × Bool × List PV × Bool × Bool × Bool × List PV × Int × Int => st_coupletlaw20_FlightPrints_0 x.1 x.2.1 x.2.2.1 x.2.2.2.1 x.2.2.2.2.1 x.2.2.2.2.2.1 x.2.2.2.2.2.2.1 x.2.2.2.2.2.2.2.1 x.2.2.2.2.2.2.2.2)
    (fun _ => .inl (nl, ex, ds.map doX, ds.all rightX))
    (fun x => ∃ i : Nat, x = (nl, ex, ds.map doX, (ds.take i).all rightX, nl, ex, ds.map doX, (((ds.map doX).length : Nat) : Int), (i : Int)) ∧ i ≤ ds.length)
    (fun x => ds.length - x.2.2.2.2.2.2.2.2.toNat) (fun x ⟨i, hx, q1⟩ => ?_) ⟨0, rfl, Nat.zero_le _⟩ (by dsimp only; omega)
  subst hx
  dsimp only
  unfold st_coupletlaw20_FlightPrints_0
  rw [List.length_map]
  by_cases hi : i < ds.length
  · right
    obtain ⟨d, g1, g2, g3⟩ := doX_get hi
    have hf := h d g2
    have w1 : IntKind.wrap .i64 ((i : Int) + 1) = ((i + 1 : Nat) : Int) := by rw [w64 (by omega) (by omega)]; rfl
    have r1 : go_coupletref20_Right d.1 d.2.1 d.2.2.1 d.2.2.2.1 d.2.2.2.2.1 d.2.2.2.2.2.1 d.2.2.2.2.2.2 = some (rightX d) := ref_right_law ..
    have r2 : go_flight_Right d.1 d.2.1 d.2.2.1 d.2.2.2.1 d.2.2.2.2.1 d.2.2.2.2.2.1 d.2.2.2.2.2.2 = some (rightX d) := right_law hf.x hf.y hf.z ..
    simp only [Int.toNat_natCast, w1, dt (show (i : Int) < ((ds.length : Nat) : Int) by omega), dt (show (0 : Int) ≤ (i : Int) by omega), dt hi, g3, doX_len, doX_ok, cond_true, decide_true]
    have ht : (ds.take (i + 1)).all rightX = ((ds.take i).all rightX && rightX d) := by
      rw [List.take_add_one, g1, List.all_append]
      show (_ && (rightX d && true)) = _
      rw [Bool.and_true]
    refine ⟨(nl, ex, ds.map doX, (ds.take (i + 1)).all rightX, nl, ex, ds.map doX, ((ds.length : Nat) : Int), ((i + 1 : Nat) : Int)), ?_, ⟨i + 1, rfl, by omega⟩, by dsimp only; omega, trivial⟩
    change (go_coupletref20_Right d.1 d.2.1 d.2.2.1 d.2.2.2.1 d.2.2.2.2.1 d.2.2.2.2.2.1 d.2.2.2.2.2.2).bind _ = _
    rw [r1, Option.bind_some]
    change (go_flight_Right d.1 d.2.1 d.2.2.1 d.2.2.2.1 d.2.2.2.2.1 d.2.2.2.2.2.1 d.2.2.2.2.2.2).bind _ = _
    rw [r2, Option.bind_some, beq_self_eq_true, Bool.not_true, cond_false, ht]
    cases (ds.take i).all rightX <;> rfl
  · left
    rw [df (show ¬ (i : Int) < ((ds.length : Nat) : Int) by omega), cond_false, List.take_of_length_le (by omega)]
theorem prints_loop1 {ds : List DX} (h : ∀ d ∈ ds, FitX d) (hr : ds.all rightX = true) (hl : ds.length ≤ 20) (b1 b2 nl ex : Bool) : lp_coupletlaw20_FlightPrints_1 b1 b2 ((ds.map rdX).map doPV) nl ex (ds.map doX) (((ds.map doX).length : Nat) : Int) 0 = some (.inl ()) := by
  unfold lp_coupletlaw20_FlightPrints_1
  refine loop_spec (Y := Unit ⊕ Bool) (step := fun x : Bool × Bool × List PV × Bool × Bool × List PV × Int × Int => st_coupletlaw20_FlightPrints_1 x.1 x.2.1 x.2.2.1 x.2.2.2.1 x.2.2.2.2.1 x.2.2.2.2.2.1 x.2.2.2.2.2.2.1 x.2.2.2.2.2.2.2)
    (fun _ => .inl ())
    (fun x => ∃ i : Nat, x = (b1, b2, (ds.map rdX).map doPV, nl, ex, ds.map doX, (((ds.map doX).length : Nat) : Int), (i : Int)) ∧ i ≤ ds.length)
    (fun x => ds.length - x.2.2.2.2.2.2.2.toNat) (fun x ⟨i, hx, q1⟩ => ?_) ⟨0, rfl, Nat.zero_le _⟩ (by dsimp only; omega)
  subst hx
  dsimp only
  unfold st_coupletlaw20_FlightPrints_1
  rw [List.length_map, List.length_map, List.length_map]
  by_cases hi : i < ds.length
  · right
    obtain ⟨d, g1, g2, g3⟩ := doX_get hi
    have hf := h d g2
    have hrd : rightX d = true := List.all_eq_true.1 hr d g2
    have w1 : IntKind.wrap .i64 ((i : Int) + 1) = ((i + 1 : Nat) : Int) := by rw [w64 (by omega) (by omega)]; rfl
    have g4 : ((ds.map rdX).map doPV).getD i .nilSl = doPV (rdX d) := pv_get (by rw [List.getElem?_map, g1]; rfl)
    simp only [Int.toNat_natCast, w1, dt (show (i : Int) < ((ds.length : Nat) : Int) by omega), dt (show (0 : Int) ≤ (i : Int) by omega), dt hi, g3, g4, doX_len, doX_ok, pv_len, pv_ok, cond_true, decide_true]
    refine ⟨(b1, b2, (ds.map rdX).map doPV, nl, ex, ds.map doX, ((ds.length : Nat) : Int), ((i + 1 : Nat) : Int)), ?_, ⟨i + 1, rfl, by omega⟩, by dsimp only; omega, trivial⟩
    have hw : (rdX d).2.1.getD [] = d.2.2.2.1 := by
      show (bif d.1 == feedK then some d.2.2.2.1 else none).getD [] = d.2.2.2.1
      cases h1 : d.1 == feedK with
      | true => rfl
      | false =>
        have hr2 : rightI d.1 d.2.2.2.1 d.2.2.2.2.1 d.2.2.2.2.2.1 d.2.2.2.2.2.2 = true := hrd
        unfold rightI at hr2
        rw [h1, cond_false] at hr2
        have : decide (((d.2.2.2.1.length : Nat) : Int) > 0) = false := by
          revert hr2
          cases decide (((d.2.2.2.1.length : Nat) : Int) > 0) with
          | false => intro _; rfl
          | true =>
            rw [Bool.not_true, Bool.false_and, Bool.and_false]
            cases d.1 == faultK <;> cases d.1 == resetK <;> intro e <;> cases e
        have := of_decide_eq_false this
        have : d.2.2.2.1.length = 0 := by omega
        rw [List.eq_nil_of_length_eq_zero this]; rfl
    have hs1 : go_coupletlaw20_same (rdX d).1 (PV.nl (wordPV (rdX d).2.1)) (PV.ex (wordPV (rdX d).2.1)) (PV.ints (wordPV (rdX d).2.1)) (rdX d).2.2.1 (rdX d).2.2.2.1 (rdX d).2.2.2.2 d.1 d.2.1 d.2.2.1 d.2.2.2.1 d.2.2.2.2.1 d.2.2.2.2.2.1 d.2.2.2.2.2.2 = some true := by
      refine same_law ?_ ?_
      · rw [word_ints, hw]; exact hf.bB
      · rw [word_ints, hw]
    change (go_coupletlaw20_same (rdX d).1 (PV.nl (wordPV (rdX d).2.1)) (PV.ex (wordPV (rdX d).2.1)) (PV.ints (wordPV (rdX d).2.1)) (rdX d).2.2.1 (rdX d).2.2.2.1 (rdX d).2.2.2.2 d.1 d.2.1 d.2.2.1 d.2.2.2.1 d.2.2.2.2.1 d.2.2.2.2.2.1 d.2.2.2.2.2.2).bind _ = _
    rw [hs1]; rfl
  · left
    rw [df (show ¬ (i : Int) < ((ds.length : Nat) : Int) by omega), cond_false]
theorem true_FlightPrints {ds : List DX} (hB : ∀ d ∈ ds, isB d.1 ∧ isB d.2.2.2.1 ∧ in64 d.2.2.2.2.1 ∧ in64 d.2.2.2.2.2.1 ∧ in64 d.2.2.2.2.2.2) (nl ex : Bool) : go_coupletlaw20_FlightPrints nl ex (ds.map doX) = some true := by
  unfold go_coupletlaw20_FlightPrints
  obtain ⟨r, h1, h2⟩ := few_do (ds := ds) nl ex
  rw [h1, Option.bind_some]
  cases r with
  | false => rw [awake_law]; rfl
  | true =>
    obtain ⟨hl, hf⟩ := h2 rfl
    have h : ∀ d ∈ ds, FitX d := fun d hd => by
      obtain ⟨q1, q2⟩ := hf d hd
      obtain ⟨a1, a2, a3, a4, a5⟩ := hB d hd
      exact ⟨by omega, a1, a2, by omega, a3, a4, a5⟩
    rw [Bool.not_true, cond_false, prints_loop0 h hl, Option.bind_some]
    dsimp only [Sum.elim_inl]
    rw [print_law h (by omega), Option.bind_some]
    cases hr : ds.all rightX with
    | false => rw [awake_law]; rfl
    | true =>
      obtain ⟨b1, b2, ht⟩ := trip_law h hr hl
      dsimp only [Bool.not_true, cond_false, cond_true]
      rw [ht, Option.bind_some]
      dsimp only
      have e1 : (((((ds.map rdX).map doPV).length : Nat) : Int) != (((ds.map doX).length : Nat) : Int)) = false := by
        rw [List.length_map, List.length_map, List.length_map, bne_self_eq_false]
      have e2 : (((max ds.length 1 : Nat) : Int) != max (((ds.map doX).length : Nat) : Int) 1) = false := by
        rw [List.length_map, bne_eq_false_iff_eq]; omega
      rw [show ((0 : Int) != 0) = false from rfl, e1, e2, prints_loop1 h hr hl, Option.bind_some, awake_law]; rfl
end Go.Proofs
end
set_option linter.unusedVariables false
set_option maxRecDepth 100000
noncomputable section
namespace Go.Proofs
open Go Go.Fx
end Go.Proofs
end
set_option linter.unusedVariables false
set_option maxRecDepth 100000
noncomputable section
namespace Go.Proofs
open Go Go.Fx
end Go.Proofs
end
set_option linter.unusedVariables false
set_option linter.unusedSimpArgs false
noncomputable section
namespace Go.Proofs
open Go Go.Fx
end Go.Proofs
end
