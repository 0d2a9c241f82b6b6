/-
  Layer 14: rows of frames; parts.
-/
import Derived.Test.YtjpfdipoijehcaaWLA2
set_option linter.unusedSimpArgs false
set_option linter.unusedVariables false
namespace Go.Proofs
open Go Go.Fx

theorem ok_frame (a b c : Int) (nil ex : Bool) (l : List Int) : Shp.ok (.agg [(.int .i64), (.int .i64), (.int .i64), (.isl .i64)]) (.agg [.int .i64 a, .int .i64 b, .int .i64 c, .isl nil ex .i64 l]) = true := rfl

theorem frame_of {e : PV} (h : ∃ ys, e = mkP true ys ∧ TS.fitsL [(.int .i64), (.int .i64), (.int .i64), (.isl .i64)] ys) : ∃ a b c nil ex l, e = .agg [.int .i64 a, .int .i64 b, .int .i64 c, .isl nil ex .i64 l] ∧ (Lit.int .i64 a).wf = true ∧ (Lit.int .i64 b).wf = true ∧ (Lit.int .i64 c).wf = true ∧
    l.length ≤ maxLen ∧ (∀ n ∈ l, (Lit.int .i64 n).wf = true) ∧ (nil = true → l = []) := by
  obtain ⟨ys, rfl, h⟩ := h
  obtain ⟨y0, z0, rfl, f0, t1⟩ := TS.cons_inv h
  obtain ⟨a, rfl, w0⟩ := fits_int f0
  obtain ⟨y1, z1, rfl, f1, t2⟩ := TS.cons_inv t1
  obtain ⟨b, rfl, w1⟩ := fits_int f1
  obtain ⟨y2, z2, rfl, f2, t3⟩ := TS.cons_inv t2
  obtain ⟨c, rfl, w2⟩ := fits_int f2
  obtain ⟨y3, z3, rfl, f3, t4⟩ := TS.cons_inv t3
  obtain ⟨nil, ex, l, rfl, w3, w4, w5⟩ := fits_isl f3
  obtain rfl := TS.nil_inv t4
  exact ⟨a, b, c, nil, ex, l, rfl, w0, w1, w2, w3, w4, w5⟩

/-- What is known of the places: p is behind all, q behind those that were taken; the last taken has this N and Seq. -/
def PlOk (some : Bool) (p q : Bool × Int × Int) (seq n : Int) : Prop := (some = false ∧ p = (false, 0, 0) ∧ q = (false, 0, 0)) ∨ (some = true ∧ p = q ∧ p = (true, n, seq))

theorem law_CheckRow {b0 b1 : Bool} {es : List PV} (hl : es.length ≤ maxLen) (hn : b0 = true → es = []) (he : ∀ e ∈ es, ∃ ys, e = mkP true ys ∧ TS.fitsL [(.int .i64), (.int .i64), (.int .i64), (.isl .i64)] ys) : go_coupletlaw14_CheckRow b0 b1 es = some true := by
  unfold go_coupletlaw14_CheckRow
  rw [awake14]
  by_cases h12 : ((es.length : Nat) : Int) > 12
  · simp [h12]
  simp only [h12, decide_false, cond_false]
  have hlen : es.length ≤ 12 := by omega
  clear hl h12
  have key := loop_rule (step := fun x : (Bool × Bool × Bool × List PV × Int × Int × Bool × Int × Int × Bool × Int × Int × Int × Int × Int × Bool × Bool × List Int) => st_coupletlaw14_CheckRow_0 x.1 x.2.1 x.2.2.1 x.2.2.2.1 x.2.2.2.2.1 x.2.2.2.2.2.1 x.2.2.2.2.2.2.1 x.2.2.2.2.2.2.2.1 x.2.2.2.2.2.2.2.2.1 x.2.2.2.2.2.2.2.2.2.1 x.2.2.2.2.2.2.2.2.2.2.1 x.2.2.2.2.2.2.2.2.2.2.2.1 x.2.2.2.2.2.2.2.2.2.2.2.2.1 x.2.2.2.2.2.2.2.2.2.2.2.2.2.1 x.2.2.2.2.2.2.2.2.2.2.2.2.2.2.1 x.2.2.2.2.2.2.2.2.2.2.2.2.2.2.2.1 x.2.2.2.2.2.2.2.2.2.2.2.2.2.2.2.2.1 x.2.2.2.2.2.2.2.2.2.2.2.2.2.2.2.2.2)
    (fun x => ∃ (k : Nat) (sm : Bool) (p1 : Bool) (p2 p3 : Int) (q1 : Bool) (q2 q3 l1 l2 l3 : Int) (c1 c2 : Bool) (ll : List Int), x = (sm, b0, b1, es, ((es.length : Nat) : Int), (k : Int), p1, p2, p3, q1, q2, q3, l1, l2, l3, c1, c2, ll) ∧ k ≤ es.length ∧ PlOk sm (p1, p2, p3) (q1, q2, q3) l2 l3)
    (fun x => es.length - x.2.2.2.2.2.1.toNat)
    (fun y => (∃ sm p1 p2 p3 q1 q2 q3 l1 l2 l3 c1 c2 ll, y = .inl (sm, p1, p2, p3, q1, q2, q3, l1, l2, l3, c1, c2, ll) ∧ PlOk sm (p1, p2, p3) (q1, q2, q3) l2 l3) ∨ y = .inr true)
    (x := (false, b0, b1, es, ((es.length : Nat) : Int), 0, false, 0, 0, false, 0, 0, 0, 0, 0, true, true, [])) (fun x hx => ?_) ⟨0, false, false, 0, 0, false, 0, 0, 0, 0, 0, true, true, [], rfl, Nat.zero_le _, .inl ⟨rfl, rfl, rfl⟩⟩ (by dsimp only; omega)
  · obtain ⟨y, hy, hq⟩ := key
    have hy : lp_coupletlaw14_CheckRow_0 false b0 b1 es ((es.length : Nat) : Int) 0 false 0 0 false 0 0 0 0 0 true true [] = some y := hy
    rw [hy]
    rcases hq with ⟨sm, p1, p2, p3, q1, q2, q3, l1, l2, l3, c1, c2, ll, rfl, hp⟩ | rfl
    · rcases hp with ⟨rfl, hp, hq⟩ | ⟨rfl, hp, hq⟩
      · cases hp; cases hq; rfl
      · cases hp; cases hq
        simp
    · rfl
  · obtain ⟨k, sm, p1, p2, p3, q1, q2, q3, l1, l2, l3, c1, c2, ll, rfl, hk, hpl⟩ := hx
    dsimp only
    by_cases hke : k = es.length
    · subst hke
      refine .inl ⟨_, ?_, .inl ⟨sm, p1, p2, p3, q1, q2, q3, l1, l2, l3, c1, c2, ll, rfl, hpl⟩⟩
      simp [st_coupletlaw14_CheckRow_0]
    · have h1 : (k : Int) < ((es.length : Nat) : Int) := by omega
      have h2 : (0 : Int) ≤ (k : Int) := by omega
      have h3 : k < es.length := by omega
      have h7 : IntKind.wrap .i64 ((k : Int) + 1) = ((k + 1 : Nat) : Int) := by rw [w64 (by omega) (by omega)]; rfl
      have hmem : es.getD k .nilSl ∈ es := by
        rw [List.getD_eq_getElem?_getD, List.getElem?_eq_getElem h3]; exact List.getElem_mem h3
      obtain ⟨a, b, c, nil, ex, l, hek, wa, wb, wc, hll, hw, hnl⟩ := frame_of (he _ hmem)
      have e4 : (PV.cells (.agg [.int .i64 a, .int .i64 b, .int .i64 c, .isl nil ex .i64 l])).length = 4 := rfl
      have ec : PV.cells (.agg [.int .i64 a, .int .i64 b, .int .i64 c, .isl nil ex .i64 l]) = [.int .i64 a, .int .i64 b, .int .i64 c, .isl nil ex .i64 l] := rfl
      have g0 : PV.num (List.headD (PV.subs (.agg [.int .i64 a, .int .i64 b, .int .i64 c, .isl nil ex .i64 l])) .nilSl) = a := rfl
      have g1 : PV.num (List.headD (List.tail (PV.subs (.agg [.int .i64 a, .int .i64 b, .int .i64 c, .isl nil ex .i64 l]))) .nilSl) = b := rfl
      have g2 : PV.num (List.headD (List.tail (List.tail (PV.subs (.agg [.int .i64 a, .int .i64 b, .int .i64 c, .isl nil ex .i64 l])))) .nilSl) = c := rfl
      have g3 : PV.nl (List.headD (List.tail (List.tail (List.tail (PV.subs (.agg [.int .i64 a, .int .i64 b, .int .i64 c, .isl nil ex .i64 l]))))) .nilSl) = nil := rfl
      have g4 : PV.ex (List.headD (List.tail (List.tail (List.tail (PV.subs (.agg [.int .i64 a, .int .i64 b, .int .i64 c, .isl nil ex .i64 l]))))) .nilSl) = ex := rfl
      have g5 : PV.ints (List.headD (List.tail (List.tail (List.tail (PV.subs (.agg [.int .i64 a, .int .i64 b, .int .i64 c, .isl nil ex .i64 l]))))) .nilSl) = l := rfl
      simp only [st_coupletlaw14_CheckRow_0, h1, h2, h3, h7, Int.toNat_natCast, hek, ec, show ([.int .i64 a, .int .i64 b, .int .i64 c, .isl nil ex .i64 l] : List PV).length = 4 from rfl, ok_frame, g0, g1, g2, g3, g4, g5, decide_true, cond_true, awake14, check_Next hll hnl, check_Behind hll hnl, Option.bind_some]
      by_cases h40 : ((l.length : Nat) : Int) > 40
      · exact .inl ⟨.inr true, by simp only [h40, decide_true, cond_true], .inr rfl⟩
      refine .inr ?_
      simp only [h40, decide_false, cond_false]
      by_cases ht : nextZ p1 p2 p3 a b c l = 0
      · have hq : nextZ q1 q2 q3 a b c l = 0 ∧ (q1, q2, q3) = (p1, p2, p3) := by
          rcases hpl with ⟨_, e1, e2⟩ | ⟨_, e1, _⟩
          · simp only [Prod.mk.injEq] at e1 e2
            obtain ⟨rfl, rfl, rfl⟩ := e1
            obtain ⟨rfl, rfl, rfl⟩ := e2
            exact ⟨ht, rfl⟩
          · simp only [Prod.mk.injEq] at e1
            obtain ⟨rfl, rfl, rfl⟩ := e1
            exact ⟨ht, rfl⟩
        simp only [ht, hq.1, if_true, show ((0 : Int) == 0) = true from rfl, cond_true]
        exact ⟨_, rfl, ⟨k + 1, true, true, c, b, true, c, b, a, b, c, nil, ex, l, rfl, by omega, .inr ⟨rfl, rfl, rfl⟩⟩, by dsimp only; omega⟩
      · simp only [ht, if_false, ibeq, decide_false, cond_false]
        exact ⟨_, rfl, ⟨k + 1, sm, p1, p2, p3, q1, q2, q3, l1, l2, l3, c1, c2, ll, rfl, by omega, hpl⟩, by dsimp only; omega⟩


/-- Over one part. -/
theorem part_inner {b28 b29 : Bool} {l30 : List Int} {a : Nat} {b32 b33 : Bool} {es34 : List PV} {n35 n36 : Int} {b37 b38 : Bool} {c : Nat} {n42 n43 n44 : Int} {b45 b46 : Bool} {l : List Int} (ha : a + c ≤ l.length) (h1000 : l.length ≤ 1000) :
    lp_coupletlaw14_CheckParts_1 b28 b29 l30 (a : Int) b32 b33 es34 n35 n36 b37 b38 ((l.drop a).take c) ((((l.drop a).take c).length : Nat) : Int) 0 n42 n43 n44 b45 b46 l = some (.inl (b28, b29, l30, ((a + c : Nat) : Int), b32, b33, es34, n35, n36, n42, n43, n44, b45, b46, l)) := by
  unfold lp_coupletlaw14_CheckParts_1
  have hx : ((l.drop a).take c).length = c := by simp only [List.length_take, List.length_drop]; omega
  refine loop_fold (step := fun x : (Bool × Bool × List Int × Int × Bool × Bool × List PV × Int × Int × Bool × Bool × List Int × Int × Int × Int × Int × Int × Bool × Bool × List Int) => st_coupletlaw14_CheckParts_1 x.1 x.2.1 x.2.2.1 x.2.2.2.1 x.2.2.2.2.1 x.2.2.2.2.2.1 x.2.2.2.2.2.2.1 x.2.2.2.2.2.2.2.1 x.2.2.2.2.2.2.2.2.1 x.2.2.2.2.2.2.2.2.2.1 x.2.2.2.2.2.2.2.2.2.2.1 x.2.2.2.2.2.2.2.2.2.2.2.1 x.2.2.2.2.2.2.2.2.2.2.2.2.1 x.2.2.2.2.2.2.2.2.2.2.2.2.2.1 x.2.2.2.2.2.2.2.2.2.2.2.2.2.2.1 x.2.2.2.2.2.2.2.2.2.2.2.2.2.2.2.1 x.2.2.2.2.2.2.2.2.2.2.2.2.2.2.2.2.1 x.2.2.2.2.2.2.2.2.2.2.2.2.2.2.2.2.2.1 x.2.2.2.2.2.2.2.2.2.2.2.2.2.2.2.2.2.2.1 x.2.2.2.2.2.2.2.2.2.2.2.2.2.2.2.2.2.2.2)
    (fun j => (b28, b29, l30, ((a + j : Nat) : Int), b32, b33, es34, n35, n36, b37, b38, (l.drop a).take c, ((((l.drop a).take c).length : Nat) : Int), (j : Int), n42, n43, n44, b45, b46, l)) _ c (by omega) (fun j hj => ?_) ?_
  · have h1 : (j : Int) < ((((l.drop a).take c).length : Nat) : Int) := by omega
    have h2 : (0 : Int) ≤ (j : Int) := by omega
    have h3 : j < ((l.drop a).take c).length := by omega
    have h4 : (0 : Int) ≤ ((a + j : Nat) : Int) := by omega
    have h5 : ((a + j : Nat) : Int) < ((l.length : Nat) : Int) := by omega
    have h6 : a + j < l.length := by omega
    have h7 : IntKind.wrap .i64 ((j : Int) + 1) = ((j + 1 : Nat) : Int) := by rw [w64 (by omega) (by omega)]; rfl
    have h8 : IntKind.wrap .i64 (((a + j : Nat) : Int) + 1) = ((a + (j + 1) : Nat) : Int) := by rw [w64 (by omega) (by omega)]; rfl
    have h9 : ((l.drop a).take c).getD j 0 = l.getD (a + j) 0 := by
      simp only [List.getD_eq_getElem?_getD]
      rw [List.getElem?_take_of_lt hj, List.getElem?_drop]
    simp only [st_coupletlaw14_CheckParts_1, h1, h2, h3, h4, h5, h6, h7, h8, h9, Int.toNat_natCast, decide_true, cond_true, bne_self_eq_false, cond_false]
  · have h1 : ¬ (c : Int) < ((((l.drop a).take c).length : Nat) : Int) := by omega
    simp only [st_coupletlaw14_CheckParts_1, h1, decide_false, cond_false]

/-- One part of the parts. -/
theorem part_outer {b13 b14 : Bool} {want : List Int} {a : Nat} {b17 b18 : Bool} {es : List PV} {n20 : Int} {k : Nat} {n22 n23 n24 : Int} {b25 b26 : Bool} {l : List Int} {c : Nat} (hk : (k : Int) < n20) (hke : k < es.length) (hkw : k < want.length) (hx : es.getD k .nilSl = .isl false false .i64 ((l.drop a).take c)) (hwant : want.getD k 0 = (c : Int))
    (ha : a + c ≤ l.length) (h1000 : l.length ≤ 1000) (hes : es.length ≤ 1000) (hw : want.length ≤ 1000) :
    st_coupletlaw14_CheckParts_0 b13 b14 want (a : Int) b17 b18 es n20 (k : Int) n22 n23 n24 b25 b26 l = some (.inl (b13, b14, want, ((a + c : Nat) : Int), b17, b18, es, n20, ((k + 1 : Nat) : Int), n22, n23, n24, b25, b26, l)) := by
  have h2 : (0 : Int) ≤ (k : Int) := by omega
  have h3 : (k : Int) < ((es.length : Nat) : Int) := by omega
  have h5 : (k : Int) < ((want.length : Nat) : Int) := by omega
  have q1 : PV.scal (es.getD k .nilSl) = true := by rw [hx]; rfl
  have q2 : Shp.ok (.isl .i64) (es.getD k .nilSl) = true := by rw [hx]; rfl
  have q3 : PV.ints (es.getD k .nilSl) = (l.drop a).take c := by rw [hx]; rfl
  have q4 : PV.nl (es.getD k .nilSl) = false := by rw [hx]; rfl
  have q5 : PV.ex (es.getD k .nilSl) = false := by rw [hx]; rfl
  have hl : ((l.drop a).take c).length = c := by simp only [List.length_take, List.length_drop]; omega
  have h7 : IntKind.wrap .i64 ((k : Int) + 1) = ((k + 1 : Nat) : Int) := by rw [w64 (by omega) (by omega)]; rfl
  have hin := part_inner (b28 := b13) (b29 := b14) (l30 := want) (b32 := b17) (b33 := b18) (es34 := es) (n35 := n20) (n36 := (k : Int)) (b37 := false) (b38 := false) (n42 := n22) (n43 := n23) (n44 := n24) (b45 := b25) (b46 := b26) ha h1000
  simp only [st_coupletlaw14_CheckParts_0, hk, h2, h3, hke, h5, hkw, Int.toNat_natCast, q1, q2, q3, q4, q5, hwant, hin, decide_true, cond_true, Option.bind_some, Sum.elim_inl, h7]
  rw [hl]
  simp only [bne_self_eq_false, cond_false]
theorem part_done {b13 b14 : Bool} {want : List Int} {a : Int} {b17 b18 : Bool} {es : List PV} {n20 k : Int} {n22 n23 n24 : Int} {b25 b26 : Bool} {l : List Int} (hk : ¬ k < n20) :
    st_coupletlaw14_CheckParts_0 b13 b14 want a b17 b18 es n20 k n22 n23 n24 b25 b26 l = some (.inr (.inl (a, n22, n23, n24, b25, b26, l))) := by
  simp only [st_coupletlaw14_CheckParts_0, hk, decide_false, cond_false]

theorem parts_two {b13 b14 b17 b18 b25 b26 : Bool} {l : List Int} {c1 c2 : Nat} {n22 n23 n24 : Int} (hl : c1 + c2 = l.length) (h1000 : l.length ≤ 1000) :
    lp_coupletlaw14_CheckParts_0 b13 b14 [(c1 : Int), (c2 : Int)] 0 b17 b18 [.isl false false .i64 (l.take c1), .isl false false .i64 (l.drop c1)] 2 0 n22 n23 n24 b25 b26 l = some (.inl ((l.length : Int), n22, n23, n24, b25, b26, l)) := by
  unfold lp_coupletlaw14_CheckParts_0
  refine loopN_of 3 (by decide) ?_
  have e1 : l.take c1 = (l.drop 0).take c1 := rfl
  have e2 : l.drop c1 = (l.drop (0 + c1)).take c2 := by rw [Nat.zero_add]; exact (List.take_of_length_le (by simp only [List.length_drop]; omega)).symm
  have s0 := part_outer (b13 := b13) (b14 := b14) (want := [(c1 : Int), (c2 : Int)]) (a := 0) (b17 := b17) (b18 := b18) (es := [.isl false false .i64 (l.take c1), .isl false false .i64 (l.drop c1)]) (n20 := 2) (k := 0) (n22 := n22) (n23 := n23) (n24 := n24) (b25 := b25) (b26 := b26) (l := l) (c := c1) (by decide) (by simp) (by simp) (by rw [← e1]; rfl) rfl (by omega) h1000 (by simp) (by simp)
  have s1 := part_outer (b13 := b13) (b14 := b14) (want := [(c1 : Int), (c2 : Int)]) (a := 0 + c1) (b17 := b17) (b18 := b18) (es := [.isl false false .i64 (l.take c1), .isl false false .i64 (l.drop c1)]) (n20 := 2) (k := 1) (n22 := n22) (n23 := n23) (n24 := n24) (b25 := b25) (b26 := b26) (l := l) (c := c2) (by decide) (by simp) (by simp) (by rw [← e2]; rfl) rfl (by omega) h1000 (by simp) (by simp)
  rw [iterN]
  erw [s0]
  dsimp only
  rw [iterN]
  erw [s1]
  dsimp only
  rw [iterN, part_done (by dsimp only; omega)]
  have : ((0 + c1 + c2 : Nat) : Int) = (l.length : Int) := by omega
  rw [this]
theorem parts_three {b13 b14 b17 b18 b25 b26 : Bool} {l : List Int} {c1 c2 c3 : Nat} {n22 n23 n24 : Int} (hl : c1 + c2 + c3 = l.length) (h1000 : l.length ≤ 1000) :
    lp_coupletlaw14_CheckParts_0 b13 b14 [(c1 : Int), (c2 : Int), (c3 : Int)] 0 b17 b18 [.isl false false .i64 (l.take c1), .isl false false .i64 ((l.drop c1).take c2), .isl false false .i64 (l.drop (c1 + c2))] 3 0 n22 n23 n24 b25 b26 l = some (.inl ((l.length : Int), n22, n23, n24, b25, b26, l)) := by
  unfold lp_coupletlaw14_CheckParts_0
  refine loopN_of 4 (by decide) ?_
  have e1 : l.take c1 = (l.drop 0).take c1 := rfl
  have e2 : (l.drop c1).take c2 = (l.drop (0 + c1)).take c2 := by rw [Nat.zero_add]
  have e3 : l.drop (c1 + c2) = (l.drop (0 + c1 + c2)).take c3 := by rw [Nat.zero_add]; exact (List.take_of_length_le (by simp only [List.length_drop]; omega)).symm
  have s0 := part_outer (b13 := b13) (b14 := b14) (want := [(c1 : Int), (c2 : Int), (c3 : Int)]) (a := 0) (b17 := b17) (b18 := b18) (es := [.isl false false .i64 (l.take c1), .isl false false .i64 ((l.drop c1).take c2), .isl false false .i64 (l.drop (c1 + c2))]) (n20 := 3) (k := 0) (n22 := n22) (n23 := n23) (n24 := n24) (b25 := b25) (b26 := b26) (l := l) (c := c1) (by decide) (by simp) (by simp) (by rw [← e1]; rfl) rfl (by omega) h1000 (by simp) (by simp)
  have s1 := part_outer (b13 := b13) (b14 := b14) (want := [(c1 : Int), (c2 : Int), (c3 : Int)]) (a := 0 + c1) (b17 := b17) (b18 := b18) (es := [.isl false false .i64 (l.take c1), .isl false false .i64 ((l.drop c1).take c2), .isl false false .i64 (l.drop (c1 + c2))]) (n20 := 3) (k := 1) (n22 := n22) (n23 := n23) (n24 := n24) (b25 := b25) (b26 := b26) (l := l) (c := c2) (by decide) (by simp) (by simp) (by rw [← e2]; rfl) rfl (by omega) h1000 (by simp) (by simp)
  have s2 := part_outer (b13 := b13) (b14 := b14) (want := [(c1 : Int), (c2 : Int), (c3 : Int)]) (a := 0 + c1 + c2) (b17 := b17) (b18 := b18) (es := [.isl false false .i64 (l.take c1), .isl false false .i64 ((l.drop c1).take c2), .isl false false .i64 (l.drop (c1 + c2))]) (n20 := 3) (k := 2) (n22 := n22) (n23 := n23) (n24 := n24) (b25 := b25) (b26 := b26) (l := l) (c := c3) (by decide) (by simp) (by simp) (by rw [← e3]; rfl) rfl (by omega) h1000 (by simp) (by simp)
  rw [iterN]
  erw [s0]
  dsimp only
  rw [iterN]
  erw [s1]
  dsimp only
  rw [iterN]
  erw [s2]
  dsimp only
  rw [iterN, part_done (by dsimp only; omega)]
  have : ((0 + c1 + c2 + c3 : Nat) : Int) = (l.length : Int) := by omega
  rw [this]

/-- Whether the parts' numbers are these, one behind the other. -/
theorem law_CheckParts {n0 n1 n2 : Int} {b3 b4 : Bool} {l : List Int} (w0 : (Lit.int .i64 n0).wf = true) (w1 : (Lit.int .i64 n1).wf = true) (w2 : (Lit.int .i64 n2).wf = true) (hl : l.length ≤ maxLen) (hw : ∀ n ∈ l, (Lit.int .i64 n).wf = true) (hn : b3 = true → l = []) :
    go_coupletlaw14_CheckParts n0 n1 n2 b3 b4 l = some true := by
  unfold go_coupletlaw14_CheckParts go_coupletlaw12_Given
  rw [awake14]
  simp only [Option.bind_some]
  rw [ref_Right _ _ (wf_i64 w0).1 (wf_i64 w0).2 hl]
  by_cases h40 : ((l.length : Nat) : Int) > 40
  · simp [h40]
  simp only [h40, decide_false, cond_false, Option.bind_some]
  cases h : okF n0 n1 n2 l with
  | false =>
    rw [parts_bad hl h]
    simp only [Option.bind_some, Bool.not_false, cond_true, List.length_nil, show (((0 : Nat) : Int) == 0) = true from rfl]
    by_cases h1 : n2 < 1
    · simp [h1]
    · by_cases h2 : n2 > 4 <;> simp [h1, h2]
  | true =>
    obtain ⟨hcn, hk, _, _, _⟩ := okF_cases h
    have hlen : l.length ≤ 1000 ∧ 1 ≤ l.length := by
      rcases hcn with rfl | rfl | rfl | rfl <;> rcases hk with ⟨_, hk⟩ | ⟨_, hk⟩ | ⟨_, hk⟩ <;> omega
    have hb3 : b3 = false := by
      cases b3 with
      | false => rfl
      | true => rw [hn rfl] at hlen; simp at hlen
    subst hb3
    have h1 : ¬ n2 < 1 := by rcases hcn with rfl | rfl | rfl | rfl <;> decide
    have h2 : ¬ n2 > 4 := by rcases hcn with rfl | rfl | rfl | rfl <;> decide
    rw [parts_run hl h]
    simp only [Option.bind_some, h1, h2, decide_false, cond_false, Bool.not_true]
    have hsq : IntKind.wrap .i64 (n2 * n2) = n2 * n2 := by rcases hcn with rfl | rfl | rfl | rfl <;> rfl
    have hsq0 : 0 ≤ n2 * n2 := by rcases hcn with rfl | rfl | rfl | rfl <;> decide
    have hn0 : 0 ≤ n2 := by rcases hcn with rfl | rfl | rfl | rfl <;> decide
    obtain ⟨N, rfl⟩ : ∃ N : Nat, n2 = (N : Int) := ⟨n2.toNat, by omega⟩
    obtain ⟨M, hM⟩ : ∃ M : Nat, (N : Int) * (N : Int) = (M : Int) := ⟨((N : Int) * (N : Int)).toNat, by omega⟩
    rw [hsq, hM]
    clear hsq hsq0 h1 h2
    rcases hk with ⟨rfl, hk⟩ | ⟨rfl, hk⟩ | ⟨rfl, hk⟩
    · have := parts_two (b13 := false) (b14 := true) (b17 := false) (b18 := false) (b25 := false) (b26 := b4) (l := l) (c1 := N) (c2 := M) (n22 := 1) (n23 := n1) (n24 := (N : Int)) (by omega) hlen.1
      have hp : partsL 1 (N : Int) l = [.isl false false .i64 (l.take N), .isl false false .i64 (l.drop N)] := by simp [partsL]
      rw [hp]
      simp only [show IntKind.wrap .i64 ((1 : Int) - 1) = 0 from rfl]
      change (bif true then bif true then bif true then bif true then bif true then bif false then some false else Option.bind (lp_coupletlaw14_CheckParts_0 false true [(N : Int), (M : Int)] 0 false false [.isl false false .i64 (l.take N), .isl false false .i64 (l.drop N)] 2 0 1 n1 (N : Int) false b4 l) _ else none else none else none else none else none) = _
      rw [this]
      simp
    · have := parts_two (b13 := false) (b14 := true) (b17 := false) (b18 := false) (b25 := false) (b26 := b4) (l := l) (c1 := M) (c2 := M) (n22 := 2) (n23 := n1) (n24 := (N : Int)) (by rw [Int.mul_assoc, hM] at hk; omega) hlen.1
      have hp : partsL 2 (N : Int) l = [.isl false false .i64 (l.take M), .isl false false .i64 (l.drop M)] := by simp [partsL, hM]
      rw [hp]
      simp only [show IntKind.wrap .i64 ((2 : Int) - 1) = 1 from rfl]
      change (bif true then bif true then bif true then bif true then bif true then bif false then some false else Option.bind (lp_coupletlaw14_CheckParts_0 false true [(M : Int), (M : Int)] 0 false false [.isl false false .i64 (l.take M), .isl false false .i64 (l.drop M)] 2 0 2 n1 (N : Int) false b4 l) _ else none else none else none else none else none) = _
      rw [this]
      simp
    · have := parts_three (b13 := false) (b14 := true) (b17 := false) (b18 := false) (b25 := false) (b26 := b4) (l := l) (c1 := N) (c2 := 1) (c3 := 1) (n22 := 3) (n23 := n1) (n24 := (N : Int)) (by omega) hlen.1
      have hp : partsL 3 (N : Int) l = [.isl false false .i64 (l.take N), .isl false false .i64 ((l.drop N).take 1), .isl false false .i64 (l.drop (N + 1))] := by simp [partsL]
      rw [hp]
      simp only [show IntKind.wrap .i64 ((3 : Int) - 1) = 2 from rfl]
      change (bif true then bif true then bif true then bif true then bif true then bif false then some false else Option.bind (lp_coupletlaw14_CheckParts_0 false true [(N : Int), ((1 : Nat) : Int), ((1 : Nat) : Int)] 0 false false [.isl false false .i64 (l.take N), .isl false false .i64 ((l.drop N).take 1), .isl false false .i64 (l.drop (N + 1))] 3 0 3 n1 (N : Int) false b4 l) _ else none else none else none else none else none) = _
      rw [this]
      simp

end Go.Proofs
