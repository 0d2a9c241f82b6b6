/-
  The laws VecSteps and VecEncloses (plain).
-/
import Derived.Test.YtbfhholefjngpaaWLE2c
import Derived.Test.YtbfhholefjngpaaWGV2
set_option linter.unusedSimpArgs false
set_option linter.unusedVariables false
set_option maxRecDepth 100000
namespace Go.Proofs
open Go Go.Fx Go.Mdlaw Go.Rootlaw Go.Cmplaw
theorem least_snoc (L : List Int) (x : Int) : least (L ++ [x]) = if L = [] then x else min (least L) x := by
  cases L with
  | nil => rfl
  | cons y L => show (L ++ [x]).foldl min y = _; rw [List.foldl_append]; rfl
theorem greatest_snoc (L : List Int) (x : Int) : greatest (L ++ [x]) = if L = [] then x else max (greatest L) x := by
  cases L with
  | nil => rfl
  | cons y L => show (L ++ [x]).foldl max y = _; rw [List.foldl_append]; rfl
theorem isAll_snoc (f : Fn) (P : List (Int × Int)) (p : Int × Int) : isAll f (P ++ [p]) = (isAll f P && ((f p.1 p.2 1).2 && (f p.1 p.2 2).2)) := by
  unfold isAll; rw [List.all_append]; simp
def rowOf (p : Int × Int) : PV := .isl false true .i64 [p.1, p.2]
theorem do_step {w : Int} {b : Bool} {k : Nat} {es : List PV} {x y v lo hi : Int} {r1 r2 : Int × Bool} (hk : k < es.length) (hl : es.length < 100) (he : es.getD k .nilSl = .isl false true .i64 [x, y])
    (e1 : go_coupletref03_one w x y 1 = some r1) (e2 : go_coupletref03_one w x y 2 = some r2) :
    st_coupletref03_Do_0 w b (k : Int) 0 0 0 false 0 0 0 true false true es v lo hi false =
      some (.inl (w, b && (r1.2 && r2.2), ((k + 1 : Nat) : Int), 0, 0, 0, false, 0, 0, 0, true, false, true, es, v, (if k = 0 then r1.1 else min lo r1.1), (if k = 0 then r2.1 else max hi r2.1), false)) := by
  have h1 : (k : Int) < ((es.length : Nat) : Int) := by omega
  have h2 : (0 : Int) ≤ (k : Int) := by omega
  have h7 : IntKind.wrap .i64 ((k : Int) + 1) = ((k + 1 : Nat) : Int) := by rw [w64 (by omega) (by omega)]; rfl
  have h8 : ((k : Int) == 0) = decide (k = 0) := by
    rw [ibeq]; congr 1; apply propext; omega
  have g1 : PV.scal (.isl false true .i64 [x, y]) = true := rfl
  have g2 : Shp.ok (.isl .i64) (.isl false true .i64 [x, y]) = true := rfl
  have g3 : PV.ints (.isl false true .i64 [x, y]) = [x, y] := rfl
  have g4 : (decide ((0 : Int) < (((List.length [x, y]) : Nat) : Int))) = true := rfl
  have g5 : (decide ((1 : Int) < (((List.length [x, y]) : Nat) : Int))) = true := rfl
  have g6 : (decide (0 < (List.length [x, y]))) = true := rfl
  have g7 : (decide (1 < (List.length [x, y]))) = true := rfl
  have g8 : List.getD [x, y] 0 0 = x := rfl
  have g9 : List.getD [x, y] 1 0 = y := rfl
  unfold st_coupletref03_Do_0
  simp only [h1, h2, hk, Int.toNat_natCast, decide_true, cond_true, he, g1, g2, g3, g4, g5, g6, g7, g8, g9, e1, e2, Option.bind_some, h7, h8]
  have m1 : min lo r1.1 = if r1.1 < lo then r1.1 else lo := by split <;> omega
  have m2 : max hi r2.1 = if r2.1 > hi then r2.1 else hi := by split <;> omega
  rw [m1, m2]
  obtain ⟨v1, o1⟩ := r1
  obtain ⟨v2, o2⟩ := r2
  by_cases c0 : k = 0
  · cases b <;> cases o1 <;> simp [c0]
  · by_cases c1 : v1 < lo <;> by_cases c2 : v2 > hi <;> cases b <;> cases o1 <;> simp [c0, c1, c2]
theorem do_loop {w v : Int} {b : Bool} (f : Fn) (P : List (Int × Int)) (hP : P.length < 100)
    (e : ∀ p ∈ P, ∀ m : Int, 0 ≤ m ∧ m ≤ 2 → go_coupletref03_one w p.1 p.2 m = some (f p.1 p.2 m)) :
    lp_coupletref03_Do_0 w b 0 0 0 0 false 0 0 0 true false true (P.map rowOf) v 0 0 false = some (b && isAll f P, 0, 0, 0, false, 0, 0, 0, true, v, least (lows f P), greatest (highs f P), false) := by
  have hlen : (P.map rowOf).length = P.length := List.length_map ..
  have key := loop_fold (step := fun x : (Int × Bool × Int × Int × Int × Int × Bool × Int × Int × Int × Bool × Bool × Bool × List PV × Int × Int × Int × Bool) => st_coupletref03_Do_0 x.1 x.2.1 x.2.2.1 x.2.2.2.1 x.2.2.2.2.1 x.2.2.2.2.2.1 x.2.2.2.2.2.2.1 x.2.2.2.2.2.2.2.1 x.2.2.2.2.2.2.2.2.1 x.2.2.2.2.2.2.2.2.2.1 x.2.2.2.2.2.2.2.2.2.2.1 x.2.2.2.2.2.2.2.2.2.2.2.1 x.2.2.2.2.2.2.2.2.2.2.2.2.1 x.2.2.2.2.2.2.2.2.2.2.2.2.2.1 x.2.2.2.2.2.2.2.2.2.2.2.2.2.2.1 x.2.2.2.2.2.2.2.2.2.2.2.2.2.2.2.1 x.2.2.2.2.2.2.2.2.2.2.2.2.2.2.2.2.1 x.2.2.2.2.2.2.2.2.2.2.2.2.2.2.2.2.2)
    (fun k => (w, b && isAll f (P.take k), ((k : Nat) : Int), 0, 0, 0, false, 0, 0, 0, true, false, true, P.map rowOf, v, least (lows f (P.take k)), greatest (highs f (P.take k)), false)) (b && isAll f P, 0, 0, 0, false, 0, 0, 0, true, v, least (lows f P), greatest (highs f P), false) P.length (by omega) (fun k hk => ?_) ?_
  · have h0 : ((w, b && isAll f (P.take 0), (((0 : Nat) : Nat) : Int), 0, 0, 0, false, 0, 0, 0, true, false, true, P.map rowOf, v, least (lows f (P.take 0)), greatest (highs f (P.take 0)), false) : (Int × Bool × Int × Int × Int × Int × Bool × Int × Int × Int × Bool × Bool × Bool × List PV × Int × Int × Int × Bool)) = (w, b, 0, 0, 0, 0, false, 0, 0, 0, true, false, true, P.map rowOf, v, 0, 0, false) := by
      rw [List.take_zero]
      have : isAll f [] = true := rfl
      rw [this, Bool.and_true]
      rfl
    rw [h0] at key
    exact key
  · have hg : (P.map rowOf).getD k .nilSl = .isl false true .i64 [(P[k]).1, (P[k]).2] := by
      rw [List.getD_eq_getElem?_getD, List.getElem?_map, List.getElem?_eq_getElem hk]; rfl
    have hp : P[k] ∈ P := List.getElem_mem hk
    have key := do_step (w := w) (b := b && isAll f (P.take k)) (k := k) (es := P.map rowOf) (v := v) (lo := least (lows f (P.take k))) (hi := greatest (highs f (P.take k))) (by omega) (by omega) hg (e _ hp 1 (by decide)) (e _ hp 2 (by decide))
    refine key.trans ?_
    have ht : P.take (k + 1) = P.take k ++ [P[k]] := by rw [List.take_add_one, List.getElem?_eq_getElem hk]; rfl
    have hn : (P.take k = []) ↔ k = 0 := by
      constructor
      · intro h; have := congrArg List.length h; rw [List.length_take, List.length_nil] at this; omega
      · rintro rfl; rfl
    have a1 : lows f (P.take (k + 1)) = lows f (P.take k) ++ [(f P[k].1 P[k].2 1).1] := by unfold lows; rw [ht, List.map_append]; rfl
    have a2 : highs f (P.take (k + 1)) = highs f (P.take k) ++ [(f P[k].1 P[k].2 2).1] := by unfold highs; rw [ht, List.map_append]; rfl
    have n1 : (lows f (P.take k) = []) ↔ k = 0 := by unfold lows; rw [List.map_eq_nil_iff]; exact hn
    have n2 : (highs f (P.take k) = []) ↔ k = 0 := by unfold highs; rw [List.map_eq_nil_iff]; exact hn
    rw [a1, a2, least_snoc, greatest_snoc, ht, isAll_snoc, Bool.and_assoc]
    simp only [n1, n2]
  · have h : ¬ (((P.length : Nat) : Int) < (((P.map rowOf).length : Nat) : Int)) := by omega
    rw [List.take_length]
    unfold st_coupletref03_Do_0
    simp only [h, decide_false, cond_false]
theorem do_end {w v : Int} {b : Bool} (f : Fn) (P : List (Int × Int)) (hP : P.length < 100)
    (e : ∀ p ∈ P, ∀ m : Int, 0 ≤ m ∧ m ≤ 2 → go_coupletref03_one w p.1 p.2 m = some (f p.1 p.2 m)) :
    ((lp_coupletref03_Do_0 w b 0 0 0 0 false 0 0 0 true false true (P.map rowOf) v 0 0 false).bind fun y =>
       bif (!y.1) then some (y.2.2.2.2.2.1, y.2.2.2.2.2.2.1, y.2.2.2.2.2.2.2.1, y.2.2.2.2.2.2.2.2.1)
       else some (y.2.2.2.2.2.2.2.2.2.1, y.2.2.2.2.2.2.2.2.2.2.1, y.2.2.2.2.2.2.2.2.2.2.2.1, y.2.2.2.2.2.2.2.2.2.2.2.2)) =
    some (if (b && isAll f P) = true then (v, least (lows f P), greatest (highs f P), false) else (0, 0, 0, true)) := by
  rw [do_loop f P hP e]
  cases (b && isAll f P) <;> rfl
def four (x : Nm) : Int × Int × Int × Bool := (x.v, x.lo, x.hi, x.bad)
theorem made_four (f : Fn) (a b : Nm) (P : List (Int × Int)) (ha : fine a = true) (hb : fine b = true) :
    (if ((f a.v b.v 0).2 && isAll f P) = true then ((f a.v b.v 0).1, least (lows f P), greatest (highs f P), false) else (0, 0, 0, true)) = four (made f a b P) := by
  unfold made
  rw [ha, hb, Bool.and_true, Bool.and_true]
  split <;> rfl
theorem made_wrong (f : Fn) (a b : Nm) (P : List (Int × Int)) (h : fine a = false ∨ fine b = false) : made f a b P = wrong := by
  unfold made
  rcases h with h | h <;> rw [h] <;> simp
theorem go_Do0 (a b : Nm) : go_coupletref03_Do 0 a.v a.lo a.hi a.bad b.v b.lo b.hi b.bad = some (four (nAdd a b)) := by
  unfold go_coupletref03_Do
  rw [go_fine a, go_fine b]
  simp only [Option.bind_some]
  cases ha : fine a
  · rw [nAdd, made_wrong _ _ _ _ (.inl ha)]; rfl
  cases hb : fine b
  · rw [nAdd, made_wrong _ _ _ _ (.inr hb)]; rfl
  rw [show ((0 : Int) == 3) = false from rfl, show ((0 : Int) == 0) = true from rfl, show ((0 : Int) == 1) = false from rfl]
  simp only [Bool.not_true, cond_false, cond_true, one0, Option.bind_some]
  rw [nAdd, ← made_four _ a b _ ha hb]
  exact do_end (fun x y _ => fAdd x y) [(a.lo, b.lo), (a.hi, b.hi)] (by simp) (fun p _ m _ => one0 _ _ _)
theorem go_Do2 (a b : Nm) : go_coupletref03_Do 2 a.v a.lo a.hi a.bad b.v b.lo b.hi b.bad = some (four (nMul a b)) := by
  unfold go_coupletref03_Do
  rw [go_fine a, go_fine b]
  simp only [Option.bind_some]
  cases ha : fine a
  · rw [nMul, made_wrong _ _ _ _ (.inl ha)]; rfl
  cases hb : fine b
  · rw [nMul, made_wrong _ _ _ _ (.inr hb)]; rfl
  rw [show ((2 : Int) == 3) = false from rfl, show ((2 : Int) == 0) = false from rfl, show ((2 : Int) == 4) = false from rfl, show ((2 : Int) == 1) = false from rfl]
  simp only [Bool.not_true, cond_false, cond_true, one2, Option.bind_some]
  rw [nMul, ← made_four _ a b _ ha hb]
  exact do_end fMul (pairs4 a b) (by simp [pairs4]) (fun p _ m _ => one2 _ _ _)
end Go.Proofs
set_option linter.unusedSimpArgs false
set_option linter.unusedVariables false
set_option maxRecDepth 100000
namespace Go.Proofs
open Go Go.Fx
def NP (a : Nm) : PV := .agg [.int .i64 a.v, .int .i64 a.lo, .int .i64 a.hi, .bool a.bad]
theorem wf64n {n : Int} (h : (Lit.int .i64 n).wf = true) : i64 n := by
  have := wf_i64 h
  unfold i64; omega
theorem nums_of {es : List PV} (c : ∀ e ∈ es, ∃ ys, e = mkP true ys ∧ TS.fitsL [.int .i64, .int .i64, .int .i64, .bool] ys) : ∃ A : List Nm, es = A.map NP ∧ ∀ a ∈ A, i64N a := by
  induction es with
  | nil => exact ⟨[], rfl, fun a h => by cases h⟩
  | cons e es ih =>
    obtain ⟨A, rfl, hA⟩ := ih fun x hx => c x (List.mem_cons_of_mem _ hx)
    obtain ⟨ys, rfl, t0⟩ := c e (List.mem_cons_self ..)
    obtain ⟨y0, zs0, rfl, f0, t1⟩ := TS.cons_inv t0
    obtain ⟨y1, zs1, rfl, f1, t2⟩ := TS.cons_inv t1
    obtain ⟨y2, zs2, rfl, f2, t3⟩ := TS.cons_inv t2
    obtain ⟨y3, zs3, rfl, f3, t4⟩ := TS.cons_inv t3
    obtain rfl := TS.nil_inv t4
    obtain ⟨n0, rfl, w0⟩ := fits_int f0
    obtain ⟨n1, rfl, w1⟩ := fits_int f1
    obtain ⟨n2, rfl, w2⟩ := fits_int f2
    obtain ⟨b, rfl⟩ := fits_bool f3
    exact ⟨⟨n0, n1, n2, b⟩ :: A, rfl, fun a h => (List.mem_cons.1 h).elim (fun e => by rw [e]; exact ⟨wf64n w0, wf64n w1, wf64n w2⟩) (hA a)⟩
theorem getD_NP {A : List Nm} {i : Nat} (h : i < A.length) : (A.map NP).getD i .nilSl = NP A[i] := by
  rw [List.getD_eq_getElem?_getD, List.getElem?_map, List.getElem?_eq_getElem h]; rfl
theorem nl4 (a : Nm) : decide (List.length (PV.cells (NP a)) = 4) = true := rfl
theorem no4 (a : Nm) : Shp.ok (.agg [(.int .i64), (.int .i64), (.int .i64), .bool]) (.agg (PV.cells (NP a))) = true := rfl
theorem np1 (a : Nm) : PV.num (List.headD (PV.subs (.agg (PV.cells (NP a)))) .nilSl) = a.v := rfl
theorem np2 (a : Nm) : PV.num (List.headD (List.tail (PV.subs (.agg (PV.cells (NP a))))) .nilSl) = a.lo := rfl
theorem np3 (a : Nm) : PV.num (List.headD (List.tail (List.tail (PV.subs (.agg (PV.cells (NP a)))))) .nilSl) = a.hi := rfl
theorem np4 (a : Nm) : PV.tru (List.headD (List.tail (List.tail (List.tail (PV.subs (.agg (PV.cells (NP a))))))) .nilSl) = a.bad := rfl
theorem i64_of {a : Nm} (h : a = wrong ∨ fine a = true) : i64N a := by
  rcases h with rfl | h
  · exact ⟨⟨by decide, by decide⟩, ⟨by decide, by decide⟩, ⟨by decide, by decide⟩⟩
  · unfold fine at h
    simp only [Bool.and_eq_true, decide_eq_true_eq] at h
    obtain ⟨⟨⟨⟨_, h1⟩, h2⟩, h3⟩, h4⟩ := h
    unfold okF at h1 h2
    refine ⟨⟨?_, ?_⟩, ⟨?_, ?_⟩, ⟨?_, ?_⟩⟩ <;> omega
theorem vi_Add (a b : Nm) (ha : i64N a) (hb : i64N b) : go_env_Num_Add a.v a.lo a.hi a.bad b.v b.lo b.hi b.bad = some (four (nAdd a b)) := if_pos ⟨ha, hb⟩
theorem vi_Mul (a b : Nm) (ha : i64N a) (hb : i64N b) : go_env_Num_Mul a.v a.lo a.hi a.bad b.v b.lo b.hi b.bad = some (four (nMul a b)) := if_pos ⟨ha, hb⟩
theorem vi_Of (a : Nm) {n : Int} (hn : i64 n) : go_env_Num_Of a.v a.lo a.hi a.bad n = some (four (nOf n)) := if_pos hn
theorem nsum_loop (b4 b5 : Bool) (n9 n10 n11 : Int) (b12 : Bool) (A : List Nm) (hA : ∀ a ∈ A, i64N a) (hn : A.length ≤ 1000) : ∀ (d j : Nat) (s : Nm), j + d = A.length → i64N s →
    iterN (fun x => st_vec_Sum_env_Num_0 x.1 x.2.1 x.2.2.1 x.2.2.2.1 x.2.2.2.2.1 x.2.2.2.2.2.1 x.2.2.2.2.2.2.1 x.2.2.2.2.2.2.2.1 x.2.2.2.2.2.2.2.2.1 x.2.2.2.2.2.2.2.2.2.1 x.2.2.2.2.2.2.2.2.2.2.1 x.2.2.2.2.2.2.2.2.2.2.2.1 x.2.2.2.2.2.2.2.2.2.2.2.2) (d + 1) (b4, b5, A.map NP, (A.length : Int), (j : Int), n9, n10, n11, b12, s.v, s.lo, s.hi, s.bad) =
      some (n9, n10, n11, b12, ((A.drop j).foldl nAdd s).v, ((A.drop j).foldl nAdd s).lo, ((A.drop j).foldl nAdd s).hi, ((A.drop j).foldl nAdd s).bad)
  | 0, j, s, hj, hs => by
    obtain rfl : j = A.length := by omega
    have e : st_vec_Sum_env_Num_0 b4 b5 (A.map NP) (A.length : Int) (A.length : Int) n9 n10 n11 b12 s.v s.lo s.hi s.bad = some (.inr (n9, n10, n11, b12, s.v, s.lo, s.hi, s.bad)) := by
      unfold st_vec_Sum_env_Num_0
      rw [decide_eq_false (Int.lt_irrefl _)]
      rfl
    rw [iterN]; simp only [e]
    rw [List.drop_length, List.foldl_nil]
  | d + 1, j, s, hj, hs => by
    have hlt : j < A.length := by omega
    have e : st_vec_Sum_env_Num_0 b4 b5 (A.map NP) (A.length : Int) (j : Int) n9 n10 n11 b12 s.v s.lo s.hi s.bad = some (.inl (b4, b5, A.map NP, (A.length : Int), ((j + 1 : Nat) : Int), n9, n10, n11, b12, (nAdd s A[j]).v, (nAdd s A[j]).lo, (nAdd s A[j]).hi, (nAdd s A[j]).bad)) := by
      unfold st_vec_Sum_env_Num_0
      rw [Int.toNat_natCast, getD_NP hlt, List.length_map]
      simp only [nl4, no4, np1, np2, np3, np4]
      rw [vi_Add s A[j] hs (hA _ (List.getElem_mem hlt)), Option.bind_some, inc64 (by omega), decide_eq_true (show (j : Int) < ((A.length : Nat) : Int) by omega), decide_eq_true (show (0 : Int) ≤ (j : Int) by omega), decide_eq_true hlt]
      rfl
    rw [iterN]
    simp only [e]
    rw [nsum_loop b4 b5 n9 n10 n11 b12 A hA hn d (j + 1) (nAdd s A[j]) (by omega) (i64_of (fine_add s A[j])), List.drop_eq_getElem_cons hlt, List.foldl_cons]
def z0 : Nm := ⟨0, 0, 0, false⟩
theorem nOf0 : nOf 0 = z0 := (nOf_small (n := 0) (by unfold small; omega)).trans rfl
theorem z0_i64 : i64N z0 := ⟨⟨by decide, by decide⟩, ⟨by decide, by decide⟩, ⟨by decide, by decide⟩⟩
theorem nsum_at (b0 b1 : Bool) {A : List Nm} (hA : ∀ a ∈ A, i64N a) (hn : A.length ≤ 1000) : go_vec_Sum_env_Num b0 b1 (A.map NP) = some (four (A.foldl nAdd z0)) := by
  have h := nsum_loop b0 b1 0 0 0 false A hA hn A.length 0 z0 (by omega) z0_i64
  rw [List.drop_zero] at h
  have hO := vi_Of z0 (n := 0) ⟨by decide, by decide⟩
  rw [nOf0] at hO
  have hO : go_env_Num_Of 0 0 0 false 0 = some (four z0) := hO
  unfold go_vec_Sum_env_Num lp_vec_Sum_env_Num_0
  rw [hO, Option.bind_some, List.length_map]
  have h : iterN (fun x => st_vec_Sum_env_Num_0 x.1 x.2.1 x.2.2.1 x.2.2.2.1 x.2.2.2.2.1 x.2.2.2.2.2.1 x.2.2.2.2.2.2.1 x.2.2.2.2.2.2.2.1 x.2.2.2.2.2.2.2.2.1 x.2.2.2.2.2.2.2.2.2.1 x.2.2.2.2.2.2.2.2.2.2.1 x.2.2.2.2.2.2.2.2.2.2.2.1 x.2.2.2.2.2.2.2.2.2.2.2.2) (A.length + 1) (b0, b1, A.map NP, (A.length : Int), 0, 0, 0, 0, false, (four z0).1, (four z0).2.1, (four z0).2.2.1, (four z0).2.2.2) = _ := h
  rw [loopN_of (A.length + 1) (by omega) h, Option.bind_some]
  rfl
theorem ok_NP (A : List Nm) : (A.map NP).all pNok = true := by
  rw [List.all_eq_true]
  intro x hx
  obtain ⟨n, _, rfl⟩ := List.mem_map.1 hx
  rfl
def itN (q : Nm × Nm) : pNIt := (q.1.v, q.1.lo, q.1.hi, q.1.bad, q.2.v, q.2.lo, q.2.hi, q.2.bad)
theorem itN_at (n1 x1 : Bool) (A : List Nm) (n2 x2 : Bool) (B : List Nm) (hn : A.length ≤ 1000) : it_pairspN n1 x1 (A.map NP) n2 x2 (B.map NP) = some ((A.zip B).map itN) := by
  unfold it_pairspN
  rw [ok_NP, ok_NP, List.length_map, decide_eq_true (show A.length ≤ 1000000000 by omega), List.map_map, List.map_map]
  simp only [Bool.true_and, cond_true]
  congr 1
  rw [show (pNof ∘ NP) = fun a => (a.v, a.lo, a.hi, a.bad) from rfl]
  induction A generalizing B with
  | nil => rfl
  | cons a A ih =>
    cases B with
    | nil => rfl
    | cons b B =>
      simp only [List.map_cons, List.zip_cons_cons]
      rw [ih _ (by simp at hn; omega)]
      rfl
theorem ofN_fold (b7 b8 : Bool) (es9 : List PV) (b10 b11 : Bool) (es12 : List PV) : ∀ (L : List (Nm × Nm)) (u v : Bool) (acc : List PV), (∀ q ∈ L, i64N q.1 ∧ i64N q.2) → acc.length + L.length ≤ 2000 → ∃ u' v',
    foldS (X := (Bool × Bool × List PV × Bool × Bool × List PV × Bool × Bool × List PV)) (Y := Unit) (fun x i => st_vec_of_env_Num_0 x.1 x.2.1 x.2.2.1 x.2.2.2.1 x.2.2.2.2.1 x.2.2.2.2.2.1 x.2.2.2.2.2.2.1 x.2.2.2.2.2.2.2.1 x.2.2.2.2.2.2.2.2 i) (L.map itN) (b7, b8, es9, b10, b11, es12, u, v, acc) =
      some (.inl (b7, b8, es9, b10, b11, es12, u', v', acc ++ (L.map fun q => nMul q.1 q.2).map NP))
  | [], u, v, acc, _, _ => ⟨u, v, by rw [List.map_nil, List.map_nil, foldS, List.map_nil, List.append_nil]⟩
  | q :: L, u, v, acc, hq, hb => by
    obtain ⟨h1, h2⟩ := hq q (List.mem_cons_self ..)
    have e : st_vec_of_env_Num_0 b7 b8 es9 b10 b11 es12 u v acc (itN q) = some (.inl (b7, b8, es9, b10, b11, es12, (u && false), false, acc ++ [NP (nMul q.1 q.2)])) := by
      unfold st_vec_of_env_Num_0 go_vec_Dot_env_Num_1 itN
      dsimp only
      rw [vi_Mul q.1 q.2 h1 h2, Option.bind_some, Option.bind_some, decide_eq_true (show (acc.length + 1) * 32 ≤ 140737488355328 by simp at hb; omega), decide_eq_true (show acc.length + 1 ≤ 4611686018427387904 by simp at hb; omega)]
      rfl
    obtain ⟨u', v', ih⟩ := ofN_fold b7 b8 es9 b10 b11 es12 L (u && false) false (acc ++ [NP (nMul q.1 q.2)]) (fun q hq' => hq q (List.mem_cons_of_mem _ hq')) (by rw [List.length_append]; simp at hb ⊢; omega)
    refine ⟨u', v', ?_⟩
    rw [List.map_cons, foldS]
    dsimp only
    rw [e]
    dsimp only
    rw [ih, List.append_assoc]
    rfl
def mulN (A B : List Nm) : List Nm := (A.zip B).map fun q => nMul q.1 q.2
theorem ndot_at (n1 x1 : Bool) {A : List Nm} (n2 x2 : Bool) {B : List Nm} (hA : ∀ a ∈ A, i64N a) (hB : ∀ a ∈ B, i64N a) (hn : A.length ≤ 1000) : go_vec_Dot_env_Num n1 x1 (A.map NP) n2 x2 (B.map NP) = some (four ((mulN A B).foldl nAdd z0)) := by
  obtain ⟨u, v, h⟩ := ofN_fold n1 x1 (A.map NP) n2 x2 (B.map NP) (A.zip B) true true [] (fun q hq => by
    obtain ⟨h1, h2⟩ := List.of_mem_zip hq
    exact ⟨hA _ h1, hB _ h2⟩) (by simp only [List.length_nil, List.length_zip]; omega)
  rw [List.nil_append] at h
  have hs := nsum_at u v (A := mulN A B) (fun a ha => by
    obtain ⟨q, _, rfl⟩ := List.mem_map.1 ha
    exact i64_of (fine_mul _ _)) (by unfold mulN; rw [List.length_map, List.length_zip]; omega)
  have hs : go_vec_Sum_env_Num u v (((A.zip B).map fun q => nMul q.1 q.2).map NP) = some (four ((mulN A B).foldl nAdd z0)) := hs
  unfold go_vec_Dot_env_Num go_vec_of_env_Num go_vec_Pairs_env_Num lp_vec_of_env_Num_0 it_vec_of_env_Num_0
  simp only [Option.bind_some]
  rw [itN_at n1 x1 A n2 x2 B hn, Option.bind_some, h, Option.bind_some]
  simp only [Sum.elim_inl, Option.bind_some]
  rw [hs]
  rfl
theorem steps0 (b8 b9 : Bool) (es10 : List PV) (b11 b12 : Bool) (es13 : List PV) (b14 b15 : Bool) (A : List Nm) (hn : A.length ≤ 1000) (t : Nm) : ∀ (d j : Nat) (s : Nm), j + d = A.length →
    iterN (fun x => st_coupletlaw05_VecSteps_0 x.1 x.2.1 x.2.2.1 x.2.2.2.1 x.2.2.2.2.1 x.2.2.2.2.2.1 x.2.2.2.2.2.2.1 x.2.2.2.2.2.2.2.1 x.2.2.2.2.2.2.2.2.1 x.2.2.2.2.2.2.2.2.2.1 x.2.2.2.2.2.2.2.2.2.2.1 x.2.2.2.2.2.2.2.2.2.2.2.1 x.2.2.2.2.2.2.2.2.2.2.2.2.1 x.2.2.2.2.2.2.2.2.2.2.2.2.2.1 x.2.2.2.2.2.2.2.2.2.2.2.2.2.2.1 x.2.2.2.2.2.2.2.2.2.2.2.2.2.2.2.1 x.2.2.2.2.2.2.2.2.2.2.2.2.2.2.2.2.1 x.2.2.2.2.2.2.2.2.2.2.2.2.2.2.2.2.2.1 x.2.2.2.2.2.2.2.2.2.2.2.2.2.2.2.2.2.2) (d + 1)
      (b8, b9, es10, b11, b12, es13, b14, b15, A.map NP, (A.length : Int), (j : Int), s.v, s.lo, s.hi, s.bad, t.v, t.lo, t.hi, t.bad) =
      some (b8, b9, es10, b11, b12, es13, ((A.drop j).foldl nAdd s).v, ((A.drop j).foldl nAdd s).lo, ((A.drop j).foldl nAdd s).hi, ((A.drop j).foldl nAdd s).bad, t.v, t.lo, t.hi, t.bad)
  | 0, j, s, hj => by
    obtain rfl : j = A.length := by omega
    have e : st_coupletlaw05_VecSteps_0 b8 b9 es10 b11 b12 es13 b14 b15 (A.map NP) (A.length : Int) (A.length : Int) s.v s.lo s.hi s.bad t.v t.lo t.hi t.bad = some (.inr (b8, b9, es10, b11, b12, es13, s.v, s.lo, s.hi, s.bad, t.v, t.lo, t.hi, t.bad)) := by
      unfold st_coupletlaw05_VecSteps_0
      rw [decide_eq_false (Int.lt_irrefl _)]
      rfl
    rw [iterN]; simp only [e]
    rw [List.drop_length, List.foldl_nil]
  | d + 1, j, s, hj => by
    have hlt : j < A.length := by omega
    have e : st_coupletlaw05_VecSteps_0 b8 b9 es10 b11 b12 es13 b14 b15 (A.map NP) (A.length : Int) (j : Int) s.v s.lo s.hi s.bad t.v t.lo t.hi t.bad =
        some (.inl (b8, b9, es10, b11, b12, es13, b14, b15, A.map NP, (A.length : Int), ((j + 1 : Nat) : Int), (nAdd s A[j]).v, (nAdd s A[j]).lo, (nAdd s A[j]).hi, (nAdd s A[j]).bad, t.v, t.lo, t.hi, t.bad)) := by
      unfold st_coupletlaw05_VecSteps_0
      rw [Int.toNat_natCast, getD_NP hlt, List.length_map]
      simp only [nl4, no4, np1, np2, np3, np4]
      rw [show go_coupletlaw03_Given A[j].v A[j].lo A[j].hi A[j].bad = some (four A[j]) from rfl, Option.bind_some]
      dsimp only [four]
      rw [go_Do0 s A[j], Option.bind_some, inc64 (by omega), decide_eq_true (show (j : Int) < ((A.length : Nat) : Int) by omega), decide_eq_true (show (0 : Int) ≤ (j : Int) by omega), decide_eq_true hlt]
      rfl
    rw [iterN]
    simp only [e]
    rw [steps0 b8 b9 es10 b11 b12 es13 b14 b15 A hn t d (j + 1) (nAdd s A[j]) (by omega), List.drop_eq_getElem_cons hlt, List.foldl_cons]
theorem steps1 (b30 b31 b33 b34 : Bool) (A B : List Nm) (hn : A.length ≤ 1000) (s : Nm) : ∀ (d j : Nat) (t : Nm), j + d = min A.length B.length →
    iterN (fun x => st_coupletlaw05_VecSteps_1 x.1 x.2.1 x.2.2.1 x.2.2.2.1 x.2.2.2.2.1 x.2.2.2.2.2.1 x.2.2.2.2.2.2.1 x.2.2.2.2.2.2.2.1 x.2.2.2.2.2.2.2.2.1 x.2.2.2.2.2.2.2.2.2.1 x.2.2.2.2.2.2.2.2.2.2.1 x.2.2.2.2.2.2.2.2.2.2.2.1 x.2.2.2.2.2.2.2.2.2.2.2.2.1 x.2.2.2.2.2.2.2.2.2.2.2.2.2.1 x.2.2.2.2.2.2.2.2.2.2.2.2.2.2.1 x.2.2.2.2.2.2.2.2.2.2.2.2.2.2.2) (d + 1)
      (b30, b31, A.map NP, b33, b34, B.map NP, ((min A.length B.length : Nat) : Int), (j : Int), s.v, s.lo, s.hi, s.bad, t.v, t.lo, t.hi, t.bad) =
      some (b30, b31, A.map NP, b33, b34, B.map NP, s.v, s.lo, s.hi, s.bad, (((mulN A B).drop j).foldl nAdd t).v, (((mulN A B).drop j).foldl nAdd t).lo, (((mulN A B).drop j).foldl nAdd t).hi, (((mulN A B).drop j).foldl nAdd t).bad)
  | 0, j, t, hj => by
    obtain rfl : j = min A.length B.length := by omega
    have hl : (mulN A B).length = min A.length B.length := by unfold mulN; rw [List.length_map, List.length_zip]
    have e : st_coupletlaw05_VecSteps_1 b30 b31 (A.map NP) b33 b34 (B.map NP) ((min A.length B.length : Nat) : Int) ((min A.length B.length : Nat) : Int) s.v s.lo s.hi s.bad t.v t.lo t.hi t.bad = some (.inr (b30, b31, A.map NP, b33, b34, B.map NP, s.v, s.lo, s.hi, s.bad, t.v, t.lo, t.hi, t.bad)) := by
      unfold st_coupletlaw05_VecSteps_1
      rw [decide_eq_false (Int.lt_irrefl _)]
      rfl
    rw [iterN]; simp only [e]
    rw [← hl, List.drop_length, List.foldl_nil]
  | d + 1, j, t, hj => by
    have h1 : j < A.length := by omega
    have h2 : j < B.length := by omega
    have hl : (mulN A B).length = min A.length B.length := by unfold mulN; rw [List.length_map, List.length_zip]
    have e : st_coupletlaw05_VecSteps_1 b30 b31 (A.map NP) b33 b34 (B.map NP) ((min A.length B.length : Nat) : Int) (j : Int) s.v s.lo s.hi s.bad t.v t.lo t.hi t.bad =
        some (.inl (b30, b31, A.map NP, b33, b34, B.map NP, ((min A.length B.length : Nat) : Int), ((j + 1 : Nat) : Int), s.v, s.lo, s.hi, s.bad, (nAdd t (nMul A[j] B[j])).v, (nAdd t (nMul A[j] B[j])).lo, (nAdd t (nMul A[j] B[j])).hi, (nAdd t (nMul A[j] B[j])).bad)) := by
      unfold st_coupletlaw05_VecSteps_1
      rw [Int.toNat_natCast, getD_NP h1, getD_NP h2, List.length_map, List.length_map]
      simp only [nl4, no4, np1, np2, np3, np4]
      rw [show go_coupletlaw03_Given A[j].v A[j].lo A[j].hi A[j].bad = some (four A[j]) from rfl, show go_coupletlaw03_Given B[j].v B[j].lo B[j].hi B[j].bad = some (four B[j]) from rfl, Option.bind_some, Option.bind_some]
      dsimp only [four]
      rw [go_Do2 A[j] B[j], Option.bind_some]
      dsimp only [four]
      rw [go_Do0 t (nMul A[j] B[j]), Option.bind_some, inc64 (by omega), decide_eq_true (show (j : Int) < ((min A.length B.length : Nat) : Int) by omega), decide_eq_true (show (0 : Int) ≤ (j : Int) by omega), decide_eq_true (show (j : Int) < ((A.length : Nat) : Int) by omega), decide_eq_true h1, decide_eq_true (show (j : Int) < ((B.length : Nat) : Int) by omega), decide_eq_true h2]
      rfl
    have hm : (mulN A B)[j]'(by omega) = nMul A[j] B[j] := by unfold mulN; rw [List.getElem_map, List.getElem_zip]
    rw [iterN]
    simp only [e]
    rw [steps1 b30 b31 b33 b34 A B hn s d (j + 1) (nAdd t (nMul A[j] B[j])) (by omega), List.drop_eq_getElem_cons (show j < (mulN A B).length by omega), List.foldl_cons, hm]
theorem same4 (a : Nm) : (((four a).1 == a.v) && (((four a).2.1 == a.lo) && (((four a).2.2.1 == a.hi) && (((four a).2.2.2 == a.bad) && true)))) = true := by
  unfold four; simp
theorem law_VecSteps {b0 b1 : Bool} {es2 : List PV} {b3 b4 : Bool} {es5 : List PV} (w0 : es2.length ≤ maxLen) (g0 : b0 = true → es2 = []) (c0 : ∀ e ∈ es2, ∃ ys, e = mkP true ys ∧ TS.fitsL [.int .i64, .int .i64, .int .i64, .bool] ys)
    (w1 : es5.length ≤ maxLen) (g1 : b3 = true → es5 = []) (c1 : ∀ e ∈ es5, ∃ ys, e = mkP true ys ∧ TS.fitsL [.int .i64, .int .i64, .int .i64, .bool] ys) : go_coupletlaw05_VecSteps b0 b1 es2 b3 b4 es5 = some true := by
  obtain ⟨A, rfl, hA⟩ := nums_of c0
  obtain ⟨B, rfl, hB⟩ := nums_of c1
  unfold go_coupletlaw05_VecSteps
  rw [awake05, List.length_map, List.length_map]
  by_cases s1 : ((A.length : Nat) : Int) > 20
  · rw [decide_eq_true s1]; rfl
  by_cases s2 : ((B.length : Nat) : Int) > 20
  · rw [decide_eq_false s1, decide_eq_true s2]; rfl
  rw [decide_eq_false s1, decide_eq_false s2, cond_false, cond_false]
  have e0 := steps0 b0 b1 (A.map NP) b3 b4 (B.map NP) b0 b1 A (by omega) z0 A.length 0 z0 (by omega)
  have e1 := steps1 b0 b1 b3 b4 A B (by omega) (A.foldl nAdd z0) (min A.length B.length) 0 z0 (by omega)
  rw [List.drop_zero] at e0 e1
  unfold lp_coupletlaw05_VecSteps_0 lp_coupletlaw05_VecSteps_1
  have e0 := loopN_of (A.length + 1) (by omega) e0
  have e1 := loopN_of (min A.length B.length + 1) (by omega) e1
  have hmin : min ((A.length : Nat) : Int) ((B.length : Nat) : Int) = ((min A.length B.length : Nat) : Int) := by omega
  have e0 : loopN (fun x => st_coupletlaw05_VecSteps_0 x.1 x.2.1 x.2.2.1 x.2.2.2.1 x.2.2.2.2.1 x.2.2.2.2.2.1 x.2.2.2.2.2.2.1 x.2.2.2.2.2.2.2.1 x.2.2.2.2.2.2.2.2.1 x.2.2.2.2.2.2.2.2.2.1 x.2.2.2.2.2.2.2.2.2.2.1 x.2.2.2.2.2.2.2.2.2.2.2.1 x.2.2.2.2.2.2.2.2.2.2.2.2.1 x.2.2.2.2.2.2.2.2.2.2.2.2.2.1 x.2.2.2.2.2.2.2.2.2.2.2.2.2.2.1 x.2.2.2.2.2.2.2.2.2.2.2.2.2.2.2.1 x.2.2.2.2.2.2.2.2.2.2.2.2.2.2.2.2.1 x.2.2.2.2.2.2.2.2.2.2.2.2.2.2.2.2.2.1 x.2.2.2.2.2.2.2.2.2.2.2.2.2.2.2.2.2.2) (b0, b1, A.map NP, b3, b4, B.map NP, b0, b1, A.map NP, (A.length : Int), 0, 0, 0, 0, false, 0, 0, 0, false) = _ := e0
  have e1 : loopN (fun x => st_coupletlaw05_VecSteps_1 x.1 x.2.1 x.2.2.1 x.2.2.2.1 x.2.2.2.2.1 x.2.2.2.2.2.1 x.2.2.2.2.2.2.1 x.2.2.2.2.2.2.2.1 x.2.2.2.2.2.2.2.2.1 x.2.2.2.2.2.2.2.2.2.1 x.2.2.2.2.2.2.2.2.2.2.1 x.2.2.2.2.2.2.2.2.2.2.2.1 x.2.2.2.2.2.2.2.2.2.2.2.2.1 x.2.2.2.2.2.2.2.2.2.2.2.2.2.1 x.2.2.2.2.2.2.2.2.2.2.2.2.2.2.1 x.2.2.2.2.2.2.2.2.2.2.2.2.2.2.2) (b0, b1, A.map NP, b3, b4, B.map NP, ((min A.length B.length : Nat) : Int), 0, (A.foldl nAdd z0).v, (A.foldl nAdd z0).lo, (A.foldl nAdd z0).hi, (A.foldl nAdd z0).bad, z0.v, z0.lo, z0.hi, z0.bad) = _ := e1
  rw [e0, Option.bind_some]
  dsimp only
  rw [List.length_map, List.length_map, hmin, e1, Option.bind_some]
  dsimp only
  rw [nsum_at b0 b1 hA (by omega), Option.bind_some, show go_coupletlaw03_Given (four (A.foldl nAdd z0)).1 (four (A.foldl nAdd z0)).2.1 (four (A.foldl nAdd z0)).2.2.1 (four (A.foldl nAdd z0)).2.2.2 = some (four (A.foldl nAdd z0)) from rfl, Option.bind_some, same4, cond_true, ndot_at b0 b1 b3 b4 hA hB (by omega), Option.bind_some]
  rw [show go_coupletlaw03_Given (four ((mulN A B).foldl nAdd z0)).1 (four ((mulN A B).foldl nAdd z0)).2.1 (four ((mulN A B).foldl nAdd z0)).2.2.1 (four ((mulN A B).foldl nAdd z0)).2.2.2 = some (four ((mulN A B).foldl nAdd z0)) from rfl, Option.bind_some, same4]
  rfl
end Go.Proofs
