/-
  The law VecEncloses (plain).
-/
import Derived.Test.YtbfhholefjngpaaWFinelaw
import Derived.Test.YtbfhholefjngpaaWGE2
import Derived.Test.YtbfhholefjngpaaWGV2
set_option linter.unusedSimpArgs false
set_option linter.unusedVariables false
set_option maxRecDepth 100000
namespace Go.Proofs
open Go Go.Fx Go.Mdlaw Go.Rootlaw Go.Cmplaw
end Go.Proofs
set_option linter.unusedSimpArgs false
set_option linter.unusedVariables false
set_option maxRecDepth 100000
namespace Go.Proofs
open Go Go.Fx Go.Mdlaw Go.Rootlaw Go.Cmplaw
end Go.Proofs
set_option linter.unusedSimpArgs false
set_option linter.unusedVariables false
set_option maxRecDepth 100000
namespace Go.Proofs
open Go Go.Fx Go.Mdlaw Go.Rootlaw Go.Cmplaw
end Go.Proofs
set_option linter.unusedSimpArgs false
set_option linter.unusedVariables false
set_option maxRecDepth 100000
namespace Go.Proofs
open Go Go.Fx Go.Mdlaw Go.Rootlaw Go.Cmplaw
def four (x : Nm) : Int × Int × Int × Bool := (x.v, x.lo, x.hi, x.bad)
end Go.Proofs
set_option linter.unusedSimpArgs false
set_option linter.unusedVariables false
set_option maxRecDepth 100000
namespace Go.Proofs
open Go Go.Fx
def NP (a : Nm) : PV := .agg [.int .i64 a.v, .int .i64 a.lo, .int .i64 a.hi, .bool a.bad]
theorem getD_NP {A : List Nm} {i : Nat} (h : i < A.length) : (A.map NP).getD i .nilSl = NP A[i] := by
  rw [List.getD_eq_getElem?_getD, List.getElem?_map, List.getElem?_eq_getElem h]; rfl
theorem nl4 (a : Nm) : decide (List.length (PV.cells (NP a)) = 4) = true := rfl
theorem no4 (a : Nm) : Shp.ok (.agg [(.int .i64), (.int .i64), (.int .i64), .bool]) (.agg (PV.cells (NP a))) = true := rfl
theorem np1 (a : Nm) : PV.num (List.headD (PV.subs (.agg (PV.cells (NP a)))) .nilSl) = a.v := rfl
theorem np2 (a : Nm) : PV.num (List.headD (List.tail (PV.subs (.agg (PV.cells (NP a))))) .nilSl) = a.lo := rfl
theorem np3 (a : Nm) : PV.num (List.headD (List.tail (List.tail (PV.subs (.agg (PV.cells (NP a)))))) .nilSl) = a.hi := rfl
theorem np4 (a : Nm) : PV.tru (List.headD (List.tail (List.tail (List.tail (PV.subs (.agg (PV.cells (NP a))))))) .nilSl) = a.bad := rfl
theorem i64_of {a : Nm} (h : a = wrong ∨ fine a = true) : i64N a := by
  rcases h with rfl | h
  · exact ⟨⟨by decide, by decide⟩, ⟨by decide, by decide⟩, ⟨by decide, by decide⟩⟩
  · unfold fine at h
    simp only [Bool.and_eq_true, decide_eq_true_eq] at h
    obtain ⟨⟨⟨⟨_, h1⟩, h2⟩, h3⟩, h4⟩ := h
    unfold okF at h1 h2
    refine ⟨⟨?_, ?_⟩, ⟨?_, ?_⟩, ⟨?_, ?_⟩⟩ <;> omega
theorem vi_Add (a b : Nm) (ha : i64N a) (hb : i64N b) : go_env_Num_Add a.v a.lo a.hi a.bad b.v b.lo b.hi b.bad = some (four (nAdd a b)) := if_pos ⟨ha, hb⟩
theorem vi_Mul (a b : Nm) (ha : i64N a) (hb : i64N b) : go_env_Num_Mul a.v a.lo a.hi a.bad b.v b.lo b.hi b.bad = some (four (nMul a b)) := if_pos ⟨ha, hb⟩
theorem vi_Of (a : Nm) {n : Int} (hn : i64 n) : go_env_Num_Of a.v a.lo a.hi a.bad n = some (four (nOf n)) := if_pos hn
theorem nsum_loop (b4 b5 : Bool) (n9 n10 n11 : Int) (b12 : Bool) (A : List Nm) (hA : ∀ a ∈ A, i64N a) (hn : A.length ≤ 1000) : ∀ (d j : Nat) (s : Nm), j + d = A.length → i64N s →
    iterN (fun x => st_vec_Sum_env_Num_0 x.1 x.2.1 x.2.2.1 x.2.2.2.1 x.2.2.2.2.1 x.2.2.2.2.2.1 x.2.2.2.2.2.2.1 x.2.2.2.2.2.2.2.1 x.2.2.2.2.2.2.2.2.1 x.2.2.2.2.2.2.2.2.2.1 x.2.2.2.2.2.2.2.2.2.2.1 x.2.2.2.2.2.2.2.2.2.2.2.1 x.2.2.2.2.2.2.2.2.2.2.2.2) (d + 1) (b4, b5, A.map NP, (A.length : Int), (j : Int), n9, n10, n11, b12, s.v, s.lo, s.hi, s.bad) =
      some (n9, n10, n11, b12, ((A.drop j).foldl nAdd s).v, ((A.drop j).foldl nAdd s).lo, ((A.drop j).foldl nAdd s).hi, ((A.drop j).foldl nAdd s).bad)
  | 0, j, s, hj, hs => by
    obtain rfl : j = A.length := by omega
    have e : st_vec_Sum_env_Num_0 b4 b5 (A.map NP) (A.length : Int) (A.length : Int) n9 n10 n11 b12 s.v s.lo s.hi s.bad = some (.inr (n9, n10, n11, b12, s.v, s.lo, s.hi, s.bad)) := by
      unfold st_vec_Sum_env_Num_0
      rw [decide_eq_false (Int.lt_irrefl _)]
      rfl
    rw [iterN]; simp only [e]
    rw [List.drop_length, List.foldl_nil]
  | d + 1, j, s, hj, hs => by
    have hlt : j < A.length := by omega
    have e : st_vec_Sum_env_Num_0 b4 b5 (A.map NP) (A.length : Int) (j : Int) n9 n10 n11 b12 s.v s.lo s.hi s.bad = some (.inl (b4, b5, A.map NP, (A.length : Int), ((j + 1 : Nat) : Int), n9, n10, n11, b12, (nAdd s A[j]).v, (nAdd s A[j]).lo, (nAdd s A[j]).hi, (nAdd s A[j]).bad)) := by
      unfold st_vec_Sum_env_Num_0
      rw [Int.toNat_natCast, getD_NP hlt, List.length_map]
      simp only [nl4, no4, np1, np2, np3, np4]
      rw [vi_Add s A[j] hs (hA _ (List.getElem_mem hlt)), Option.bind_some, inc64 (by omega), decide_eq_true (show (j : Int) < ((A.length : Nat) : Int) by omega), decide_eq_true (show (0 : Int) ≤ (j : Int) by omega), decide_eq_true hlt]
      rfl
    rw [iterN]
    simp only [e]
    rw [nsum_loop b4 b5 n9 n10 n11 b12 A hA hn d (j + 1) (nAdd s A[j]) (by omega) (i64_of (fine_add s A[j])), List.drop_eq_getElem_cons hlt, List.foldl_cons]
def z0 : Nm := ⟨0, 0, 0, false⟩
theorem nOf0 : nOf 0 = z0 := (nOf_small (n := 0) (by unfold small; omega)).trans rfl
theorem z0_i64 : i64N z0 := ⟨⟨by decide, by decide⟩, ⟨by decide, by decide⟩, ⟨by decide, by decide⟩⟩
theorem nsum_at (b0 b1 : Bool) {A : List Nm} (hA : ∀ a ∈ A, i64N a) (hn : A.length ≤ 1000) : go_vec_Sum_env_Num b0 b1 (A.map NP) = some (four (A.foldl nAdd z0)) := by
  have h := nsum_loop b0 b1 0 0 0 false A hA hn A.length 0 z0 (by omega) z0_i64
  rw [List.drop_zero] at h
  have hO := vi_Of z0 (n := 0) ⟨by decide, by decide⟩
  rw [nOf0] at hO
  have hO : go_env_Num_Of 0 0 0 false 0 = some (four z0) := hO
  unfold go_vec_Sum_env_Num lp_vec_Sum_env_Num_0
  rw [hO, Option.bind_some, List.length_map]
  have h : iterN (fun x => st_vec_Sum_env_Num_0 x.1 x.2.1 x.2.2.1 x.2.2.2.1 x.2.2.2.2.1 x.2.2.2.2.2.1 x.2.2.2.2.2.2.1 x.2.2.2.2.2.2.2.1 x.2.2.2.2.2.2.2.2.1 x.2.2.2.2.2.2.2.2.2.1 x.2.2.2.2.2.2.2.2.2.2.1 x.2.2.2.2.2.2.2.2.2.2.2.1 x.2.2.2.2.2.2.2.2.2.2.2.2) (A.length + 1) (b0, b1, A.map NP, (A.length : Int), 0, 0, 0, 0, false, (four z0).1, (four z0).2.1, (four z0).2.2.1, (four z0).2.2.2) = _ := h
  rw [loopN_of (A.length + 1) (by omega) h, Option.bind_some]
  rfl
theorem ok_NP (A : List Nm) : (A.map NP).all pNok = true := by
  rw [List.all_eq_true]
  intro x hx
  obtain ⟨n, _, rfl⟩ := List.mem_map.1 hx
  rfl
def itN (q : Nm × Nm) : pNIt := (q.1.v, q.1.lo, q.1.hi, q.1.bad, q.2.v, q.2.lo, q.2.hi, q.2.bad)
theorem itN_at (n1 x1 : Bool) (A : List Nm) (n2 x2 : Bool) (B : List Nm) (hn : A.length ≤ 1000) : it_pairspN n1 x1 (A.map NP) n2 x2 (B.map NP) = some ((A.zip B).map itN) := by
  unfold it_pairspN
  rw [ok_NP, ok_NP, List.length_map, decide_eq_true (show A.length ≤ 1000000000 by omega), List.map_map, List.map_map]
  simp only [Bool.true_and, cond_true]
  congr 1
  rw [show (pNof ∘ NP) = fun a => (a.v, a.lo, a.hi, a.bad) from rfl]
  induction A generalizing B with
  | nil => rfl
  | cons a A ih =>
    cases B with
    | nil => rfl
    | cons b B =>
      simp only [List.map_cons, List.zip_cons_cons]
      rw [ih _ (by simp at hn; omega)]
      rfl
theorem ofN_fold (b7 b8 : Bool) (es9 : List PV) (b10 b11 : Bool) (es12 : List PV) : ∀ (L : List (Nm × Nm)) (u v : Bool) (acc : List PV), (∀ q ∈ L, i64N q.1 ∧ i64N q.2) → acc.length + L.length ≤ 2000 → ∃ u' v',
    foldS (X := (Bool × Bool × List PV × Bool × Bool × List PV × Bool × Bool × List PV)) (Y := Unit) (fun x i => st_vec_of_env_Num_0 x.1 x.2.1 x.2.2.1 x.2.2.2.1 x.2.2.2.2.1 x.2.2.2.2.2.1 x.2.2.2.2.2.2.1 x.2.2.2.2.2.2.2.1 x.2.2.2.2.2.2.2.2 i) (L.map itN) (b7, b8, es9, b10, b11, es12, u, v, acc) =
      some (.inl (b7, b8, es9, b10, b11, es12, u', v', acc ++ (L.map fun q => nMul q.1 q.2).map NP))
  | [], u, v, acc, _, _ => ⟨u, v, by rw [List.map_nil, List.map_nil, foldS, List.map_nil, List.append_nil]⟩
  | q :: L, u, v, acc, hq, hb => by
    obtain ⟨h1, h2⟩ := hq q (List.mem_cons_self ..)
    have e : st_vec_of_env_Num_0 b7 b8 es9 b10 b11 es12 u v acc (itN q) = some (.inl (b7, b8, es9, b10, b11, es12, (u && false), false, acc ++ [NP (nMul q.1 q.2)])) := by
      unfold st_vec_of_env_Num_0 go_vec_Dot_env_Num_1 itN
      dsimp only
      rw [vi_Mul q.1 q.2 h1 h2, Option.bind_some, Option.bind_some, decide_eq_true (show (acc.length + 1) * 32 ≤ 140737488355328 by simp at hb; omega), decide_eq_true (show acc.length + 1 ≤ 4611686018427387904 by simp at hb; omega)]
      rfl
    obtain ⟨u', v', ih⟩ := ofN_fold b7 b8 es9 b10 b11 es12 L (u && false) false (acc ++ [NP (nMul q.1 q.2)]) (fun q hq' => hq q (List.mem_cons_of_mem _ hq')) (by rw [List.length_append]; simp at hb ⊢; omega)
    refine ⟨u', v', ?_⟩
    rw [List.map_cons, foldS]
    dsimp only
    rw [e]
    dsimp only
    rw [ih, List.append_assoc]
    rfl
def mulN (A B : List Nm) : List Nm := (A.zip B).map fun q => nMul q.1 q.2
theorem ndot_at (n1 x1 : Bool) {A : List Nm} (n2 x2 : Bool) {B : List Nm} (hA : ∀ a ∈ A, i64N a) (hB : ∀ a ∈ B, i64N a) (hn : A.length ≤ 1000) : go_vec_Dot_env_Num n1 x1 (A.map NP) n2 x2 (B.map NP) = some (four ((mulN A B).foldl nAdd z0)) := by
  obtain ⟨u, v, h⟩ := ofN_fold n1 x1 (A.map NP) n2 x2 (B.map NP) (A.zip B) true true [] (fun q hq => by
    obtain ⟨h1, h2⟩ := List.of_mem_zip hq
    exact ⟨hA _ h1, hB _ h2⟩) (by simp only [List.length_nil, List.length_zip]; omega)
  rw [List.nil_append] at h
  have hs := nsum_at u v (A := mulN A B) (fun a ha => by
    obtain ⟨q, _, rfl⟩ := List.mem_map.1 ha
    exact i64_of (fine_mul _ _)) (by unfold mulN; rw [List.length_map, List.length_zip]; omega)
  have hs : go_vec_Sum_env_Num u v (((A.zip B).map fun q => nMul q.1 q.2).map NP) = some (four ((mulN A B).foldl nAdd z0)) := hs
  unfold go_vec_Dot_env_Num go_vec_of_env_Num go_vec_Pairs_env_Num lp_vec_of_env_Num_0 it_vec_of_env_Num_0
  simp only [Option.bind_some]
  rw [itN_at n1 x1 A n2 x2 B hn, Option.bind_some, h, Option.bind_some]
  simp only [Sum.elim_inl, Option.bind_some]
  rw [hs]
  rfl
end Go.Proofs
set_option linter.unusedSimpArgs false
set_option linter.unusedVariables false
set_option maxRecDepth 100000
namespace Go.Proofs
open Go Go.Fx Go.Mdlaw Go.Rootlaw Go.Cmplaw
theorem ufine {n : Int} (h : okF (n * 16777216)) : fine (unitNm n) = true := by
  unfold fine unitNm
  simp [h]
theorem unit_add {a b : Int} (ha : okF (a * 16777216)) (hb : okF (b * 16777216)) (h : okF ((a + b) * 16777216)) : nAdd (unitNm a) (unitNm b) = unitNm (a + b) := by
  have hs : okF (a * 16777216 + b * 16777216) := by rw [← Int.add_mul]; exact h
  have e := fAdd_okF ha hb hs
  have hmk : nAdd (unitNm a) (unitNm b) = ⟨a * 16777216 + b * 16777216, a * 16777216 + b * 16777216, a * 16777216 + b * 16777216, false⟩ := by
    unfold nAdd made
    have hc : (((fAdd (unitNm a).v (unitNm b).v).2 && isAll (fun x y _ => fAdd x y) [((unitNm a).lo, (unitNm b).lo), ((unitNm a).hi, (unitNm b).hi)]) && fine (unitNm a) && fine (unitNm b)) = true := by
      rw [ufine ha, ufine hb]
      simp only [unitNm, isAll, List.all_cons, List.all_nil, e, Bool.and_true]
    rw [if_pos hc]
    simp only [unitNm, lows, highs, List.map_cons, List.map_nil, e, least_same, greatest_same]
  rw [hmk]
  unfold unitNm
  rw [Int.add_mul]
theorem unit_mul {n m : Int} (hn : small n) (hm : small m) (hs : small (n * m)) : nMul (unitNm n) (unitNm m) = unitNm (n * m) := by
  have hu := unit_okF hs
  have hprod : n * 16777216 * (m * 16777216) = n * m * 16777216 * 16777216 := by
    rw [Int.mul_assoc, Int.mul_comm 16777216 (m * 16777216), Int.mul_assoc m, ← Int.mul_assoc n, ← Int.mul_assoc]
  have ho1 := unit_okF hn
  have ho2 := unit_okF hm
  have e : ∀ k, 0 ≤ k ∧ k ≤ 2 → fMul (n * 16777216) (m * 16777216) k = (n * m * 16777216, true) := fun k hk => by
    have e : md (n * 16777216) (m * 16777216) 16777216 k = (n * m * 16777216, true) := md_exact ⟨by unfold okF at ho1; unfold okW; omega, by unfold okF at ho2; unfold okW; omega, by decide, by decide, hk.1, hk.2⟩ (by unfold okF at hu; unfold okW; omega) hprod
    unfold fMul td
    rw [e, if_pos ⟨rfl, by
      intro x hx
      simp at hx
      rcases hx with rfl | rfl | rfl
      · exact ho1
      · exact ho2
      · exact hu⟩]
  have e0 := e 0 (by decide)
  have e1 := e 1 (by decide)
  have e2 := e 2 (by decide)
  unfold nMul made
  have hc : (((fMul (unitNm n).v (unitNm m).v 0).2 && isAll fMul (pairs4 (unitNm n) (unitNm m))) && fine (unitNm n) && fine (unitNm m)) = true := by
    rw [ufine ho1, ufine ho2]
    simp only [unitNm, isAll, pairs4, List.all_cons, List.all_nil, e0, e1, e2, Bool.and_true]
  rw [if_pos hc]
  simp only [unitNm, pairs4, lows, highs, List.map_cons, List.map_nil, e0, e1, e2, least_same4, greatest_same4]
theorem unit_i64 {n : Int} (h : okF (n * 16777216)) : i64N (unitNm n) := i64_of (.inr (ufine h))
theorem unit_fold {M : Nat} : ∀ {L : List Int} {s : Int}, within M L → -67108864 ≤ s - ((M * L.length : Nat) : Int) → s + ((M * L.length : Nat) : Int) ≤ 67108864 → (L.map unitNm).foldl nAdd (unitNm s) = unitNm (s + tot L)
  | [], s, _, _, _ => by simp [tot]
  | x :: L, s, h, h1, h2 => by
    have hx := h x (List.mem_cons_self ..)
    rw [List.length_cons, Nat.mul_succ] at h1 h2
    rw [List.map_cons, List.foldl_cons, unit_add (a := s) (b := x) (by unfold okF; omega) (by unfold okF; omega) (by unfold okF; omega), unit_fold (M := M) (fun y hy => h y (List.mem_cons_of_mem _ hy)) (by omega) (by omega), tot, Int.add_assoc]
theorem nwhole_loop (b3 b4 : Bool) (l : List Int) (hl : within 1000 l) (hn : l.length ≤ 1000) : ∀ (d j : Nat) (u v : Bool) (acc : List PV), j + d = l.length → acc.length + d ≤ 2000 → ∃ u' v',
    iterN (fun x => st_vec_Whole_env_Num_0 x.1 x.2.1 x.2.2.1 x.2.2.2.1 x.2.2.2.2.1 x.2.2.2.2.2.1 x.2.2.2.2.2.2.1 x.2.2.2.2.2.2.2.1 x.2.2.2.2.2.2.2.2.1 x.2.2.2.2.2.2.2.2.2.1 x.2.2.2.2.2.2.2.2.2.2.1 x.2.2.2.2.2.2.2.2.2.2.2) (d + 1) (b3, b4, l, (l.length : Int), (j : Int), u, v, acc, 0, 0, 0, false) = some (u', v', acc ++ ((l.drop j).map unitNm).map NP)
  | 0, j, u, v, acc, hj, hb => by
    obtain rfl : j = l.length := by omega
    have e : st_vec_Whole_env_Num_0 b3 b4 l (l.length : Int) (l.length : Int) u v acc 0 0 0 false = some (.inr (u, v, acc)) := by
      unfold st_vec_Whole_env_Num_0
      rw [decide_eq_false (Int.lt_irrefl _)]
      rfl
    exact ⟨u, v, by rw [iterN]; simp only [e]; rw [List.drop_length, List.map_nil, List.map_nil, List.append_nil]⟩
  | d + 1, j, u, v, acc, hj, hb => by
    have hlt : j < l.length := by omega
    have hx := hl _ (List.getElem_mem hlt)
    have hO : go_env_Num_Of 0 0 0 false l[j] = some (four (unitNm l[j])) := by
      have := vi_Of z0 (n := l[j]) (by unfold i64; omega)
      rw [nOf_small (by unfold small; omega)] at this
      exact this
    have e : st_vec_Whole_env_Num_0 b3 b4 l (l.length : Int) (j : Int) u v acc 0 0 0 false = some (.inl (b3, b4, l, (l.length : Int), ((j + 1 : Nat) : Int), (u && false), false, acc ++ [NP (unitNm l[j])], 0, 0, 0, false)) := by
      unfold st_vec_Whole_env_Num_0
      rw [Int.toNat_natCast, getD_at hlt, hO, Option.bind_some, inc64 (by omega), decide_eq_true (show (j : Int) < ((l.length : Nat) : Int) by omega), decide_eq_true (show (0 : Int) ≤ (j : Int) by omega), decide_eq_true hlt, decide_eq_true (show (acc.length + 1) * 32 ≤ 140737488355328 by omega), decide_eq_true (show acc.length + 1 ≤ 4611686018427387904 by omega)]
      rfl
    rw [iterN]
    simp only [e]
    obtain ⟨u', v', ih⟩ := nwhole_loop b3 b4 l hl hn d (j + 1) (u && false) false (acc ++ [NP (unitNm l[j])]) (by omega) (by rw [List.length_append]; simp; omega)
    exact ⟨u', v', by rw [ih, List.drop_eq_getElem_cons hlt, List.map_cons, List.map_cons, List.append_assoc]; rfl⟩
theorem nwhole_at (b0 b1 : Bool) {l : List Int} (hl : within 1000 l) (hn : l.length ≤ 1000) : ∃ u v, go_vec_Whole_env_Num b0 b1 l = some (u, v, (l.map unitNm).map NP) := by
  obtain ⟨u, v, h⟩ := nwhole_loop b0 b1 l hl hn l.length 0 true true [] (by omega) (by simp; omega)
  rw [List.drop_zero, List.nil_append] at h
  refine ⟨u, v, ?_⟩
  unfold go_vec_Whole_env_Num lp_vec_Whole_env_Num_0
  have h : iterN (fun x => st_vec_Whole_env_Num_0 x.1 x.2.1 x.2.2.1 x.2.2.2.1 x.2.2.2.2.1 x.2.2.2.2.2.1 x.2.2.2.2.2.2.1 x.2.2.2.2.2.2.2.1 x.2.2.2.2.2.2.2.2.1 x.2.2.2.2.2.2.2.2.2.1 x.2.2.2.2.2.2.2.2.2.2.1 x.2.2.2.2.2.2.2.2.2.2.2) (l.length + 1) (b0, b1, l, (l.length : Int), 0, true, true, [], 0, 0, 0, false) = some (u, v, (l.map unitNm).map NP) := h
  rw [loopN_of (l.length + 1) (by omega) h, Option.bind_some]
theorem law_VecEncloses {b0 b1 : Bool} {l2 : List Int} {b3 b4 : Bool} {l5 : List Int} (w0 : l2.length ≤ maxLen) (c0 : ∀ x ∈ l2, (Lit.int .i64 x).wf = true) (g0 : b0 = true → l2 = []) (w1 : l5.length ≤ maxLen) (c1 : ∀ x ∈ l5, (Lit.int .i64 x).wf = true) (g1 : b3 = true → l5 = []) :
    go_coupletlaw05_VecEncloses b0 b1 l2 b3 b4 l5 = some true := by
  obtain ⟨r1, hr1, hf1⟩ := few_at b0 b1 l2
  obtain ⟨r2, hr2, hf2⟩ := few_at b3 b4 l5
  unfold go_coupletlaw05_VecEncloses
  rw [hr1, Option.bind_some, awake05]
  cases r1
  · rfl
  rw [Bool.not_true, cond_false, hr2, Option.bind_some]
  cases r2
  · rfl
  rw [Bool.not_true, cond_false]
  obtain ⟨k1, hA⟩ := hf1 rfl
  obtain ⟨k2, hB⟩ := hf2 rfl
  obtain ⟨u1, v1, e1⟩ := nwhole_at b0 b1 hA (by omega)
  obtain ⟨u2, v2, e2⟩ := nwhole_at b3 b4 hB (by omega)
  have hU : ∀ {l : List Int}, within 1000 l → ∀ a ∈ l.map unitNm, i64N a := fun {l} h a ha => by
    obtain ⟨x, hx, rfl⟩ := List.mem_map.1 ha
    have := h x hx
    exact unit_i64 (by unfold okF; omega)
  have hm : mulN (l2.map unitNm) (l5.map unitNm) = (mulL l2 l5).map unitNm := by
    unfold mulN mulL
    rw [List.zip_map, List.map_map, List.map_map]
    refine List.map_congr_left fun q hq => ?_
    obtain ⟨h1, h2⟩ := List.of_mem_zip hq
    have b1 := hA _ h1
    have b2 := hB _ h2
    have b3 := mul_b b1 b2
    exact unit_mul (by unfold small; omega) (by unfold small; omega) (by unfold small; omega)
  have bAB := dot_le (K := 20000000) hA hB (by omega)
  have hl : (mulL l2 l5).length ≤ 20 := by unfold mulL; rw [len_zip]; omega
  have hfold : (mulN (l2.map unitNm) (l5.map unitNm)).foldl nAdd z0 = unitNm (dotL l2 l5) := by
    rw [hm, show z0 = unitNm 0 from rfl, unit_fold (win_mul hA hB) (by omega) (by omega), Int.zero_add]
    rfl
  have hd := ndot_at u1 v1 u2 v2 (hU hA) (hU hB) (by rw [List.length_map]; omega)
  rw [hfold] at hd
  have hok : okF (dotL l2 l5 * 16777216) := by unfold okF; omega
  have he : go_env_Encloses (unitNm (dotL l2 l5)).v (unitNm (dotL l2 l5)).lo (unitNm (dotL l2 l5)).hi (unitNm (dotL l2 l5)).bad (dotL l2 l5) 1 = some (enc (unitNm (dotL l2 l5)) (dotL l2 l5) 1) := if_pos ⟨unit_i64 hok, by unfold i64; omega, by unfold i64; omega⟩
  have he2 : enc (unitNm (dotL l2 l5)) (dotL l2 l5) 1 = true := enc_of rfl hok hok (Int.le_refl _) (Int.le_refl _) (by omega) (by unfold okW; omega) (by decide) (by unfold unitNm; dsimp only; omega) (by unfold unitNm; dsimp only; omega)
  rw [e1, Option.bind_some, e2, Option.bind_some]
  dsimp only
  rw [hd, Option.bind_some, rdot_at b0 b1 b3 b4 hA hB k1, Option.bind_some]
  dsimp only [four]
  rw [he, he2]
  rfl
end Go.Proofs
