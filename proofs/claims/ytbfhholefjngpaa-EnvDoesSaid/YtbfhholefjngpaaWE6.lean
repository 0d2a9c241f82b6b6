/-
  Points: the law's contract.
-/
import Derived.Test.YtbfhholefjngpaaFxRun
import Derived.Laws.Bits64
import Derived.Test.YtbfhholefjngpaaWE5
set_option linter.unusedSimpArgs false
set_option linter.unusedVariables false
set_option maxRecDepth 100000
namespace Go.Proofs
open Go Go.Fx Go.Mdlaw Go.Rootlaw Go.Cmplaw

/-- couplet/coupletlaw03.EnvPoints -/
def ir_coupletlaw03_EnvPoints : IR := (.seq (.ops false [⟨(some 4), (.mv (.c (.bool false))), none⟩]) (.seq (.ops false [⟨(some 8), (.mv (.tmp 0)), none⟩, ⟨(some 9), (.call (.func 35) [(.tmp 8)]), none⟩, ⟨(some 10), (.mv (.tmp 1)), none⟩, ⟨(some 11), (.call (.func 35) [(.tmp 10)]), none⟩, ⟨(some 5), (.alloc 36 [(.int .i64 (0)), (.int .i64 (0)), (.int .i64 (0)), (.bool false)]), none⟩, ⟨(some 6), (.alloc 36 [(.int .i64 (0)), (.int .i64 (0)), (.int .i64 (0)), (.bool false)]), none⟩, ⟨none, (.st 4 (.tmp 5) (.tmp 9)), none⟩, ⟨none, (.st 4 (.tmp 6) (.tmp 11)), none⟩]) (.seq (.ops false [⟨(some 7), (.mv (.func 63)), none⟩]) (.seq (.ops false [⟨(some 12), (.mv (.tmp 7)), none⟩, ⟨(some 13), (.ld true 4 (.tmp 5)), none⟩, ⟨(some 14), (.ld true 4 (.tmp 6)), none⟩, ⟨(some 15), (.call (.func 43) [(.tmp 13), (.tmp 14)]), none⟩, ⟨(some 16), (.call (.tmp 12) [(.tmp 15), (.c (.int .i64 (0)))]), none⟩, ⟨(some 17), (.mv (.tmp 16)), none⟩, ⟨(some 18), (.mv (.tmp 7)), (some (17, true))⟩, ⟨(some 19), (.ld true 4 (.tmp 5)), (some (17, true))⟩, ⟨(some 20), (.ld true 4 (.tmp 6)), (some (17, true))⟩, ⟨(some 21), (.call (.func 45) [(.tmp 19), (.tmp 20)]), (some (17, true))⟩, ⟨(some 22), (.call (.tmp 18) [(.tmp 21), (.c (.int .i64 (0)))]), (some (17, true))⟩, ⟨(some 23), (.pick (.tmp 17) (.tmp 22) (.c (.bool false))), none⟩, ⟨(some 24), (.mv (.tmp 23)), none⟩, ⟨(some 25), (.mv (.tmp 7)), (some (24, true))⟩, ⟨(some 26), (.ld true 4 (.tmp 5)), (some (24, true))⟩, ⟨(some 27), (.call (.func 40) [(.tmp 26)]), (some (24, true))⟩, ⟨(some 28), (.call (.tmp 25) [(.tmp 27), (.c (.int .i64 (0)))]), (some (24, true))⟩, ⟨(some 29), (.pick (.tmp 24) (.tmp 28) (.c (.bool false))), none⟩, ⟨(some 30), (.mv (.tmp 29)), none⟩, ⟨(some 31), (.mv (.tmp 7)), (some (30, true))⟩, ⟨(some 32), (.ld true 4 (.tmp 5)), (some (30, true))⟩, ⟨(some 33), (.ld true 4 (.tmp 6)), (some (30, true))⟩, ⟨(some 34), (.call (.func 44) [(.tmp 32), (.tmp 33)]), (some (30, true))⟩, ⟨(some 35), (.call (.tmp 31) [(.tmp 34), (.c (.int .i64 (1)))]), (some (30, true))⟩, ⟨(some 36), (.pick (.tmp 30) (.tmp 35) (.c (.bool false))), none⟩, ⟨(some 37), (.mv (.tmp 36)), none⟩, ⟨(some 38), (.mv (.tmp 7)), (some (37, true))⟩, ⟨(some 39), (.ld true 4 (.tmp 5)), (some (37, true))⟩, ⟨(some 40), (.ld true 4 (.tmp 6)), (some (37, true))⟩, ⟨(some 41), (.call (.func 49) [(.tmp 39), (.tmp 40)]), (some (37, true))⟩, ⟨(some 42), (.call (.tmp 38) [(.tmp 41), (.c (.int .i64 (1)))]), (some (37, true))⟩, ⟨(some 43), (.pick (.tmp 37) (.tmp 42) (.c (.bool false))), none⟩, ⟨(some 44), (.mv (.tmp 43)), none⟩, ⟨(some 45), (.mv (.tmp 7)), (some (44, true))⟩, ⟨(some 46), (.ld true 4 (.tmp 5)), (some (44, true))⟩, ⟨(some 47), (.call (.func 60) [(.tmp 46)]), (some (44, true))⟩, ⟨(some 48), (.call (.tmp 45) [(.tmp 47), (.c (.int .i64 (1)))]), (some (44, true))⟩, ⟨(some 49), (.pick (.tmp 44) (.tmp 48) (.c (.bool false))), none⟩, ⟨(some 50), (.mv (.tmp 49)), none⟩, ⟨(some 51), (.call (.func 42) []), (some (50, true))⟩, ⟨(some 52), (.pick (.tmp 50) (.tmp 51) (.c (.bool false))), none⟩, ⟨(some 4), (.mv (.tmp 52)), none⟩]) .ret))))
theorem ok_coupletlaw03_EnvPoints : compCode Try.prog (Try.f20.body.getD .skip) [] = some (ir_coupletlaw03_EnvPoints, []) := by kernel_rfl
def live_coupletlaw03_EnvPoints : List (List Nat) := []

/-- couplet/coupletlaw03.EnvPoints$1 -/
def ir_coupletlaw03_EnvPoints_1 : IR := (.seq (.ops false [⟨(some 2), (.box 36 (.tmp 0)), none⟩, ⟨(some 4), (.mv (.c (.bool false))), none⟩]) (.seq (.ops false [⟨(some 5), (.fldA 3 (.tmp 2)), none⟩, ⟨(some 6), (.ld false 1 (.tmp 5)), none⟩, ⟨(some 7), (.mv (.tmp 6)), none⟩, ⟨(some 8), (.fldA 2 (.tmp 2)), (some (7, false))⟩, ⟨(some 9), (.ld false 1 (.tmp 8)), (some (7, false))⟩, ⟨(some 10), (.fldA 1 (.tmp 2)), (some (7, false))⟩, ⟨(some 11), (.ld false 1 (.tmp 10)), (some (7, false))⟩, ⟨(some 12), (.bin .sub (.tmp 9) (.tmp 11)), (some (7, false))⟩, ⟨(some 13), (.mv (.tmp 1)), (some (7, false))⟩, ⟨(some 14), (.bin .leq (.tmp 12) (.tmp 13)), (some (7, false))⟩, ⟨(some 15), (.pick (.tmp 7) (.c (.bool true)) (.tmp 14)), none⟩, ⟨(some 4), (.mv (.tmp 15)), none⟩]) .ret))
theorem ok_coupletlaw03_EnvPoints_1 : compCode Try.prog (Try.f63.body.getD .skip) [] = some (ir_coupletlaw03_EnvPoints_1, []) := by kernel_rfl
def live_coupletlaw03_EnvPoints_1 : List (List Nat) := []


def slim (x : Nm) (m : Int) : Bool := x.bad || decide (IntKind.i64.wrap (x.hi - x.lo) ≤ m)

theorem fn_slim (G : Glob) (x : Nm) (m : Int) : FunEq Try.prog G 63 [x.pv, .int .i64 m] (.bool (slim x m)) := by
  refine fun_of_vc live_coupletlaw03_EnvPoints_1 Try.func63 rfl (by kernel_rfl) ok_coupletlaw03_EnvPoints_1 (by kernel_rfl) Try.ntmps63 (run_of ?_)
  simp only [run_seq, run_ops, run_opsNil, run_ret, run_op0, run_opG, run_pick, runP, run_box, Ins.kind, IOp.apps, List.any_cons, List.any_nil, gAct, pev, Ins.calm, Ins.opds, sureL, evS, St.put, List.map, List.map_cons, List.length_cons, List.length_nil, List.replicate, List.cons_append, List.nil_append, List.getD_cons_zero, List.getD_cons_succ, List.set_cons_zero, List.set_cons_succ, SV.res, SV.strip, SV.sure, SV.cells, PV.cells, SV.scal, PV.scal, SV.ld, binV, if_true, Bool.false_eq_true, if_false, SV.mix, true_and, and_true, Nat.reduceSub, Nat.zero_add, Nat.reduceAdd, implies_true, cond_true, cond_false, List.all_cons, Bool.and_self, Bool.and_true, Bool.true_and, Nat.reduceLeDiff, List.take, List.drop, Nat.reduceBEq, Bool.or_false, Bool.or_self, Option.map_some, beq_self_eq_true, List.all, imp_self, Bool.not_eq_true', and_self, aggS, allP, Bool.cond_true_left, ir_coupletlaw03_EnvPoints_1, Try.results63, Nm.pv]
  simp only [List.append_nil, List.getD_cons_zero, List.getD_cons_succ, SV.res, Bool.and_self, fzL, List.foldl_nil, SV.ids, List.flatMap_cons, List.flatMap_nil, SV.pvS, and_self, resK, resSV, oneSV, slim]

theorem made_cases (f : Fn) (a b : Nm) (P : List (Int × Int)) : made f a b P = wrong ∨
    ((f a.v b.v 0).2 = true ∧ isAll f P = true ∧ fine a = true ∧ fine b = true ∧ made f a b P = ⟨(f a.v b.v 0).1, least (lows f P), greatest (highs f P), false⟩) := by
  unfold made
  split
  · rename_i h
    simp only [Bool.and_eq_true] at h
    exact .inr ⟨h.1.1.1, h.1.1.2, h.1.2, h.2, rfl⟩
  · exact .inl rfl

theorem point_cases (n : Int) : point n = wrong ∨ (okF n ∧ point n = ⟨n, n, n, false⟩) := by
  unfold point
  split
  · exact .inr ⟨‹_›, rfl⟩
  · exact .inl rfl

theorem fine_wrong : fine wrong = false := rfl

theorem slim_of {x : Nm} {m : Int} (h : 0 ≤ x.hi - x.lo) (h2 : x.hi - x.lo ≤ m) (hm : m ≤ 1) : slim x m = true := by
  unfold slim
  rw [wrap_i64_id (by unfold i64; omega), decide_eq_true h2, Bool.or_true]
theorem slim_wrong (m : Int) : slim wrong m = true := rfl

theorem least_same (x : Int) : least [x, x] = x := by simp [least, Int.min_def]
theorem greatest_same (x : Int) : greatest [x, x] = x := by simp [greatest, Int.max_def]
theorem least_same4 (x : Int) : least [x, x, x, x] = x := by simp [least, Int.min_def]
theorem greatest_same4 (x : Int) : greatest [x, x, x, x] = x := by simp [greatest, Int.max_def]

theorem slim_add (n m : Int) : slim (nAdd (point n) (point m)) 0 = true := by
  unfold nAdd
  rcases made_cases (fun x y _ => fAdd x y) (point n) (point m) [((point n).lo, (point m).lo), ((point n).hi, (point m).hi)] with h | ⟨h1, h2, h3, h4, h⟩
  · rw [h]; rfl
  · rw [h]
    rcases point_cases n with e | ⟨o, e⟩
    · rw [e, fine_wrong] at h3; cases h3
    rcases point_cases m with e' | ⟨o', e'⟩
    · rw [e', fine_wrong] at h4; cases h4
    rw [e, e']
    simp only [lows, highs, List.map_cons, List.map_nil, least_same, greatest_same]
    exact slim_of (by simp) (by simp) (by omega)

theorem slim_sub (a b : Nm) (ha : a = wrong ∨ ∃ n, a = ⟨n, n, n, false⟩) (hb : b = wrong ∨ ∃ n, b = ⟨n, n, n, false⟩) : slim (nSub a b) 0 = true := by
  unfold nSub
  rcases made_cases (fun x y _ => fSub x y) a b [(a.lo, b.hi), (a.hi, b.lo)] with h | ⟨h1, h2, h3, h4, h⟩
  · rw [h]; rfl
  · rw [h]
    rcases ha with e | ⟨n, e⟩
    · rw [e, fine_wrong] at h3; cases h3
    rcases hb with e' | ⟨m, e'⟩
    · rw [e', fine_wrong] at h4; cases h4
    rw [e, e']
    simp only [lows, highs, List.map_cons, List.map_nil, least_same, greatest_same]
    exact slim_of (by simp) (by simp) (by omega)

theorem point_form (n : Int) : point n = wrong ∨ ∃ k, point n = ⟨k, k, k, false⟩ := by
  rcases point_cases n with e | ⟨_, e⟩
  · exact .inl e
  · exact .inr ⟨n, e⟩

theorem td_some {n : Int} {is : Bool} {L : List Int} (h : (td n is L).2 = true) : (td n is L).1 = n ∧ is = true := by
  unfold td at *
  split at h
  · rename_i hh; rw [if_pos hh]; exact ⟨rfl, hh.1⟩
  · cases h

theorem md_some' {a b c m : Int} (h : (md a b c m).2 = true) : okM a b c m := Decidable.byContradiction fun hn => by rw [md_neg hn] at h; cases h

theorem fMul_modes {a b : Int} (h0 : (fMul a b 0).2 = true) (h1 : (fMul a b 1).2 = true) (h2 : (fMul a b 2).2 = true) : 0 ≤ (fMul a b 2).1 - (fMul a b 1).1 ∧ (fMul a b 2).1 - (fMul a b 1).1 ≤ 1 := by
  unfold fMul at *
  have e0 := td_some h0
  have e1 := td_some h1
  have e2 := td_some h2
  rw [e1.1, e2.1]
  have := md_modes (md_some' e0.2) e1.2 e0.2 e2.2
  omega
theorem fDiv_modes {a b : Int} (h0 : (fDiv a b 0).2 = true) (h1 : (fDiv a b 1).2 = true) (h2 : (fDiv a b 2).2 = true) : 0 ≤ (fDiv a b 2).1 - (fDiv a b 1).1 ∧ (fDiv a b 2).1 - (fDiv a b 1).1 ≤ 1 := by
  unfold fDiv at *
  have e0 := td_some h0
  have e1 := td_some h1
  have e2 := td_some h2
  rw [e1.1, e2.1]
  have := md_modes (md_some' e0.2) e1.2 e0.2 e2.2
  omega
theorem fRt_modes {a : Int} (h1 : (fRt a 1).2 = true) (h2 : (fRt a 2).2 = true) : 0 ≤ (fRt a 2).1 - (fRt a 1).1 ∧ (fRt a 2).1 - (fRt a 1).1 ≤ 1 := by
  unfold fRt fRoot at *
  have e1 := td_some h1
  have e2 := td_some h2
  rw [e1.1, e2.1]
  unfold rt at *
  have o1 : okRt a 16777216 1 := Decidable.byContradiction fun hn => by rw [if_neg hn] at e1; cases e1.2
  have o2 : okRt a 16777216 2 := ⟨o1.1, by omega⟩
  rw [if_pos o1, if_pos o2]
  have hu : rup 1 (isq a) (a.natAbs * (16777216 : Int).natAbs) = false := by unfold rup; simp
  rw [hu]
  have := Bool.toNat_le (rup 2 (isq a) (a.natAbs * (16777216 : Int).natAbs))
  simp only [Bool.toNat_false, Nat.add_zero]
  omega

theorem slim_mul (a b : Nm) (ha : a = wrong ∨ ∃ n, a = ⟨n, n, n, false⟩) (hb : b = wrong ∨ ∃ n, b = ⟨n, n, n, false⟩) : slim (nMul a b) 1 = true := by
  unfold nMul
  rcases made_cases fMul a b (pairs4 a b) with h | ⟨h1, h2, h3, h4, h⟩
  · rw [h]; rfl
  · rw [h]
    rcases ha with e | ⟨n, e⟩
    · rw [e, fine_wrong] at h3; cases h3
    rcases hb with e' | ⟨m, e'⟩
    · rw [e', fine_wrong] at h4; cases h4
    rw [e, e'] at h1 h2 ⊢
    simp only [pairs4, isAll, List.all_cons, Bool.and_eq_true] at h2
    simp only [pairs4, lows, highs, List.map_cons, List.map_nil, least_same4, greatest_same4]
    have := fMul_modes h1 h2.1.1 h2.1.2
    exact slim_of this.1 this.2 (by omega)

theorem slim_div (a b : Nm) (ha : a = wrong ∨ ∃ n, a = ⟨n, n, n, false⟩) (hb : b = wrong ∨ ∃ n, b = ⟨n, n, n, false⟩) : slim (nDiv a b) 1 = true := by
  unfold nDiv
  split
  · rfl
  rcases made_cases fDiv a b (pairs4 a b) with h | ⟨h1, h2, h3, h4, h⟩
  · rw [h]; rfl
  · rw [h]
    rcases ha with e | ⟨n, e⟩
    · rw [e, fine_wrong] at h3; cases h3
    rcases hb with e' | ⟨m, e'⟩
    · rw [e', fine_wrong] at h4; cases h4
    rw [e, e'] at h1 h2 ⊢
    simp only [pairs4, isAll, List.all_cons, Bool.and_eq_true] at h2
    simp only [pairs4, lows, highs, List.map_cons, List.map_nil, least_same4, greatest_same4]
    have := fDiv_modes h1 h2.1.1 h2.1.2
    exact slim_of this.1 this.2 (by omega)

theorem slim_root (a : Nm) (ha : a = wrong ∨ ∃ n, a = ⟨n, n, n, false⟩) : slim (nRoot a) 1 = true := by
  unfold nRoot
  rcases made_cases (fun x _ m => fRt x m) a a [(a.lo, a.lo), (a.hi, a.hi)] with h | ⟨h1, h2, h3, h4, h⟩
  · rw [h]; rfl
  · rw [h]
    rcases ha with e | ⟨n, e⟩
    · rw [e, fine_wrong] at h3; cases h3
    rw [e] at h2 ⊢
    simp only [isAll, List.all_cons, Bool.and_eq_true] at h2
    simp only [lows, highs, List.map_cons, List.map_nil, least_same, greatest_same]
    have := fRt_modes h2.1.1 h2.1.2
    exact slim_of this.1 this.2 (by omega)

theorem made_i64 (f : Fn) (a b : Nm) (P : List (Int × Int)) (h : ∀ x y m, i64 (f x y m).1) (hl : i64 (least (lows f P))) (hg : i64 (greatest (highs f P))) : i64N (made f a b P) := by
  rcases made_cases f a b P with e | ⟨_, _, _, _, e⟩
  · rw [e]; unfold i64N i64 wrong; dsimp only; omega
  · rw [e]; exact ⟨h _ _ _, hl, hg⟩

set_option maxHeartbeats 4000000 in
theorem fn_EnvPoints (G : Glob) (n m : Int) (hn : i64 n) (hm : i64 m) : FunEq Try.prog G 20 [.int .i64 n, .int .i64 m] (.bool true) := by
  have c1 := fn_Point G n
  have c2 := fn_Point G m
  have pn := point_i64 n
  have pm := point_i64 m
  have fn' := point_form n
  have fm' := point_form m
  have k1 := fn_Num_Add G (point n) (point m) pn pm
  have k2 := fn_Num_Sub G (point n) (point m) pn pm
  have k3 := fn_Num_Neg G (point n) pn
  have k4 := fn_Num_Mul G (point n) (point m) pn pm
  have k5 := fn_Num_Div G (point n) (point m) pn pm
  have k6 := fn_Num_Root G (point n) pn
  have s1 := fn_slim G (nAdd (point n) (point m)) 0
  have s2 := fn_slim G (nSub (point n) (point m)) 0
  have s3 := fn_slim G (nSub (point 0) (point n)) 0
  have s4 := fn_slim G (nMul (point n) (point m)) 1
  have s5 := fn_slim G (nDiv (point n) (point m)) 1
  have s6 := fn_slim G (nRoot (point n)) 1
  rw [slim_add] at s1
  rw [slim_sub _ _ fn' fm'] at s2
  rw [slim_sub _ _ (point_form 0) fn'] at s3
  rw [slim_mul _ _ fn' fm'] at s4
  rw [slim_div _ _ fn' fm'] at s5
  rw [slim_root _ fn'] at s6
  have cw := fn_awake3 G
  generalize nAdd (point n) (point m) = r1 at *
  generalize nSub (point n) (point m) = r2 at *
  generalize nSub (point 0) (point n) = r3 at *
  generalize nMul (point n) (point m) = r4 at *
  generalize nDiv (point n) (point m) = r5 at *
  generalize nRoot (point n) = r6 at *
  generalize point n = a at *
  generalize point m = b at *
  refine fun_of_vc live_coupletlaw03_EnvPoints Try.func20 rfl (by kernel_rfl) ok_coupletlaw03_EnvPoints (by kernel_rfl) Try.ntmps20 (run_of ?_)
  simp only [run_seq, run_ops, run_opsNil, run_op0, run_opG, run_alloc, run_st, Ins.kind, IOp.apps, List.any_cons, List.any_nil, gAct, pev, Ins.calm, Ins.opds, sureL, evS, St.put, List.map, List.length_cons, List.length_nil, List.replicate, List.cons_append, List.nil_append, List.getD_cons_zero, List.getD_cons_succ, List.set_cons_zero, List.set_cons_succ, SV.res, SV.strip, SV.sure, SV.cells, SV.scal, PV.scal, SV.ld, if_true, Bool.false_eq_true, if_false, true_and, and_true, Nat.reduceSub, Nat.zero_add, Nat.reduceAdd, cond_true, cond_false, List.all_cons, Bool.and_self, Bool.and_true, Bool.true_and, Nat.reduceLeDiff, List.take, List.drop, Nat.reduceBEq, Bool.or_false, Bool.or_true, Bool.or_self, Option.map_some, spliceL, beq_self_eq_true, Nat.reduceEqDiff, List.all, and_self, aggS, allP, ir_coupletlaw03_EnvPoints, Try.results20]
  refine run_call c1 _ rfl (by exact ⟨trivial, trivial⟩) rfl rfl rfl trivial trivial ?_
  simp only [run_seq, run_ops, run_opsNil, run_op0, run_opG, run_alloc, run_st, Ins.kind, IOp.apps, List.any_cons, List.any_nil, gAct, pev, Ins.calm, Ins.opds, sureL, evS, St.put, List.map, List.length_cons, List.length_nil, List.nil_append, List.append_nil, List.getD_cons_zero, List.getD_cons_succ, List.set_cons_zero, List.set_cons_succ, SV.res, SV.strip, SV.sure, SV.cells, PV.cells, SV.scal, PV.scal, SV.ld, PV.ld, if_true, Bool.false_eq_true, if_false, true_and, and_true, Nat.zero_add, cond_false, List.all_cons, Bool.and_self, Bool.and_true, Bool.true_and, Nat.reduceBEq, Bool.or_self, fzL, List.foldl_nil, SV.ids, boxIds, List.flatMap_cons, List.flatMap_nil, spliceL, Nat.reduceEqDiff, List.all, and_self, List.getD_nil, aggS]
  refine run_call c2 _ rfl (by exact ⟨trivial, trivial⟩) rfl rfl rfl trivial trivial ?_
  simp only [run_seq, run_ops, run_opsNil, run_op0, run_opG, run_alloc, run_st, Ins.kind, IOp.apps, List.any_cons, List.any_nil, gAct, pev, Ins.calm, Ins.opds, sureL, evS, St.put, List.map, List.map_cons, List.length_cons, List.length_nil, List.cons_append, List.nil_append, List.append_nil, List.getD_cons_zero, List.getD_cons_succ, List.set_cons_zero, List.set_cons_succ, SV.res, SV.strip, SV.sure, SV.cells, PV.cells, SV.scal, PV.scal, SV.ld, if_true, Bool.false_eq_true, if_false, true_and, Nat.zero_add, Nat.reduceAdd, cond_false, List.all_cons, Bool.and_self, Bool.true_and, Nat.reduceLeDiff, List.take, List.drop, Nat.reduceBEq, Bool.or_self, Option.map_some, fzL, List.foldl_nil, SV.ids, boxIds, List.flatMap_cons, List.flatMap_nil, PV.flat, PV.flatL, spliceL, List.all, and_self, List.getD_nil, aggS, allP, Nm.pv]
  refine run_call k1 _ rfl (by exact ⟨trivial, trivial, trivial⟩) rfl rfl rfl trivial trivial ?_
  simp only [run_op0, run_opG, gAct, pev, Ins.calm, Ins.opds, sureL, evS, St.put, List.append_nil, List.getD_cons_zero, List.getD_cons_succ, List.set_cons_zero, List.set_cons_succ, SV.res, SV.strip, SV.sure, if_true, Bool.false_eq_true, if_false, true_and, Bool.and_self, Bool.true_and, fzL, List.foldl_nil, SV.ids, boxIds, List.flatMap_cons, List.flatMap_nil, and_self]
  refine run_call s1 _ rfl (by exact ⟨trivial, trivial, trivial⟩) rfl rfl rfl trivial trivial ?_
  simp only [run_op0, run_opG, run_pick, runP, gAct, pev, Ins.calm, Ins.opds, sureL, evS, St.put, List.length_cons, List.length_nil, List.append_nil, List.getD_cons_zero, List.getD_cons_succ, List.set_cons_zero, List.set_cons_succ, SV.res, SV.strip, SV.sure, SV.ld, if_true, Bool.false_eq_true, if_false, SV.mix, true_and, Nat.zero_add, Nat.reduceAdd, implies_true, cond_true, Bool.and_self, Bool.true_and, Nat.reduceLeDiff, List.take, List.drop, Option.map_some, fzL, List.foldl_nil, SV.ids, boxIds, List.flatMap_cons, List.flatMap_nil, PV.flat, PV.flatL, Bool.not_true, true_implies, and_self, aggS, allP, Nm.pv]
  refine run_callG (fun _ => k2) _ rfl (by exact fun h => ⟨trivial, h, h⟩) rfl rfl rfl trivial trivial ?_
  simp only [run_op0, run_opG, run_pick, runP, gAct, pev, Ins.calm, Ins.opds, sureL, evS, St.put, List.append_nil, List.getD_cons_zero, List.getD_cons_succ, List.set_cons_zero, List.set_cons_succ, SV.res, SV.strip, SV.sure, if_true, Bool.false_eq_true, if_false, SV.mix, true_and, implies_true, cond_true, Bool.and_self, Bool.true_and, fzL, List.foldl_nil, SV.ids, boxIds, List.flatMap_cons, List.flatMap_nil, Bool.not_true, true_implies, and_self]
  refine run_callG (fun _ => s2) _ rfl (by exact fun h => ⟨h, h, trivial⟩) rfl rfl rfl trivial trivial ?_
  simp only [run_op0, run_opG, run_pick, runP, gAct, pev, Ins.calm, Ins.opds, sureL, evS, St.put, List.length_cons, List.length_nil, List.append_nil, List.getD_cons_zero, List.getD_cons_succ, List.set_cons_zero, List.set_cons_succ, SV.res, SV.strip, SV.sure, SV.ld, if_true, Bool.false_eq_true, if_false, SV.mix, true_and, Nat.zero_add, Nat.reduceAdd, implies_true, cond_true, Bool.and_self, Bool.true_and, Nat.reduceLeDiff, List.take, List.drop, Option.map_some, fzL, List.foldl_nil, SV.ids, boxIds, List.flatMap_cons, List.flatMap_nil, PV.flat, PV.flatL, Bool.not_true, true_implies, and_self, aggS, allP, Nm.pv]
  refine run_callG (fun _ => k3) _ rfl (by exact fun h => ⟨trivial, h⟩) rfl rfl rfl trivial trivial ?_
  simp only [run_op0, run_opG, run_pick, runP, gAct, pev, Ins.calm, Ins.opds, sureL, evS, St.put, List.append_nil, List.getD_cons_zero, List.getD_cons_succ, List.set_cons_zero, List.set_cons_succ, SV.res, SV.strip, SV.sure, if_true, Bool.false_eq_true, if_false, SV.mix, true_and, implies_true, cond_true, Bool.and_self, Bool.true_and, fzL, List.foldl_nil, SV.ids, boxIds, List.flatMap_cons, List.flatMap_nil, Bool.not_true, true_implies, and_self]
  refine run_callG (fun _ => s3) _ rfl (by exact fun h => ⟨h, h, trivial⟩) rfl rfl rfl trivial trivial ?_
  simp only [run_op0, run_opG, run_pick, runP, gAct, pev, Ins.calm, Ins.opds, sureL, evS, St.put, List.length_cons, List.length_nil, List.append_nil, List.getD_cons_zero, List.getD_cons_succ, List.set_cons_zero, List.set_cons_succ, SV.res, SV.strip, SV.sure, SV.ld, if_true, Bool.false_eq_true, if_false, SV.mix, true_and, Nat.zero_add, Nat.reduceAdd, implies_true, cond_true, Bool.and_self, Bool.true_and, Nat.reduceLeDiff, List.take, List.drop, Option.map_some, fzL, List.foldl_nil, SV.ids, boxIds, List.flatMap_cons, List.flatMap_nil, PV.flat, PV.flatL, Bool.not_true, true_implies, and_self, aggS, allP, Nm.pv]
  refine run_callG (fun _ => k4) _ rfl (by exact fun h => ⟨trivial, h, h⟩) rfl rfl rfl trivial trivial ?_
  simp only [run_op0, run_opG, run_pick, runP, gAct, pev, Ins.calm, Ins.opds, sureL, evS, St.put, List.append_nil, List.getD_cons_zero, List.getD_cons_succ, List.set_cons_zero, List.set_cons_succ, SV.res, SV.strip, SV.sure, if_true, Bool.false_eq_true, if_false, SV.mix, true_and, implies_true, cond_true, Bool.and_self, Bool.true_and, fzL, List.foldl_nil, SV.ids, boxIds, List.flatMap_cons, List.flatMap_nil, Bool.not_true, true_implies, and_self]
  refine run_callG (fun _ => s4) _ rfl (by exact fun h => ⟨h, h, trivial⟩) rfl rfl rfl trivial trivial ?_
  simp only [run_op0, run_opG, run_pick, runP, gAct, pev, Ins.calm, Ins.opds, sureL, evS, St.put, List.length_cons, List.length_nil, List.append_nil, List.getD_cons_zero, List.getD_cons_succ, List.set_cons_zero, List.set_cons_succ, SV.res, SV.strip, SV.sure, SV.ld, if_true, Bool.false_eq_true, if_false, SV.mix, true_and, Nat.zero_add, Nat.reduceAdd, implies_true, cond_true, Bool.and_self, Bool.true_and, Nat.reduceLeDiff, List.take, List.drop, Option.map_some, fzL, List.foldl_nil, SV.ids, boxIds, List.flatMap_cons, List.flatMap_nil, PV.flat, PV.flatL, Bool.not_true, true_implies, and_self, aggS, allP, Nm.pv]
  refine run_callG (fun _ => k5) _ rfl (by exact fun h => ⟨trivial, h, h⟩) rfl rfl rfl trivial trivial ?_
  simp only [run_op0, run_opG, run_pick, runP, gAct, pev, Ins.calm, Ins.opds, sureL, evS, St.put, List.append_nil, List.getD_cons_zero, List.getD_cons_succ, List.set_cons_zero, List.set_cons_succ, SV.res, SV.strip, SV.sure, if_true, Bool.false_eq_true, if_false, SV.mix, true_and, implies_true, cond_true, Bool.and_self, Bool.true_and, fzL, List.foldl_nil, SV.ids, boxIds, List.flatMap_cons, List.flatMap_nil, Bool.not_true, true_implies, and_self]
  refine run_callG (fun _ => s5) _ rfl (by exact fun h => ⟨h, h, trivial⟩) rfl rfl rfl trivial trivial ?_
  simp only [run_op0, run_opG, run_pick, runP, gAct, pev, Ins.calm, Ins.opds, sureL, evS, St.put, List.length_cons, List.length_nil, List.append_nil, List.getD_cons_zero, List.getD_cons_succ, List.set_cons_zero, List.set_cons_succ, SV.res, SV.strip, SV.sure, SV.ld, if_true, Bool.false_eq_true, if_false, SV.mix, true_and, Nat.zero_add, Nat.reduceAdd, implies_true, cond_true, Bool.and_self, Bool.true_and, Nat.reduceLeDiff, List.take, List.drop, Option.map_some, fzL, List.foldl_nil, SV.ids, boxIds, List.flatMap_cons, List.flatMap_nil, PV.flat, PV.flatL, Bool.not_true, true_implies, and_self, aggS, allP, Nm.pv]
  refine run_callG (fun _ => k6) _ rfl (by exact fun h => ⟨trivial, h⟩) rfl rfl rfl trivial trivial ?_
  simp only [run_op0, run_opG, run_pick, runP, gAct, pev, Ins.calm, Ins.opds, sureL, evS, St.put, List.append_nil, List.getD_cons_zero, List.getD_cons_succ, List.set_cons_zero, List.set_cons_succ, SV.res, SV.strip, SV.sure, if_true, Bool.false_eq_true, if_false, SV.mix, true_and, implies_true, cond_true, Bool.and_self, Bool.true_and, fzL, List.foldl_nil, SV.ids, boxIds, List.flatMap_cons, List.flatMap_nil, Bool.not_true, true_implies, and_self]
  refine run_callG (fun _ => s6) _ rfl (by exact fun h => ⟨h, h, trivial⟩) rfl rfl rfl trivial trivial ?_
  simp only [run_opsNil, run_ret, run_op0, run_opG, run_pick, runP, gAct, pev, Ins.calm, Ins.opds, sureL, evS, St.put, List.append_nil, List.getD_cons_zero, List.getD_cons_succ, List.set_cons_zero, List.set_cons_succ, SV.res, SV.strip, SV.sure, if_true, Bool.false_eq_true, if_false, SV.mix, true_and, implies_true, cond_true, Bool.and_self, Bool.true_and, fzL, List.foldl_nil, SV.ids, boxIds, List.flatMap_cons, List.flatMap_nil, PV.flat, Bool.not_true, true_implies, and_self]
  refine run_callG (fun _ => cw) _ rfl (by exact fun h => trivial) rfl rfl rfl trivial trivial ?_
  simp only [run_opsNil, run_ret, run_op0, run_pick, runP, pev, Ins.calm, Ins.opds, sureL, evS, St.put, List.append_nil, List.getD_cons_zero, List.getD_cons_succ, List.set_cons_zero, List.set_cons_succ, SV.res, SV.strip, SV.sure, if_true, Bool.false_eq_true, if_false, SV.mix, true_and, implies_true, cond_true, Bool.true_and, fzL, List.foldl_nil, SV.ids, boxIds, List.flatMap_cons, List.flatMap_nil, PV.flat]
  simp only [List.append_nil, List.getD_cons_zero, List.getD_cons_succ, SV.res, Bool.and_self, fzL, List.foldl_nil, SV.ids, List.flatMap_cons, List.flatMap_nil, SV.pvS, and_self, resK, resSV, oneSV]
end Go.Proofs
