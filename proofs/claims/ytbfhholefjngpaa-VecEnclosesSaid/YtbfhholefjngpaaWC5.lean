import Derived.Test.YtbfhholefjngpaaFxRun
import Derived.Laws.Bits64
import Derived.Test.YtbfhholefjngpaaWCmplaw
set_option linter.unusedSimpArgs false
set_option linter.unusedVariables false
set_option maxRecDepth 100000
namespace Go.Proofs
open Go Go.Fx Go.Mdlaw Go.Cmplaw
def ir_wide_Compare_1 : IR := (.seq (.ops false [⟨(some 4), (.mv (.c (.int .i64 (0)))), none⟩]) (.seq (.block 0 (.seq (.ops false [⟨(some 6), (.mv (.tmp 0)), none⟩, ⟨(some 7), (.bin .eql (.tmp 6) (.c (.int .i64 (0)))), none⟩, ⟨(some 8), (.mv (.tmp 7)), none⟩, ⟨(some 9), (.mv (.tmp 1)), (some (8, false))⟩, ⟨(some 10), (.bin .eql (.tmp 9) (.c (.int .i64 (0)))), (some (8, false))⟩, ⟨(some 11), (.pick (.tmp 8) (.c (.bool true)) (.tmp 10)), none⟩, ⟨(some 5), (.mv (.tmp 11)), none⟩]) (.cond (.tmp 5) (.seq (.ops false [⟨(some 4), (.mv (.c (.int .i64 (0)))), none⟩]) .ret) (.seq (.ops false [⟨(some 13), (.mv (.tmp 0)), none⟩, ⟨(some 14), (.bin .lss (.tmp 13) (.c (.int .i64 (0)))), none⟩, ⟨(some 15), (.mv (.tmp 1)), none⟩, ⟨(some 16), (.bin .lss (.tmp 15) (.c (.int .i64 (0)))), none⟩, ⟨(some 17), (.binB true (.tmp 14) (.tmp 16)), none⟩, ⟨(some 12), (.mv (.tmp 17)), none⟩]) (.cond (.tmp 12) (.seq (.ops false [⟨(some 4), (.mv (.c (.int .i64 (-1)))), none⟩]) .ret) .skip))))) (.seq (.ops false [⟨(some 4), (.mv (.c (.int .i64 (1)))), none⟩]) .ret)))
theorem ok_wide_Compare_1 : compCode Try.prog (Try.f81.body.getD .skip) [] = some (ir_wide_Compare_1, []) := by kernel_rfl
def live_wide_Compare_1 : List (List Nat) := []
def ir_wide_Compare : IR := (.seq (.ops false [⟨(some 8), (.mv (.c (.int .i64 (0)))), none⟩]) (.seq (.seq (.ops false [⟨(some 16), (.mv (.tmp 0)), none⟩, ⟨(some 17), (.mv (.tmp 1)), none⟩, ⟨(some 18), (.mv (.tmp 2)), none⟩, ⟨(some 19), (.mv (.tmp 3)), none⟩, ⟨(some 20), (.build [(.int .i64 (0)), (.int .i64 (0)), (.int .i64 (0)), (.int .i64 (0))] [(0, (1, (.tmp 16))), (1, (1, (.tmp 17))), (2, (1, (.tmp 18))), (3, (1, (.tmp 19)))]), none⟩, ⟨(some 21), (.mv (.c (.int .i64 (0)))), none⟩]) (.block 0 (.loop [0, 1, 2, 3, 20, 21] (.seq (.ops false [⟨(some 22), (.bin .lss (.tmp 21) (.c (.int .i64 (4)))), none⟩]) (.seq (.cond (.tmp 22) .skip (.exit 0)) (.seq (.block 1 (.seq (.ops false [⟨(some 23), (.ixV false 1 4 (.tmp 20) (.tmp 21)), none⟩, ⟨(some 10), (.mv (.tmp 23)), none⟩]) (.seq (.ops false [⟨(some 24), (.mv (.tmp 10)), none⟩, ⟨(some 25), (.call (.func 26) [(.tmp 24)]), none⟩, ⟨(some 26), (.un .not (.tmp 25)), none⟩]) (.cond (.tmp 26) (.seq (.ops false [⟨(some 8), (.mv (.c (.int .i64 (0)))), none⟩]) .ret) .skip)))) (.ops false [⟨(some 27), (.bin .add (.tmp 21) (.c (.int .i64 (1)))), none⟩, ⟨(some 21), (.mv (.tmp 27)), none⟩]))))))) (.seq (.ops false [⟨(some 11), (.mv (.func 81)), none⟩]) (.seq (.ops false [⟨(some 28), (.mv (.tmp 11)), none⟩, ⟨(some 29), (.mv (.tmp 0)), none⟩, ⟨(some 30), (.mv (.tmp 1)), none⟩, ⟨(some 31), (.call (.tmp 28) [(.tmp 29), (.tmp 30)]), none⟩, ⟨(some 32), (.mv (.tmp 11)), none⟩, ⟨(some 33), (.mv (.tmp 2)), none⟩, ⟨(some 34), (.mv (.tmp 3)), none⟩, ⟨(some 35), (.call (.tmp 32) [(.tmp 33), (.tmp 34)]), none⟩, ⟨(some 12), (.mv (.tmp 31)), none⟩, ⟨(some 13), (.mv (.tmp 35)), none⟩]) (.seq (.ops false [⟨(some 36), (.mv (.tmp 0)), none⟩, ⟨(some 37), (.call (.func 73) [(.tmp 36)]), none⟩, ⟨(some 38), (.mv (.tmp 1)), none⟩, ⟨(some 39), (.call (.func 73) [(.tmp 38)]), none⟩, ⟨(some 40), (.call (.func 72) [(.tmp 37), (.tmp 39)]), none⟩, ⟨(some 41), (.mv (.tmp 2)), none⟩, ⟨(some 42), (.call (.func 73) [(.tmp 41)]), none⟩, ⟨(some 43), (.mv (.tmp 3)), none⟩, ⟨(some 44), (.call (.func 73) [(.tmp 43)]), none⟩, ⟨(some 45), (.call (.func 72) [(.tmp 42), (.tmp 44)]), none⟩, ⟨(some 14), (.alloc 75 [(.int .u64 (0)), (.int .u64 (0))]), none⟩, ⟨(some 15), (.alloc 75 [(.int .u64 (0)), (.int .u64 (0))]), none⟩, ⟨none, (.st 2 (.tmp 14) (.tmp 40)), none⟩, ⟨none, (.st 2 (.tmp 15) (.tmp 45)), none⟩]) (.seq (.block 2 (.seq (.seq (.ops false [⟨(some 47), (.mv (.tmp 12)), none⟩, ⟨(some 48), (.mv (.tmp 13)), none⟩, ⟨(some 49), (.bin .lss (.tmp 47) (.tmp 48)), none⟩, ⟨(some 46), (.mv (.tmp 49)), none⟩]) (.cond (.tmp 46) .skip (.seq (.ops false [⟨(some 50), (.mv (.tmp 12)), none⟩, ⟨(some 51), (.mv (.tmp 13)), none⟩, ⟨(some 52), (.bin .eql (.tmp 50) (.tmp 51)), none⟩, ⟨(some 53), (.mv (.tmp 52)), none⟩, ⟨(some 54), (.mv (.tmp 12)), (some (53, true))⟩, ⟨(some 55), (.bin .gtr (.tmp 54) (.c (.int .i64 (0)))), (some (53, true))⟩, ⟨(some 56), (.pick (.tmp 53) (.tmp 55) (.c (.bool false))), none⟩, ⟨(some 57), (.mv (.tmp 56)), none⟩, ⟨(some 58), (.ld true 2 (.tmp 14)), (some (57, true))⟩, ⟨(some 59), (.ld true 2 (.tmp 15)), (some (57, true))⟩, ⟨(some 60), (.call (.func 82) [(.tmp 58), (.tmp 59)]), (some (57, true))⟩, ⟨(some 61), (.pick (.tmp 57) (.tmp 60) (.c (.bool false))), none⟩, ⟨(some 46), (.mv (.tmp 61)), none⟩]) (.cond (.tmp 46) .skip (.ops false [⟨(some 62), (.mv (.tmp 12)), none⟩, ⟨(some 63), (.mv (.tmp 13)), none⟩, ⟨(some 64), (.bin .eql (.tmp 62) (.tmp 63)), none⟩, ⟨(some 65), (.mv (.tmp 64)), none⟩, ⟨(some 66), (.mv (.tmp 12)), (some (65, true))⟩, ⟨(some 67), (.bin .lss (.tmp 66) (.c (.int .i64 (0)))), (some (65, true))⟩, ⟨(some 68), (.pick (.tmp 65) (.tmp 67) (.c (.bool false))), none⟩, ⟨(some 69), (.mv (.tmp 68)), none⟩, ⟨(some 70), (.ld true 2 (.tmp 15)), (some (69, true))⟩, ⟨(some 71), (.ld true 2 (.tmp 14)), (some (69, true))⟩, ⟨(some 72), (.call (.func 82) [(.tmp 70), (.tmp 71)]), (some (69, true))⟩, ⟨(some 73), (.pick (.tmp 69) (.tmp 72) (.c (.bool false))), none⟩, ⟨(some 46), (.mv (.tmp 73)), none⟩]))))) (.cond (.tmp 46) (.seq (.ops false [⟨(some 8), (.mv (.c (.int .i64 (-1)))), none⟩]) .ret) (.seq (.seq (.ops false [⟨(some 75), (.mv (.tmp 12)), none⟩, ⟨(some 76), (.mv (.tmp 13)), none⟩, ⟨(some 77), (.bin .gtr (.tmp 75) (.tmp 76)), none⟩, ⟨(some 74), (.mv (.tmp 77)), none⟩]) (.cond (.tmp 74) .skip (.ops false [⟨(some 78), (.ld true 2 (.tmp 14)), none⟩, ⟨(some 79), (.ld true 2 (.tmp 15)), none⟩, ⟨(some 80), (.eqAgg true [(.int .u64), (.int .u64)] (.tmp 78) (.tmp 79)), none⟩, ⟨(some 81), (.mv (.tmp 80)), none⟩, ⟨(some 82), (.mv (.tmp 12)), (some (81, true))⟩, ⟨(some 83), (.bin .neq (.tmp 82) (.c (.int .i64 (0)))), (some (81, true))⟩, ⟨(some 84), (.pick (.tmp 81) (.tmp 83) (.c (.bool false))), none⟩, ⟨(some 74), (.mv (.tmp 84)), none⟩]))) (.cond (.tmp 74) (.seq (.ops false [⟨(some 8), (.mv (.c (.int .i64 (1)))), none⟩]) .ret) .skip))))) (.seq (.ops false [⟨(some 8), (.mv (.c (.int .i64 (0)))), none⟩]) .ret)))))))
theorem ok_wide_Compare : compCode Try.prog (Try.f29.body.getD .skip) [[0, 1, 2, 3, 20, 21]] = some (ir_wide_Compare, []) := by kernel_rfl
def live_wide_Compare : List (List Nat) := [[0, 1, 2, 3, 20, 21]]
theorem fn_Right' (G : Glob) (a : Int) : ∃ r : Bool, FunEq Try.prog G 26 [.int .i64 a] (.bool r) ∧ (r = true ↔ okW a) := ⟨_, fn_wide_Right G a, decide_eq_true_iff⟩
def sg (X : Int) : Int := if X < 0 then -1 else if X = 0 then 0 else 1
theorem fn_sign (G : Glob) (a b : Int) : FunEq Try.prog G 81 [.int .i64 a, .int .i64 b] (.int .i64 (sg (a * b))) := by
  refine fun_of_vc live_wide_Compare_1 Try.func81 rfl (by kernel_rfl) ok_wide_Compare_1 (by kernel_rfl) Try.ntmps81 (run_of ?_)
  have hs := sgn_mul a b
  generalize a * b = X at *
  simp only [run_seq, run_ops, run_opsNil, run_block, run_op0, run_opG, run_cond, run_pick, runP, Ins.kind, IOp.apps, List.any_cons, List.any_nil, gAct, pev, Ins.calm, Ins.opds, sureL, evS, St.put, List.map, List.length_cons, List.length_nil, List.replicate, List.cons_append, List.nil_append, List.getD_cons_zero, List.getD_cons_succ, List.set_cons_zero, List.set_cons_succ, SV.res, SV.strip, SV.sure, binV, if_true, Bool.false_eq_true, if_false, SV.mix, true_and, and_true, Nat.reduceSub, Nat.zero_add, Nat.reduceAdd, implies_true, cond_false, Bool.and_self, Bool.and_true, Bool.true_and, Nat.reduceBEq, Bool.or_self, Int.reduceNeg, imp_self, Bool.not_eq_true', and_self, Bool.cond_true_left, ir_wide_Compare_1, Try.results81]
  refine runC_of (fun h => ?_) (fun h => ?_)
  · have h1 : a = 0 ∨ b = 0 := by simpa using h
    simp only [run_seq, run_ops, run_opsNil, run_ret, run_op0, Ins.kind, IOp.apps, List.any_cons, List.any_nil, pev, Ins.calm, Ins.opds, sureL, evS, St.put, List.set_cons_zero, List.set_cons_succ, SV.strip, SV.sure, if_true, true_and, cond_false, Bool.true_and, Nat.reduceBEq, Bool.or_self]
    simp only [List.append_nil, List.getD_cons_zero, List.getD_cons_succ, SV.res, true_and, Bool.true_and, fzL, List.foldl_nil, SV.ids, List.flatMap_cons, List.flatMap_nil, SV.pvS, resK, resSV, oneSV]
    refine eqInt ?_
    unfold sg
    rw [if_neg (by omega), if_pos (by omega)]
  have h1 : ¬ (a = 0 ∨ b = 0) := by simpa using h
  simp only [run_seq, run_ops, run_opsNil, run_op0, run_cond, Ins.kind, IOp.apps, List.any_cons, List.any_nil, pev, Ins.calm, Ins.opds, sureL, evS, St.put, List.getD_cons_zero, List.getD_cons_succ, List.set_cons_zero, List.set_cons_succ, SV.res, SV.strip, SV.sure, binV, if_true, true_and, cond_false, Bool.and_self, Bool.true_and, Nat.reduceBEq, Bool.or_self, Int.reduceNeg, and_self]
  trace_state
  refine runC_of (fun h => ?_) (fun h => ?_)
  · have h2 : ¬ (a < 0 ↔ b < 0) := by simpa using h
    simp only [run_seq, run_ops, run_opsNil, run_ret, run_op0, Ins.kind, IOp.apps, List.any_cons, List.any_nil, pev, Ins.calm, Ins.opds, sureL, evS, St.put, List.set_cons_zero, List.set_cons_succ, SV.strip, SV.sure, if_true, true_and, cond_false, Bool.true_and, Nat.reduceBEq, Bool.or_self, Int.reduceNeg]
    simp only [List.append_nil, List.getD_cons_zero, List.getD_cons_succ, SV.res, true_and, Bool.true_and, fzL, List.foldl_nil, SV.ids, List.flatMap_cons, List.flatMap_nil, SV.pvS, Int.reduceNeg, resK, resSV, oneSV]
    refine eqInt ?_
    unfold sg
    rw [if_pos (by omega)]
  · have h2 : (a < 0 ↔ b < 0) := by simpa using h
    simp only [run_skip, run_eb, run_seq, run_ops, run_opsNil, run_ret, run_op0, Ins.kind, IOp.apps, List.any_cons, List.any_nil, pev, Ins.calm, Ins.opds, sureL, evS, St.put, List.set_cons_zero, List.set_cons_succ, SV.strip, SV.sure, if_true, true_and, cond_false, Bool.true_and, Nat.reduceBEq, Bool.or_self]
    simp only [List.append_nil, List.getD_cons_zero, List.getD_cons_succ, SV.res, true_and, Bool.true_and, fzL, List.foldl_nil, SV.ids, List.flatMap_cons, List.flatMap_nil, SV.pvS, resK, resSV, oneSV]
    refine eqInt ?_
    unfold sg
    rw [if_neg (by omega), if_neg (by omega)]
theorem below_lt {p q : Nat} : decide (((p / 18446744073709551616 : Nat) : Int) < ((q / 18446744073709551616 : Nat) : Int) ∨ ((p / 18446744073709551616 : Nat) : Int) = ((q / 18446744073709551616 : Nat) : Int) ∧ ((p % 18446744073709551616 : Nat) : Int) < ((q % 18446744073709551616 : Nat) : Int)) = decide (p < q) :=
  decide_eq_decide.mpr (by omega)
theorem eq_pair {p q : Nat} : (((p / 18446744073709551616 : Nat) : Int) == ((q / 18446744073709551616 : Nat) : Int) && ((p % 18446744073709551616 : Nat) : Int) == ((q % 18446744073709551616 : Nat) : Int)) = decide (p = q) := by
  rw [Bool.eq_iff_iff]
  simp
  omega
set_option maxHeartbeats 4000000 in
theorem fn_wide_Compare (G : Glob) (a b c d : Int) (ha : i64 a) (hb : i64 b) (hc : i64 c) (hd : i64 d) : FunEq Try.prog G 29 [.int .i64 a, .int .i64 b, .int .i64 c, .int .i64 d] (.int .i64 (if okW a ∧ okW b ∧ okW c ∧ okW d then cmp (a * b) (c * d) else 0)) := by
  obtain ⟨ra, ca, hra⟩ := fn_Right' G a
  obtain ⟨rb, cb, hrb⟩ := fn_Right' G b
  obtain ⟨rc, cc, hrc⟩ := fn_Right' G c
  obtain ⟨rd, cd, hrd⟩ := fn_Right' G d
  have sa := fn_wide_size G a ha
  have sb := fn_wide_size G b hb
  have sc := fn_wide_size G c hc
  have sd := fn_wide_size G d hd
  have s1 := fn_sign G a b
  have s2 := fn_sign G c d
  refine fun_of_vc live_wide_Compare Try.func29 rfl (by kernel_rfl) ok_wide_Compare (by kernel_rfl) Try.ntmps29 (run_of ?_)
  simp only [run_seq, run_ops, run_opsNil, run_block, run_op0, Ins.kind, IOp.apps, List.any_cons, List.any_nil, pev, Ins.calm, Ins.opds, sureL, evS, St.put, List.map, List.map_cons, List.length_cons, List.length_nil, List.replicate, List.cons_append, List.nil_append, List.append_nil, List.getD_cons_zero, List.getD_cons_succ, List.set_cons_zero, List.set_cons_succ, SV.res, SV.strip, SV.sure, SV.cells, PV.cells, SV.scal, PV.scal, if_true, true_and, Nat.reduceSub, Nat.zero_add, Nat.reduceAdd, cond_false, List.all_cons, Bool.and_self, Bool.true_and, Nat.reduceLeDiff, List.take, List.drop, Nat.reduceBEq, Bool.or_self, Option.map_some, spliceL, List.all, Int.reduceNeg, and_self, fillL, aggS, allP, ir_wide_Compare, Try.results29]
  refine run_loop (fun n S => ∃ k : Nat, k ≤ 4 ∧ n = 4 - k ∧ (0 < k → okW a) ∧ (1 < k → okW b) ∧ (2 < k → okW c) ∧ (3 < k → okW d) ∧ S = ⟨slots 85 0 [(0, .p (.int .i64 a)), (1, .p (.int .i64 b)), (2, .p (.int .i64 c)), (3, .p (.int .i64 d)), (20, .p (.agg [.int .i64 a, .int .i64 b, .int .i64 c, .int .i64 d])), (21, .p (.int .i64 k))], []⟩) ?_ ?_
  · exact ⟨4, [], List.nodup_nil, 0, by omega, rfl, by omega, by omega, by omega, by omega, rfl⟩
  rintro n S' ⟨k, hk, rfl, z0, z1, z2, z3, rfl⟩
  have kk : k = 0 ∨ k = 1 ∨ k = 2 ∨ k = 3 ∨ k = 4 := by omega
  rcases kk with rfl | rfl | rfl | rfl | rfl
  · simp only [run_skip, run_seq, run_ops, run_opsNil, run_block, run_op0, run_cond, runC_true, Ins.kind, IOp.apps, List.any_cons, List.any_nil, pev, Ins.calm, Ins.opds, sureL, evS, St.put, List.length_cons, List.length_nil, List.getD_cons_zero, List.getD_cons_succ, List.set_cons_zero, List.set_cons_succ, SV.res, SV.strip, SV.sure, binV, if_true, Bool.false_eq_true, if_false, true_and, Nat.reduceSub, Nat.zero_add, Nat.reduceAdd, cond_false, Bool.and_self, Bool.true_and, List.take, List.drop, St.forget, slots, Nat.reduceBEq, Bool.or_self, Nat.reduceEqDiff, Int.reduceNeg, Int.reduceLT, Int.cast_ofNat_Int, Int.toNat_zero, Nat.mul_one, and_self, Int.le_refl, decide_true]
    refine run_call ca [] rfl (by exact ⟨trivial, trivial⟩) rfl rfl rfl trivial trivial ?_
    simp only [run_opsNil, run_op0, run_cond, pev, Ins.calm, Ins.opds, sureL, evS, St.put, List.getD_cons_zero, List.getD_cons_succ, List.set_cons_zero, List.set_cons_succ, SV.res, SV.strip, SV.sure, if_true, true_and, Bool.true_and, PV.flat, Int.reduceNeg]
    refine runC_of (fun h => ?_) (fun h => ?_)
    · have hn : ¬ okW a := fun x => by rw [hra.mpr x] at h; cases h
      rw [if_neg (fun x => hn x.1)]
      simp only [run_seq, run_ops, run_opsNil, run_ret, runX_ret, run_op0, Ins.kind, IOp.apps, List.any_cons, List.any_nil, pev, Ins.calm, Ins.opds, sureL, evS, St.put, List.set_cons_zero, List.set_cons_succ, SV.strip, SV.sure, if_true, true_and, cond_false, Bool.true_and, Nat.reduceBEq, Bool.or_self, Int.reduceNeg]
      simp only [List.append_nil, List.getD_cons_zero, List.getD_cons_succ, SV.res, Bool.and_self, fzL, List.foldl_nil, SV.ids, List.flatMap_cons, List.flatMap_nil, SV.pvS, and_self, resK, resSV, oneSV]
    · have hy : okW a := hra.mp (by cases ra <;> simp_all)
      simp only [run_nil, run_skip, run_eb, run_ops, run_opsNil, run_op0, Ins.kind, IOp.apps, List.any_cons, List.any_nil, pev, Ins.calm, Ins.opds, sureL, evS, St.put, List.getD_cons_zero, List.getD_cons_succ, List.set_cons_zero, List.set_cons_succ, SV.res, SV.strip, SV.sure, binV, if_true, Bool.false_eq_true, if_false, true_and, Nat.zero_add, Nat.reduceAdd, cond_false, Bool.and_self, Bool.true_and, forgetL, List.contains_cons, List.contains_nil, Nat.reduceBEq, Bool.or_false, Bool.or_true, Bool.or_self, beq_self_eq_true, Int.reduceNeg, and_self, Int.reduceAdd, SV.ren, SV.renL]
      exact ⟨3, [], List.nodup_nil, by omega, 1, by omega, rfl, fun _ => hy, by omega, by omega, by omega, rfl⟩
  · simp only [run_skip, run_seq, run_ops, run_opsNil, run_block, run_op0, run_cond, runC_true, Ins.kind, IOp.apps, List.any_cons, List.any_nil, pev, Ins.calm, Ins.opds, sureL, evS, St.put, List.length_cons, List.length_nil, List.getD_cons_zero, List.getD_cons_succ, List.set_cons_zero, List.set_cons_succ, SV.res, SV.strip, SV.sure, binV, if_true, Bool.false_eq_true, if_false, true_and, Nat.reduceSub, Nat.zero_add, Nat.reduceAdd, cond_false, Bool.and_self, Bool.true_and, List.take, List.drop, St.forget, slots, Nat.reduceBEq, Bool.or_self, Nat.reduceEqDiff, Int.reduceNeg, Int.reduceLT, Int.cast_ofNat_Int, Int.toNat_one, Nat.mul_one, and_self, Int.zero_le_ofNat, decide_true]
    refine run_call cb [] rfl (by exact ⟨trivial, trivial⟩) rfl rfl rfl trivial trivial ?_
    simp only [run_opsNil, run_op0, run_cond, pev, Ins.calm, Ins.opds, sureL, evS, St.put, List.getD_cons_zero, List.getD_cons_succ, List.set_cons_zero, List.set_cons_succ, SV.res, SV.strip, SV.sure, if_true, true_and, Bool.true_and, PV.flat, Int.reduceNeg]
    refine runC_of (fun h => ?_) (fun h => ?_)
    · have hn : ¬ okW b := fun x => by rw [hrb.mpr x] at h; cases h
      rw [if_neg (fun x => hn x.2.1)]
      simp only [run_seq, run_ops, run_opsNil, run_ret, runX_ret, run_op0, Ins.kind, IOp.apps, List.any_cons, List.any_nil, pev, Ins.calm, Ins.opds, sureL, evS, St.put, List.set_cons_zero, List.set_cons_succ, SV.strip, SV.sure, if_true, true_and, cond_false, Bool.true_and, Nat.reduceBEq, Bool.or_self, Int.reduceNeg]
      simp only [List.append_nil, List.getD_cons_zero, List.getD_cons_succ, SV.res, Bool.and_self, fzL, List.foldl_nil, SV.ids, List.flatMap_cons, List.flatMap_nil, SV.pvS, and_self, resK, resSV, oneSV]
    · have hy : okW b := hrb.mp (by cases rb <;> simp_all)
      simp only [run_nil, run_skip, run_eb, run_ops, run_opsNil, run_op0, Ins.kind, IOp.apps, List.any_cons, List.any_nil, pev, Ins.calm, Ins.opds, sureL, evS, St.put, List.getD_cons_zero, List.getD_cons_succ, List.set_cons_zero, List.set_cons_succ, SV.res, SV.strip, SV.sure, binV, if_true, Bool.false_eq_true, if_false, true_and, Nat.zero_add, Nat.reduceAdd, cond_false, Bool.and_self, Bool.true_and, forgetL, List.contains_cons, List.contains_nil, Nat.reduceBEq, Bool.or_false, Bool.or_true, Bool.or_self, beq_self_eq_true, Int.reduceNeg, and_self, Int.reduceAdd, SV.ren, SV.renL]
      exact ⟨2, [], List.nodup_nil, by omega, 2, by omega, rfl, fun _ => z0 (by omega), fun _ => hy, by omega, by omega, rfl⟩
  · simp only [run_skip, run_seq, run_ops, run_opsNil, run_block, run_op0, run_cond, runC_true, Ins.kind, IOp.apps, List.any_cons, List.any_nil, pev, Ins.calm, Ins.opds, sureL, evS, St.put, List.length_cons, List.length_nil, List.getD_cons_zero, List.getD_cons_succ, List.set_cons_zero, List.set_cons_succ, SV.res, SV.strip, SV.sure, binV, if_true, Bool.false_eq_true, if_false, true_and, Nat.reduceSub, Nat.zero_add, Nat.reduceAdd, cond_false, Bool.and_self, Bool.true_and, List.take, List.drop, St.forget, slots, Nat.reduceBEq, Bool.or_self, Nat.reduceEqDiff, Int.reduceNeg, Int.reduceToNat, Int.reduceLT, Int.cast_ofNat_Int, Nat.mul_one, and_self, Int.zero_le_ofNat, decide_true]
    refine run_call cc [] rfl (by exact ⟨trivial, trivial⟩) rfl rfl rfl trivial trivial ?_
    simp only [run_opsNil, run_op0, run_cond, pev, Ins.calm, Ins.opds, sureL, evS, St.put, List.getD_cons_zero, List.getD_cons_succ, List.set_cons_zero, List.set_cons_succ, SV.res, SV.strip, SV.sure, if_true, true_and, Bool.true_and, PV.flat, Int.reduceNeg]
    refine runC_of (fun h => ?_) (fun h => ?_)
    · have hn : ¬ okW c := fun x => by rw [hrc.mpr x] at h; cases h
      rw [if_neg (fun x => hn x.2.2.1)]
      simp only [run_seq, run_ops, run_opsNil, run_ret, runX_ret, run_op0, Ins.kind, IOp.apps, List.any_cons, List.any_nil, pev, Ins.calm, Ins.opds, sureL, evS, St.put, List.set_cons_zero, List.set_cons_succ, SV.strip, SV.sure, if_true, true_and, cond_false, Bool.true_and, Nat.reduceBEq, Bool.or_self, Int.reduceNeg]
      simp only [List.append_nil, List.getD_cons_zero, List.getD_cons_succ, SV.res, Bool.and_self, fzL, List.foldl_nil, SV.ids, List.flatMap_cons, List.flatMap_nil, SV.pvS, and_self, resK, resSV, oneSV]
    · have hy : okW c := hrc.mp (by cases rc <;> simp_all)
      simp only [run_nil, run_skip, run_eb, run_ops, run_opsNil, run_op0, Ins.kind, IOp.apps, List.any_cons, List.any_nil, pev, Ins.calm, Ins.opds, sureL, evS, St.put, List.getD_cons_zero, List.getD_cons_succ, List.set_cons_zero, List.set_cons_succ, SV.res, SV.strip, SV.sure, binV, if_true, Bool.false_eq_true, if_false, true_and, Nat.zero_add, Nat.reduceAdd, cond_false, Bool.and_self, Bool.true_and, forgetL, List.contains_cons, List.contains_nil, Nat.reduceBEq, Bool.or_false, Bool.or_true, Bool.or_self, beq_self_eq_true, Int.reduceNeg, and_self, Int.reduceAdd, SV.ren, SV.renL]
      exact ⟨1, [], List.nodup_nil, by omega, 3, by omega, rfl, fun _ => z0 (by omega), fun _ => z1 (by omega), fun _ => hy, by omega, rfl⟩
  · simp only [run_skip, run_seq, run_ops, run_opsNil, run_block, run_op0, run_cond, runC_true, Ins.kind, IOp.apps, List.any_cons, List.any_nil, pev, Ins.calm, Ins.opds, sureL, evS, St.put, List.length_cons, List.length_nil, List.getD_cons_zero, List.getD_cons_succ, List.set_cons_zero, List.set_cons_succ, SV.res, SV.strip, SV.sure, binV, if_true, Bool.false_eq_true, if_false, true_and, Nat.reduceSub, Nat.zero_add, Nat.reduceAdd, cond_false, Bool.and_self, Bool.true_and, List.take, List.drop, St.forget, slots, Nat.reduceBEq, Bool.or_self, Nat.reduceEqDiff, Int.reduceNeg, Int.reduceToNat, Int.reduceLT, Int.cast_ofNat_Int, Nat.mul_one, and_self, Int.zero_le_ofNat, decide_true]
    refine run_call cd [] rfl (by exact ⟨trivial, trivial⟩) rfl rfl rfl trivial trivial ?_
    simp only [run_opsNil, run_op0, run_cond, pev, Ins.calm, Ins.opds, sureL, evS, St.put, List.getD_cons_zero, List.getD_cons_succ, List.set_cons_zero, List.set_cons_succ, SV.res, SV.strip, SV.sure, if_true, true_and, Bool.true_and, PV.flat, Int.reduceNeg]
    refine runC_of (fun h => ?_) (fun h => ?_)
    · have hn : ¬ okW d := fun x => by rw [hrd.mpr x] at h; cases h
      rw [if_neg (fun x => hn x.2.2.2)]
      simp only [run_seq, run_ops, run_opsNil, run_ret, runX_ret, run_op0, Ins.kind, IOp.apps, List.any_cons, List.any_nil, pev, Ins.calm, Ins.opds, sureL, evS, St.put, List.set_cons_zero, List.set_cons_succ, SV.strip, SV.sure, if_true, true_and, cond_false, Bool.true_and, Nat.reduceBEq, Bool.or_self, Int.reduceNeg]
      simp only [List.append_nil, List.getD_cons_zero, List.getD_cons_succ, SV.res, Bool.and_self, fzL, List.foldl_nil, SV.ids, List.flatMap_cons, List.flatMap_nil, SV.pvS, and_self, resK, resSV, oneSV]
    · have hy : okW d := hrd.mp (by cases rd <;> simp_all)
      simp only [run_nil, run_skip, run_eb, run_ops, run_opsNil, run_op0, Ins.kind, IOp.apps, List.any_cons, List.any_nil, pev, Ins.calm, Ins.opds, sureL, evS, St.put, List.getD_cons_zero, List.getD_cons_succ, List.set_cons_zero, List.set_cons_succ, SV.res, SV.strip, SV.sure, binV, if_true, Bool.false_eq_true, if_false, true_and, Nat.zero_add, Nat.reduceAdd, cond_false, Bool.and_self, Bool.true_and, forgetL, List.contains_cons, List.contains_nil, Nat.reduceBEq, Bool.or_false, Bool.or_true, Bool.or_self, beq_self_eq_true, Int.reduceNeg, and_self, Int.reduceAdd, SV.ren, SV.renL]
      exact ⟨0, [], List.nodup_nil, by omega, 4, by omega, rfl, fun _ => z0 (by omega), fun _ => z1 (by omega), fun _ => z2 (by omega), fun _ => hy, rfl⟩
  rw [if_pos ⟨z0 (by omega), z1 (by omega), z2 (by omega), z3 (by omega)⟩]
  have va : a.natAbs ≤ 4611686018427387903 := by have := z0 (by omega); unfold okW at this; omega
  have vb : b.natAbs ≤ 4611686018427387903 := by have := z1 (by omega); unfold okW at this; omega
  have vc' : c.natAbs ≤ 4611686018427387903 := by have := z2 (by omega); unfold okW at this; omega
  have vd : d.natAbs ≤ 4611686018427387903 := by have := z3 (by omega); unfold okW at this; omega
  have pX : a.natAbs * b.natAbs = (a * b).natAbs := (Int.natAbs_mul _ _).symm
  have pY : c.natAbs * d.natAbs = (c * d).natAbs := (Int.natAbs_mul _ _).symm
  have ct := fn_wide_times G a.natAbs b.natAbs (by omega) (by omega)
  have cu := fn_wide_times G c.natAbs d.natAbs (by omega) (by omega)
  have hP : (a * b).natAbs ≤ 4611686018427387903 * 4611686018427387903 := by rw [← pX]; exact Nat.mul_le_mul va vb
  have hQ : (c * d).natAbs ≤ 4611686018427387903 * 4611686018427387903 := by rw [← pY]; exact Nat.mul_le_mul vc' vd
  rw [pX] at ct
  rw [pY] at cu
  generalize a * b = X at *
  generalize c * d = Y at *
  obtain ⟨x, hx⟩ : ∃ x, x = sg X := ⟨_, rfl⟩
  obtain ⟨y, hy⟩ : ∃ x, x = sg Y := ⟨_, rfl⟩
  rw [← hx] at s1
  rw [← hy] at s2
  have hx' : (X < 0 ∧ x = -1) ∨ (X = 0 ∧ x = 0) ∨ (0 < X ∧ x = 1) := by rw [hx]; unfold sg; split <;> (try split) <;> omega
  have hy' : (Y < 0 ∧ y = -1) ∨ (Y = 0 ∧ y = 0) ∨ (0 < Y ∧ y = 1) := by rw [hy]; unfold sg; split <;> (try split) <;> omega
  generalize hp : X.natAbs = p at *
  generalize hq : Y.natAbs = q at *
  have c1 := fn_wide_below G (p / 18446744073709551616 : Nat) (p % 18446744073709551616 : Nat) (q / 18446744073709551616 : Nat) (q % 18446744073709551616 : Nat)
  have c2 := fn_wide_below G (q / 18446744073709551616 : Nat) (q % 18446744073709551616 : Nat) (p / 18446744073709551616 : Nat) (p % 18446744073709551616 : Nat)
  rw [below_lt] at c1 c2
  simp only [run_seq, run_ops, run_opsNil, run_block, run_exit, runX_nil, runX_ir, runX_eb, run_op0, run_cond, runC_false, run_alloc, run_st, Ins.kind, IOp.apps, List.any_cons, List.any_nil, pev, Ins.calm, Ins.opds, sureL, evS, St.put, List.map, List.length_cons, List.length_nil, List.cons_append, List.nil_append, List.getD_cons_zero, List.getD_cons_succ, List.set_cons_zero, List.set_cons_succ, SV.res, SV.strip, SV.sure, SV.cells, SV.scal, PV.scal, binV, if_true, Bool.false_eq_true, if_false, true_and, and_true, Nat.reduceSub, Nat.zero_add, Nat.reduceAdd, cond_true, cond_false, List.all_cons, Bool.and_self, Bool.and_true, Bool.true_and, Nat.reduceLeDiff, List.take, List.drop, St.forget, slots, Nat.reduceBEq, Bool.or_false, Bool.or_true, Bool.or_self, spliceL, beq_self_eq_true, Nat.reduceEqDiff, List.all, Int.reduceNeg, Int.reduceLT, Int.cast_ofNat_Int, and_self, decide_false]
  refine run_call s1 [] rfl (by exact ⟨trivial, trivial, trivial⟩) rfl rfl rfl trivial trivial ?_
  simp only [run_seq, run_ops, run_opsNil, run_block, run_op0, run_cond, run_alloc, run_st, Ins.kind, IOp.apps, List.any_cons, List.any_nil, pev, Ins.calm, Ins.opds, sureL, evS, St.put, List.map, List.length_cons, List.length_nil, List.cons_append, List.nil_append, List.getD_cons_zero, List.getD_cons_succ, List.set_cons_zero, List.set_cons_succ, SV.res, SV.strip, SV.sure, SV.cells, SV.scal, PV.scal, if_true, Bool.false_eq_true, if_false, true_and, and_true, Nat.zero_add, Nat.reduceAdd, cond_true, cond_false, List.all_cons, Bool.and_self, Bool.and_true, Bool.true_and, Nat.reduceLeDiff, List.take, List.drop, Nat.reduceBEq, Bool.or_false, Bool.or_true, Bool.or_self, PV.flat, spliceL, beq_self_eq_true, Nat.reduceEqDiff, List.all, Int.reduceNeg, and_self]
  refine run_call s2 [] rfl (by exact ⟨trivial, trivial, trivial⟩) rfl rfl rfl trivial trivial ?_
  simp only [run_seq, run_ops, run_opsNil, run_block, run_op0, run_cond, run_alloc, run_st, Ins.kind, IOp.apps, List.any_cons, List.any_nil, pev, Ins.calm, Ins.opds, sureL, evS, St.put, List.map, List.length_cons, List.length_nil, List.cons_append, List.nil_append, List.getD_cons_zero, List.getD_cons_succ, List.set_cons_zero, List.set_cons_succ, SV.res, SV.strip, SV.sure, SV.cells, SV.scal, PV.scal, binV, if_true, Bool.false_eq_true, if_false, true_and, and_true, Nat.zero_add, Nat.reduceAdd, cond_true, cond_false, List.all_cons, Bool.and_self, Bool.and_true, Bool.true_and, Nat.reduceLeDiff, List.take, List.drop, Nat.reduceBEq, Bool.or_false, Bool.or_true, Bool.or_self, PV.flat, spliceL, beq_self_eq_true, Nat.reduceEqDiff, List.all, Int.reduceNeg, and_self]
  refine run_call sa [] rfl (by exact ⟨trivial, trivial⟩) rfl rfl rfl trivial trivial ?_
  simp only [run_seq, run_ops, run_opsNil, run_block, run_op0, run_cond, run_alloc, run_st, Ins.kind, IOp.apps, List.any_cons, List.any_nil, pev, Ins.calm, Ins.opds, sureL, evS, St.put, List.map, List.length_cons, List.length_nil, List.cons_append, List.nil_append, List.getD_cons_zero, List.getD_cons_succ, List.set_cons_zero, List.set_cons_succ, SV.res, SV.strip, SV.sure, SV.cells, SV.scal, PV.scal, binV, if_true, Bool.false_eq_true, if_false, true_and, and_true, Nat.zero_add, Nat.reduceAdd, cond_false, List.all_cons, Bool.and_self, Bool.and_true, Bool.true_and, Nat.reduceLeDiff, List.take, List.drop, Nat.reduceBEq, Bool.or_self, PV.flat, spliceL, Nat.reduceEqDiff, List.all, Int.reduceNeg, and_self]
  refine run_call sb [] rfl (by exact ⟨trivial, trivial⟩) rfl rfl rfl trivial trivial ?_
  simp only [run_seq, run_ops, run_opsNil, run_block, run_op0, run_cond, run_alloc, run_st, Ins.kind, IOp.apps, List.any_cons, List.any_nil, pev, Ins.calm, Ins.opds, sureL, evS, St.put, List.map, List.length_cons, List.length_nil, List.cons_append, List.nil_append, List.getD_cons_zero, List.getD_cons_succ, List.set_cons_zero, List.set_cons_succ, SV.res, SV.strip, SV.sure, SV.cells, SV.scal, PV.scal, binV, if_true, Bool.false_eq_true, if_false, true_and, and_true, Nat.zero_add, Nat.reduceAdd, cond_false, List.all_cons, Bool.and_self, Bool.and_true, Bool.true_and, Nat.reduceLeDiff, List.take, List.drop, Nat.reduceBEq, Bool.or_self, PV.flat, spliceL, Nat.reduceEqDiff, List.all, Int.reduceNeg, and_self]
  refine run_call ct [] rfl (by exact ⟨trivial, trivial, trivial⟩) rfl rfl rfl trivial trivial ?_
  simp only [run_seq, run_ops, run_opsNil, run_block, run_op0, run_cond, run_alloc, run_st, Ins.kind, IOp.apps, List.any_cons, List.any_nil, pev, Ins.calm, Ins.opds, sureL, evS, St.put, List.map, List.map_cons, List.length_cons, List.length_nil, List.cons_append, List.nil_append, List.append_nil, List.getD_cons_zero, List.getD_cons_succ, List.set_cons_zero, List.set_cons_succ, SV.res, SV.strip, SV.sure, SV.cells, PV.cells, SV.scal, PV.scal, binV, if_true, Bool.false_eq_true, if_false, true_and, and_true, Nat.zero_add, Nat.reduceAdd, cond_false, List.all_cons, Bool.and_self, Bool.and_true, Bool.true_and, Nat.reduceLeDiff, List.take, List.drop, Nat.reduceBEq, Bool.or_self, PV.flat, PV.flatL, spliceL, Nat.reduceEqDiff, List.all, Int.reduceNeg, and_self]
  refine run_call sc [] rfl (by exact ⟨trivial, trivial⟩) rfl rfl rfl trivial trivial ?_
  simp only [run_seq, run_ops, run_opsNil, run_block, run_op0, run_cond, run_alloc, run_st, Ins.kind, IOp.apps, List.any_cons, List.any_nil, pev, Ins.calm, Ins.opds, sureL, evS, St.put, List.map, List.map_cons, List.length_cons, List.length_nil, List.cons_append, List.nil_append, List.append_nil, List.getD_cons_zero, List.getD_cons_succ, List.set_cons_zero, List.set_cons_succ, SV.res, SV.strip, SV.sure, SV.cells, PV.cells, SV.scal, PV.scal, binV, if_true, Bool.false_eq_true, if_false, true_and, and_true, Nat.zero_add, Nat.reduceAdd, cond_false, List.all_cons, Bool.and_self, Bool.and_true, Bool.true_and, Nat.reduceLeDiff, List.take, List.drop, Nat.reduceBEq, Bool.or_self, PV.flat, spliceL, Nat.reduceEqDiff, List.all, Int.reduceNeg, and_self]
  refine run_call sd [] rfl (by exact ⟨trivial, trivial⟩) rfl rfl rfl trivial trivial ?_
  simp only [run_seq, run_ops, run_opsNil, run_block, run_op0, run_cond, run_alloc, run_st, Ins.kind, IOp.apps, List.any_cons, List.any_nil, pev, Ins.calm, Ins.opds, sureL, evS, St.put, List.map, List.map_cons, List.length_cons, List.length_nil, List.cons_append, List.nil_append, List.append_nil, List.getD_cons_zero, List.getD_cons_succ, List.set_cons_zero, List.set_cons_succ, SV.res, SV.strip, SV.sure, SV.cells, PV.cells, SV.scal, PV.scal, binV, if_true, Bool.false_eq_true, if_false, true_and, and_true, Nat.zero_add, Nat.reduceAdd, cond_false, List.all_cons, Bool.and_self, Bool.and_true, Bool.true_and, Nat.reduceLeDiff, List.take, List.drop, Nat.reduceBEq, Bool.or_self, PV.flat, spliceL, Nat.reduceEqDiff, List.all, Int.reduceNeg, and_self]
  refine run_call cu [] rfl (by exact ⟨trivial, trivial, trivial⟩) rfl rfl rfl trivial trivial ?_
  simp only [run_seq, run_ops, run_opsNil, run_block, run_op0, run_cond, run_alloc, run_st, Ins.kind, IOp.apps, List.any_cons, List.any_nil, pev, Ins.calm, Ins.opds, sureL, evS, St.put, List.map, List.map_cons, List.length_cons, List.length_nil, List.cons_append, List.nil_append, List.append_nil, List.getD_cons_zero, List.getD_cons_succ, List.set_cons_zero, List.set_cons_succ, SV.res, SV.strip, SV.sure, SV.cells, PV.cells, SV.scal, PV.scal, binV, if_true, Bool.false_eq_true, if_false, true_and, Nat.zero_add, Nat.reduceAdd, cond_false, List.all_cons, Bool.and_self, Bool.true_and, Nat.reduceLeDiff, List.take, List.drop, Nat.reduceBEq, Bool.or_self, PV.flat, PV.flatL, spliceL, List.all, Int.reduceNeg, and_self]
  refine runC_of (fun h1 => ?_) (fun h1 => ?_)
  · simp only [run_skip, run_seq, run_ops, run_opsNil, run_ret, run_op0, run_cond, runC_true, Ins.kind, IOp.apps, List.any_cons, List.any_nil, pev, Ins.calm, Ins.opds, sureL, evS, St.put, List.getD_cons_zero, List.getD_cons_succ, List.set_cons_zero, List.set_cons_succ, SV.res, SV.strip, SV.sure, if_true, true_and, cond_false, Bool.true_and, Nat.reduceBEq, Bool.or_self, Int.reduceNeg, h1]
    simp only [List.append_nil, List.getD_cons_zero, List.getD_cons_succ, SV.res, true_and, Bool.true_and, fzL, List.foldl_nil, SV.ids, List.flatMap_cons, List.flatMap_nil, SV.pvS, Int.reduceNeg, resK, resSV, oneSV]
    refine eqInt ?_
    simp at h1
    unfold cmp
    rw [if_pos (by omega)]
  simp only [run_seq, run_ops, run_opsNil, run_op0, run_opG, run_cond, run_pick, runP, Ins.kind, IOp.apps, List.any_cons, List.any_nil, gAct, pev, Ins.calm, Ins.opds, sureL, evS, St.put, List.length_cons, List.length_nil, List.getD_cons_zero, List.getD_cons_succ, List.set_cons_zero, List.set_cons_succ, SV.res, SV.strip, SV.sure, SV.ld, binV, if_true, Bool.false_eq_true, if_false, SV.mix, true_and, and_true, Nat.zero_add, Nat.reduceAdd, implies_true, cond_true, cond_false, Bool.and_self, Bool.and_true, Bool.true_and, Nat.reduceLeDiff, List.take, List.drop, Nat.reduceBEq, Bool.or_self, Option.map_some, Int.reduceNeg, imp_self, Bool.and_eq_true, and_self, aggS, allP, Bool.cond_false_right]
  refine run_callG (fun _ => c1) _ rfl (by exact fun h => ⟨trivial, h, h⟩) rfl rfl rfl trivial trivial ?_
  simp only [run_opsNil, run_op0, run_cond, run_pick, runP, pev, Ins.calm, Ins.opds, sureL, evS, St.put, List.append_nil, List.getD_cons_zero, List.getD_cons_succ, List.set_cons_zero, List.set_cons_succ, SV.res, SV.strip, SV.sure, if_true, Bool.false_eq_true, if_false, SV.mix, true_and, implies_true, Bool.true_and, fzL, List.foldl_nil, SV.ids, boxIds, List.flatMap_cons, List.flatMap_nil, PV.flat, Int.reduceNeg, imp_self, Bool.and_eq_true, Bool.cond_false_right]
  refine runC_of (fun h2 => ?_) (fun h2 => ?_)
  · simp only [run_skip, run_seq, run_ops, run_opsNil, run_ret, run_op0, run_cond, runC_true, Ins.kind, IOp.apps, List.any_cons, List.any_nil, pev, Ins.calm, Ins.opds, sureL, evS, St.put, List.getD_cons_zero, List.getD_cons_succ, List.set_cons_zero, List.set_cons_succ, SV.res, SV.strip, SV.sure, if_true, true_and, cond_false, Bool.true_and, Nat.reduceBEq, Bool.or_self, Int.reduceNeg, h2]
    simp only [List.append_nil, List.getD_cons_zero, List.getD_cons_succ, SV.res, true_and, Bool.true_and, fzL, List.foldl_nil, SV.ids, List.flatMap_cons, List.flatMap_nil, SV.pvS, Int.reduceNeg, resK, resSV, oneSV]
    refine eqInt ?_
    simp at h1 h2
    unfold cmp
    rw [if_pos (by omega)]
  simp only [run_ops, run_opsNil, run_op0, run_opG, run_cond, run_pick, runP, Ins.kind, IOp.apps, List.any_cons, List.any_nil, gAct, pev, Ins.calm, Ins.opds, sureL, evS, St.put, List.length_cons, List.length_nil, List.getD_cons_zero, List.getD_cons_succ, List.set_cons_zero, List.set_cons_succ, SV.res, SV.strip, SV.sure, SV.ld, binV, if_true, Bool.false_eq_true, if_false, SV.mix, true_and, and_true, Nat.zero_add, Nat.reduceAdd, implies_true, cond_true, cond_false, Bool.and_self, Bool.and_true, Bool.true_and, Nat.reduceLeDiff, List.take, List.drop, Nat.reduceBEq, Bool.or_self, Option.map_some, Int.reduceNeg, imp_self, Bool.and_eq_true, and_self, aggS, allP, Bool.cond_false_right]
  refine run_callG (fun _ => c2) _ rfl (by exact fun h => ⟨trivial, h, h⟩) rfl rfl rfl trivial trivial ?_
  simp only [run_opsNil, run_op0, run_cond, run_pick, runP, pev, Ins.calm, Ins.opds, sureL, evS, St.put, List.append_nil, List.getD_cons_zero, List.getD_cons_succ, List.set_cons_zero, List.set_cons_succ, SV.res, SV.strip, SV.sure, if_true, Bool.false_eq_true, if_false, SV.mix, true_and, implies_true, Bool.true_and, fzL, List.foldl_nil, SV.ids, boxIds, List.flatMap_cons, List.flatMap_nil, PV.flat, Int.reduceNeg, imp_self, Bool.and_eq_true, Bool.cond_false_right]
  refine runC_of (fun h3 => ?_) (fun h3 => ?_)
  · simp only [run_seq, run_ops, run_opsNil, run_ret, run_op0, Ins.kind, IOp.apps, List.any_cons, List.any_nil, pev, Ins.calm, Ins.opds, sureL, evS, St.put, List.set_cons_zero, List.set_cons_succ, SV.strip, SV.sure, if_true, true_and, cond_false, Bool.true_and, Nat.reduceBEq, Bool.or_self, Int.reduceNeg, h3]
    simp only [List.append_nil, List.getD_cons_zero, List.getD_cons_succ, SV.res, true_and, Bool.true_and, fzL, List.foldl_nil, SV.ids, List.flatMap_cons, List.flatMap_nil, SV.pvS, Int.reduceNeg, resK, resSV, oneSV]
    refine eqInt ?_
    simp at h1 h2 h3
    unfold cmp
    rw [if_pos (by omega)]
  simp only [run_seq, run_ops, run_opsNil, run_op0, run_cond, Ins.kind, IOp.apps, List.any_cons, List.any_nil, pev, Ins.calm, Ins.opds, sureL, evS, St.put, List.getD_cons_zero, List.getD_cons_succ, List.set_cons_zero, List.set_cons_succ, SV.res, SV.strip, SV.sure, binV, if_true, true_and, cond_false, Bool.and_self, Bool.true_and, Nat.reduceBEq, Bool.or_self, and_self]
  refine runC_of (fun h4 => ?_) (fun h4 => ?_)
  · simp only [run_skip, run_seq, run_ops, run_opsNil, run_ret, run_op0, run_cond, runC_true, Ins.kind, IOp.apps, List.any_cons, List.any_nil, pev, Ins.calm, Ins.opds, sureL, evS, St.put, List.getD_cons_zero, List.getD_cons_succ, List.set_cons_zero, List.set_cons_succ, SV.res, SV.strip, SV.sure, if_true, true_and, cond_false, Bool.true_and, Nat.reduceBEq, Bool.or_self, h4]
    simp only [List.append_nil, List.getD_cons_zero, List.getD_cons_succ, SV.res, true_and, Bool.true_and, fzL, List.foldl_nil, SV.ids, List.flatMap_cons, List.flatMap_nil, SV.pvS, resK, resSV, oneSV]
    refine eqInt ?_
    simp at h4
    unfold cmp
    rw [if_neg (by omega), if_pos (by omega)]
  simp only [run_ops, run_opsNil, run_op0, run_opG, run_cond, run_pick, runP, Ins.kind, IOp.apps, List.any_cons, List.any_nil, gAct, pev, Ins.calm, Ins.opds, sureL, evS, St.put, List.length_cons, List.length_nil, List.getD_cons_zero, List.getD_cons_succ, List.set_cons_zero, List.set_cons_succ, SV.res, SV.strip, SV.sure, SV.ld, binV, if_true, Bool.false_eq_true, if_false, SV.mix, true_and, and_true, Nat.zero_add, Nat.reduceAdd, implies_true, cond_true, cond_false, Bool.and_self, Bool.and_true, Bool.true_and, Nat.reduceLeDiff, List.take, List.drop, Nat.reduceBEq, Bool.or_self, Option.map_some, SV.pvS, imp_self, Bool.not_eq_true', and_self, eqCells, aggS, allP, Bool.cond_false_right, eq_pair]
  refine runC_of (fun h5 => ?_) (fun h5 => ?_)
  · simp only [run_seq, run_ops, run_opsNil, run_ret, run_op0, Ins.kind, IOp.apps, List.any_cons, List.any_nil, pev, Ins.calm, Ins.opds, sureL, evS, St.put, List.set_cons_zero, List.set_cons_succ, SV.strip, SV.sure, if_true, true_and, cond_false, Bool.true_and, Nat.reduceBEq, Bool.or_self]
    simp only [List.append_nil, List.getD_cons_zero, List.getD_cons_succ, SV.res, true_and, Bool.true_and, fzL, List.foldl_nil, SV.ids, List.flatMap_cons, List.flatMap_nil, SV.pvS, resK, resSV, oneSV]
    refine eqInt ?_
    simp at h1 h2 h3 h4 h5
    unfold cmp
    rw [if_neg (by omega), if_pos (by omega)]
  · simp only [run_skip, run_eb, run_seq, run_ops, run_opsNil, run_ret, run_op0, Ins.kind, IOp.apps, List.any_cons, List.any_nil, pev, Ins.calm, Ins.opds, sureL, evS, St.put, List.set_cons_zero, List.set_cons_succ, SV.strip, SV.sure, if_true, true_and, cond_false, Bool.true_and, Nat.reduceBEq, Bool.or_self]
    simp only [List.append_nil, List.getD_cons_zero, List.getD_cons_succ, SV.res, true_and, Bool.true_and, fzL, List.foldl_nil, SV.ids, List.flatMap_cons, List.flatMap_nil, SV.pvS, resK, resSV, oneSV]
    refine eqInt ?_
    simp at h1 h2 h3 h4 h5
    unfold cmp
    rw [if_neg (by omega), if_neg (by omega)]
end Go.Proofs
