/-
  Enclosed numbers: points, what is fine, the least and the greatest of a row.
-/
import Derived.Test.YtbfhholefjngpaaFxRun
import Derived.Laws.Bits64
import Derived.Test.YtbfhholefjngpaaWE1
set_option linter.unusedSimpArgs false
set_option linter.unusedVariables false
set_option maxRecDepth 100000
namespace Go.Proofs
open Go Go.Fx Go.Mdlaw Go.Rootlaw

/-- couplet/env.Wrong -/
def ir_env_Wrong : IR := (.seq (.ops false [⟨(some 0), (.alloc 36 [(.int .i64 (0)), (.int .i64 (0)), (.int .i64 (0)), (.bool false)]), none⟩]) (.seq (.ops false [⟨(some 1), (.build [(.int .i64 (0)), (.int .i64 (0)), (.int .i64 (0)), (.bool false)] [(3, (1, (.c (.bool true))))]), none⟩, ⟨none, (.st 4 (.tmp 0) (.tmp 1)), none⟩]) .ret))
theorem ok_env_Wrong : compCode Try.prog (Try.f36.body.getD .skip) [] = some (ir_env_Wrong, []) := by kernel_rfl
def live_env_Wrong : List (List Nat) := []

/-- couplet/env.Point -/
def ir_env_Point : IR := (.seq (.ops false [⟨(some 2), (.alloc 36 [(.int .i64 (0)), (.int .i64 (0)), (.int .i64 (0)), (.bool false)]), none⟩]) (.seq (.seq (.ops false [⟨(some 3), (.mv (.tmp 0)), none⟩, ⟨(some 4), (.call (.func 83) [(.tmp 3)]), none⟩, ⟨(some 5), (.un .not (.tmp 4)), none⟩]) (.cond (.tmp 5) (.seq (.ops false [⟨(some 6), (.call (.func 36) []), none⟩, ⟨none, (.st 4 (.tmp 2) (.tmp 6)), none⟩]) .ret) .skip)) (.seq (.ops false [⟨(some 7), (.mv (.tmp 0)), none⟩, ⟨(some 8), (.mv (.tmp 0)), none⟩, ⟨(some 9), (.mv (.tmp 0)), none⟩, ⟨(some 10), (.build [(.int .i64 (0)), (.int .i64 (0)), (.int .i64 (0)), (.bool false)] [(0, (1, (.tmp 7))), (1, (1, (.tmp 8))), (2, (1, (.tmp 9)))]), none⟩, ⟨none, (.st 4 (.tmp 2) (.tmp 10)), none⟩]) .ret)))
theorem ok_env_Point : compCode Try.prog (Try.f35.body.getD .skip) [] = some (ir_env_Point, []) := by kernel_rfl
def live_env_Point : List (List Nat) := []

/-- (couplet/env.Num).Fine -/
def ir_couplet_env_Num_Fine : IR := (.seq (.ops false [⟨(some 1), (.box 36 (.tmp 0)), none⟩, ⟨(some 2), (.mv (.c (.bool false))), none⟩]) (.seq (.ops false [⟨(some 3), (.fldA 3 (.tmp 1)), none⟩, ⟨(some 4), (.ld false 1 (.tmp 3)), none⟩, ⟨(some 5), (.un .not (.tmp 4)), none⟩, ⟨(some 6), (.mv (.tmp 5)), none⟩, ⟨(some 7), (.fldA 1 (.tmp 1)), (some (6, true))⟩, ⟨(some 8), (.ld false 1 (.tmp 7)), (some (6, true))⟩, ⟨(some 9), (.call (.func 83) [(.tmp 8)]), (some (6, true))⟩, ⟨(some 10), (.pick (.tmp 6) (.tmp 9) (.c (.bool false))), none⟩, ⟨(some 11), (.mv (.tmp 10)), none⟩, ⟨(some 12), (.fldA 2 (.tmp 1)), (some (11, true))⟩, ⟨(some 13), (.ld false 1 (.tmp 12)), (some (11, true))⟩, ⟨(some 14), (.call (.func 83) [(.tmp 13)]), (some (11, true))⟩, ⟨(some 15), (.pick (.tmp 11) (.tmp 14) (.c (.bool false))), none⟩, ⟨(some 16), (.mv (.tmp 15)), none⟩, ⟨(some 17), (.fldA 1 (.tmp 1)), (some (16, true))⟩, ⟨(some 18), (.ld false 1 (.tmp 17)), (some (16, true))⟩, ⟨(some 19), (.fldA 0 (.tmp 1)), (some (16, true))⟩, ⟨(some 20), (.ld false 1 (.tmp 19)), (some (16, true))⟩, ⟨(some 21), (.bin .leq (.tmp 18) (.tmp 20)), (some (16, true))⟩, ⟨(some 22), (.pick (.tmp 16) (.tmp 21) (.c (.bool false))), none⟩, ⟨(some 23), (.mv (.tmp 22)), none⟩, ⟨(some 24), (.fldA 0 (.tmp 1)), (some (23, true))⟩, ⟨(some 25), (.ld false 1 (.tmp 24)), (some (23, true))⟩, ⟨(some 26), (.fldA 2 (.tmp 1)), (some (23, true))⟩, ⟨(some 27), (.ld false 1 (.tmp 26)), (some (23, true))⟩, ⟨(some 28), (.bin .leq (.tmp 25) (.tmp 27)), (some (23, true))⟩, ⟨(some 29), (.pick (.tmp 23) (.tmp 28) (.c (.bool false))), none⟩, ⟨(some 2), (.mv (.tmp 29)), none⟩]) .ret))
theorem ok_couplet_env_Num_Fine : compCode Try.prog (Try.f47.body.getD .skip) [] = some (ir_couplet_env_Num_Fine, []) := by kernel_rfl
def live_couplet_env_Num_Fine : List (List Nat) := []

/-- couplet/env.all -/
def ir_env_all : IR := (.seq (.ops false [⟨(some 2), (.box 36 (.tmp 0)), none⟩, ⟨(some 3), (.box 36 (.tmp 1)), none⟩, ⟨(some 4), (.mv (.c (.sl true true 2 []))), none⟩]) (.seq (.ops false [⟨(some 5), (.fldA 1 (.tmp 2)), none⟩, ⟨(some 6), (.ld false 1 (.tmp 5)), none⟩, ⟨(some 7), (.fldA 1 (.tmp 3)), none⟩, ⟨(some 8), (.ld false 1 (.tmp 7)), none⟩, ⟨(some 9), (.build [(.int .i64 (0)), (.int .i64 (0))] [(0, (1, (.tmp 6))), (1, (1, (.tmp 8)))]), none⟩, ⟨(some 10), (.fldA 1 (.tmp 2)), none⟩, ⟨(some 11), (.ld false 1 (.tmp 10)), none⟩, ⟨(some 12), (.fldA 2 (.tmp 3)), none⟩, ⟨(some 13), (.ld false 1 (.tmp 12)), none⟩, ⟨(some 14), (.build [(.int .i64 (0)), (.int .i64 (0))] [(0, (1, (.tmp 11))), (1, (1, (.tmp 13)))]), none⟩, ⟨(some 15), (.fldA 2 (.tmp 2)), none⟩, ⟨(some 16), (.ld false 1 (.tmp 15)), none⟩, ⟨(some 17), (.fldA 1 (.tmp 3)), none⟩, ⟨(some 18), (.ld false 1 (.tmp 17)), none⟩, ⟨(some 19), (.build [(.int .i64 (0)), (.int .i64 (0))] [(0, (1, (.tmp 16))), (1, (1, (.tmp 18)))]), none⟩, ⟨(some 20), (.fldA 2 (.tmp 2)), none⟩, ⟨(some 21), (.ld false 1 (.tmp 20)), none⟩, ⟨(some 22), (.fldA 2 (.tmp 3)), none⟩, ⟨(some 23), (.ld false 1 (.tmp 22)), none⟩, ⟨(some 24), (.build [(.int .i64 (0)), (.int .i64 (0))] [(0, (1, (.tmp 21))), (1, (1, (.tmp 23)))]), none⟩, ⟨(some 25), (.bsl 91 none 2 [(.tmp 9), (.tmp 14), (.tmp 19), (.tmp 24)]), none⟩, ⟨(some 4), (.mv (.tmp 25)), none⟩]) .ret))
theorem ok_env_all : compCode Try.prog (Try.f90.body.getD .skip) [] = some (ir_env_all, []) := by kernel_rfl
def live_env_all : List (List Nat) := []

/-- slices.Min[[]int,int] -/
def ir_slices_Min__int_int : IR := (.seq (.ops false [⟨(some 2), (.mv (.c (.int .i64 (0)))), none⟩]) (.seq (.seq (.ops false [⟨(some 5), (.mv (.tmp 0)), none⟩, ⟨(some 6), (.len (.tmp 5)), none⟩, ⟨(some 7), (.bin .lss (.tmp 6) (.c (.int .i64 (1)))), none⟩]) (.cond (.tmp 7) (.ops false [⟨(some 8), .bad, none⟩, ⟨none, .bad, none⟩]) .skip)) (.seq (.ops false [⟨(some 9), (.mv (.tmp 0)), none⟩, ⟨(some 10), (.ixA 1 (.tmp 9) (.c (.int .i64 (0)))), none⟩, ⟨(some 11), (.ld false 1 (.tmp 10)), none⟩, ⟨(some 3), (.mv (.tmp 11)), none⟩]) (.seq (.seq (.ops false [⟨(some 4), (.mv (.c (.int .i64 (1)))), none⟩]) (.block 0 (.loop [0, 3, 4] (.seq (.seq (.ops false [⟨(some 12), (.mv (.tmp 4)), none⟩, ⟨(some 13), (.mv (.tmp 0)), none⟩, ⟨(some 14), (.len (.tmp 13)), none⟩, ⟨(some 15), (.bin .lss (.tmp 12) (.tmp 14)), none⟩]) (.cond (.tmp 15) .skip (.exit 0))) (.seq (.block 1 (.ops false [⟨(some 18), (.mv (.tmp 3)), none⟩, ⟨(some 19), (.mv (.tmp 0)), none⟩, ⟨(some 20), (.mv (.tmp 4)), none⟩, ⟨(some 21), (.ixA 1 (.tmp 19) (.tmp 20)), none⟩, ⟨(some 22), (.ld false 1 (.tmp 21)), none⟩, ⟨(some 23), (.mins [(.tmp 18), (.tmp 22)]), none⟩, ⟨(some 3), (.mv (.tmp 23)), none⟩])) (.ops false [⟨(some 16), (.mv (.tmp 4)), none⟩, ⟨(some 17), (.bin .add (.tmp 16) (.c (.int .i64 (1)))), none⟩, ⟨(some 4), (.mv (.tmp 17)), none⟩])))))) (.seq (.ops false [⟨(some 24), (.mv (.tmp 3)), none⟩, ⟨(some 2), (.mv (.tmp 24)), none⟩]) .ret)))))
theorem ok_slices_Min__int_int : compCode Try.prog (Try.f117.body.getD .skip) [[0, 3, 4]] = some (ir_slices_Min__int_int, []) := by kernel_rfl
def live_slices_Min__int_int : List (List Nat) := [[0, 3, 4]]

/-- slices.Max[[]int,int] -/
def ir_slices_Max__int_int : IR := (.seq (.ops false [⟨(some 2), (.mv (.c (.int .i64 (0)))), none⟩]) (.seq (.seq (.ops false [⟨(some 5), (.mv (.tmp 0)), none⟩, ⟨(some 6), (.len (.tmp 5)), none⟩, ⟨(some 7), (.bin .lss (.tmp 6) (.c (.int .i64 (1)))), none⟩]) (.cond (.tmp 7) (.ops false [⟨(some 8), .bad, none⟩, ⟨none, .bad, none⟩]) .skip)) (.seq (.ops false [⟨(some 9), (.mv (.tmp 0)), none⟩, ⟨(some 10), (.ixA 1 (.tmp 9) (.c (.int .i64 (0)))), none⟩, ⟨(some 11), (.ld false 1 (.tmp 10)), none⟩, ⟨(some 3), (.mv (.tmp 11)), none⟩]) (.seq (.seq (.ops false [⟨(some 4), (.mv (.c (.int .i64 (1)))), none⟩]) (.block 0 (.loop [0, 3, 4] (.seq (.seq (.ops false [⟨(some 12), (.mv (.tmp 4)), none⟩, ⟨(some 13), (.mv (.tmp 0)), none⟩, ⟨(some 14), (.len (.tmp 13)), none⟩, ⟨(some 15), (.bin .lss (.tmp 12) (.tmp 14)), none⟩]) (.cond (.tmp 15) .skip (.exit 0))) (.seq (.block 1 (.ops false [⟨(some 18), (.mv (.tmp 3)), none⟩, ⟨(some 19), (.mv (.tmp 0)), none⟩, ⟨(some 20), (.mv (.tmp 4)), none⟩, ⟨(some 21), (.ixA 1 (.tmp 19) (.tmp 20)), none⟩, ⟨(some 22), (.ld false 1 (.tmp 21)), none⟩, ⟨(some 23), (.maxs [(.tmp 18), (.tmp 22)]), none⟩, ⟨(some 3), (.mv (.tmp 23)), none⟩])) (.ops false [⟨(some 16), (.mv (.tmp 4)), none⟩, ⟨(some 17), (.bin .add (.tmp 16) (.c (.int .i64 (1)))), none⟩, ⟨(some 4), (.mv (.tmp 17)), none⟩])))))) (.seq (.ops false [⟨(some 24), (.mv (.tmp 3)), none⟩, ⟨(some 2), (.mv (.tmp 24)), none⟩]) .ret)))))
theorem ok_slices_Max__int_int : compCode Try.prog (Try.f118.body.getD .skip) [[0, 3, 4]] = some (ir_slices_Max__int_int, []) := by kernel_rfl
def live_slices_Max__int_int : List (List Nat) := [[0, 3, 4]]


/-- An enclosed number. -/
structure Nm where
  v : Int
  lo : Int
  hi : Int
  bad : Bool
  deriving DecidableEq

def Nm.pv (x : Nm) : PV := .agg [.int .i64 x.v, .int .i64 x.lo, .int .i64 x.hi, .bool x.bad]
def wrong : Nm := ⟨0, 0, 0, true⟩
def point (n : Int) : Nm := if okF n then ⟨n, n, n, false⟩ else wrong
def fine (a : Nm) : Bool := !a.bad && decide (okF a.lo) && decide (okF a.hi) && decide (a.lo ≤ a.v) && decide (a.v ≤ a.hi)

theorem cells36 : Try.prog.cellsOf 36 = 4 := by kernel_rfl
theorem agg36 : isAggT Try.prog 36 = true := by kernel_rfl
theorem cells91 : Try.prog.cellsOf 91 = 2 := by kernel_rfl
theorem agg91 : isAggT Try.prog 91 = true := by kernel_rfl

theorem fn_Wrong (G : Glob) : FunEq Try.prog G 36 [] wrong.pv := by
  refine fun_of_vc live_env_Wrong Try.func36 rfl (by kernel_rfl) ok_env_Wrong (by kernel_rfl) Try.ntmps36 (run_of ?_)
  simp only [run_seq, run_ops, run_opsNil, run_ret, run_op0, run_alloc, run_st, Ins.kind, IOp.apps, List.any_cons, List.any_nil, pev, Ins.calm, Ins.opds, sureL, evS, St.put, List.map, List.map_cons, List.length_cons, List.length_nil, List.replicate, List.cons_append, List.nil_append, List.append_nil, List.getD_cons_zero, List.getD_cons_succ, List.set_cons_zero, List.set_cons_succ, SV.res, SV.strip, SV.sure, SV.cells, PV.cells, SV.scal, PV.scal, if_true, Bool.false_eq_true, if_false, true_and, Nat.reduceSub, Nat.zero_add, Nat.reduceAdd, cond_true, cond_false, List.all_cons, Bool.and_self, Bool.true_and, Nat.reduceLeDiff, List.take, List.drop, Nat.reduceBEq, Bool.or_false, Bool.or_self, Option.map_some, spliceL, beq_self_eq_true, List.all, and_self, fillL, aggS, allP, ir_env_Wrong, Try.results36, wrong, Nm.pv]
  simp only [List.length_cons, List.length_nil, List.append_nil, List.getD_cons_zero, SV.res, SV.ld, if_true, Nat.zero_add, Nat.reduceAdd, Bool.and_self, Nat.reduceLeDiff, List.take, List.drop, Option.map_some, fzL, List.foldl_nil, SV.ids, List.flatMap_cons, List.flatMap_nil, SV.pvS, and_self, aggS, allP, resK, resSV, oneSV, cells36, agg36]

theorem fn_Point (G : Glob) (n : Int) : FunEq Try.prog G 35 [.int .i64 n] (point n).pv := by
  have c1 := fn_fx_Right G n
  have c2 := fn_Wrong G
  refine fun_of_vc live_env_Point Try.func35 rfl (by kernel_rfl) ok_env_Point (by kernel_rfl) Try.ntmps35 (run_of ?_)
  unfold point
  simp only [run_seq, run_ops, run_opsNil, run_op0, run_cond, run_alloc, Ins.kind, IOp.apps, List.any_cons, List.any_nil, pev, Ins.calm, Ins.opds, sureL, evS, St.put, List.map, List.length_cons, List.length_nil, List.replicate, List.cons_append, List.nil_append, List.getD_cons_zero, List.getD_cons_succ, List.set_cons_zero, List.set_cons_succ, SV.res, SV.strip, SV.sure, if_true, Bool.false_eq_true, if_false, true_and, Nat.reduceSub, Nat.zero_add, cond_true, cond_false, Bool.and_self, Bool.true_and, Nat.reduceBEq, Bool.or_false, Bool.or_self, beq_self_eq_true, and_self, ir_env_Point, Try.results35]
  refine run_call c1 _ rfl (by exact ⟨trivial, trivial⟩) rfl rfl rfl trivial trivial ?_
  simp only [run_opsNil, run_op0, run_cond, pev, Ins.calm, Ins.opds, sureL, evS, St.put, List.append_nil, List.getD_cons_zero, List.getD_cons_succ, List.set_cons_zero, List.set_cons_succ, SV.res, SV.strip, SV.sure, if_true, true_and, Bool.true_and, fzL, List.foldl_nil, SV.ids, boxIds, List.flatMap_cons, List.flatMap_nil, PV.flat]
  refine runC_of (fun h => ?_) (fun h => ?_)
  · have h1 : ¬ okF n := by simpa using h
    rw [if_neg h1]
    simp only [run_seq, run_ops, run_opsNil, run_ret, run_op0, run_st, Ins.kind, IOp.apps, List.any_cons, List.any_nil, pev, Ins.calm, Ins.opds, sureL, evS, St.put, List.length_cons, List.length_nil, List.cons_append, List.nil_append, List.getD_cons_zero, List.getD_cons_succ, List.set_cons_zero, List.set_cons_succ, SV.res, SV.strip, SV.sure, SV.cells, SV.scal, PV.scal, Bool.false_eq_true, if_false, true_and, and_true, Nat.zero_add, Nat.reduceAdd, cond_false, List.all_cons, Bool.and_self, Bool.and_true, Bool.true_and, Nat.reduceLeDiff, List.take, List.drop, Nat.reduceBEq, Bool.or_self, spliceL, Nat.reduceEqDiff, List.all, and_self]
    refine run_call c2 _ rfl (by exact trivial) rfl rfl rfl trivial trivial ?_
    simp only [run_opsNil, run_ret, run_op0, run_st, pev, Ins.calm, Ins.opds, sureL, evS, St.put, List.map, List.map_cons, List.length_cons, List.length_nil, List.nil_append, List.append_nil, List.getD_cons_zero, List.getD_cons_succ, List.set_cons_zero, List.set_cons_succ, SV.res, SV.strip, SV.sure, SV.cells, PV.cells, SV.scal, PV.scal, if_true, Bool.false_eq_true, if_false, true_and, Nat.zero_add, Nat.reduceAdd, List.all_cons, Bool.and_self, Bool.true_and, Nat.reduceLeDiff, List.take, List.drop, fzL, List.foldl_nil, SV.ids, boxIds, List.flatMap_cons, List.flatMap_nil, PV.flat, PV.flatL, spliceL, List.all, and_self, wrong, Nm.pv]
    simp only [List.length_cons, List.length_nil, List.append_nil, List.getD_cons_zero, List.getD_cons_succ, SV.res, SV.ld, if_true, Nat.zero_add, Nat.reduceAdd, Bool.and_self, Nat.reduceLeDiff, List.take, List.drop, Option.map_some, fzL, List.foldl_nil, SV.ids, List.flatMap_cons, List.flatMap_nil, SV.pvS, and_self, aggS, allP, resK, resSV, oneSV, cells36, agg36]
  · have h1 : okF n := by simpa using h
    rw [if_pos h1]
    simp only [run_skip, run_seq, run_ops, run_opsNil, run_ret, run_op0, run_st, Ins.kind, IOp.apps, List.any_cons, List.any_nil, pev, Ins.calm, Ins.opds, sureL, evS, St.put, List.map, List.map_cons, List.length_cons, List.length_nil, List.cons_append, List.nil_append, List.append_nil, List.getD_cons_zero, List.getD_cons_succ, List.set_cons_zero, List.set_cons_succ, SV.res, SV.strip, SV.sure, SV.cells, PV.cells, SV.scal, PV.scal, if_true, Bool.false_eq_true, if_false, true_and, Nat.zero_add, Nat.reduceAdd, cond_false, List.all_cons, Bool.and_self, Bool.true_and, Nat.reduceLeDiff, List.take, List.drop, Nat.reduceBEq, Bool.or_self, Option.map_some, spliceL, List.all, and_self, fillL, aggS, allP, Nm.pv]
    simp only [List.length_cons, List.length_nil, List.append_nil, List.getD_cons_zero, List.getD_cons_succ, SV.res, SV.ld, if_true, Nat.zero_add, Nat.reduceAdd, Bool.and_self, Nat.reduceLeDiff, List.take, List.drop, Option.map_some, fzL, List.foldl_nil, SV.ids, List.flatMap_cons, List.flatMap_nil, SV.pvS, and_self, aggS, allP, resK, resSV, oneSV, cells36, agg36]

theorem fn_Fine (G : Glob) (a : Nm) : FunEq Try.prog G 47 [a.pv] (.bool (fine a)) := by
  obtain ⟨v, lo, hi, bad⟩ := a
  have c1 := fn_fx_Right G lo
  have c2 := fn_fx_Right G hi
  refine fun_of_vc live_couplet_env_Num_Fine Try.func47 rfl (by kernel_rfl) ok_couplet_env_Num_Fine (by kernel_rfl) Try.ntmps47 (run_of ?_)
  simp only [run_seq, run_ops, run_opsNil, run_ret, run_op0, run_opG, run_pick, runP, run_box, Ins.kind, IOp.apps, List.any_cons, List.any_nil, gAct, pev, Ins.calm, Ins.opds, sureL, evS, St.put, List.map, List.map_cons, List.length_cons, List.length_nil, List.replicate, List.cons_append, List.nil_append, List.getD_cons_zero, List.getD_cons_succ, List.set_cons_zero, List.set_cons_succ, SV.res, SV.strip, SV.sure, SV.cells, PV.cells, SV.scal, PV.scal, SV.ld, binV, if_true, Bool.false_eq_true, if_false, SV.mix, true_and, and_true, Nat.reduceSub, Nat.zero_add, Nat.add_zero, Nat.reduceAdd, implies_true, cond_true, cond_false, List.all_cons, Bool.and_self, Bool.and_true, Bool.true_and, Nat.reduceLeDiff, List.take, List.drop, Nat.reduceBEq, Bool.or_false, Bool.or_self, Option.map_some, beq_self_eq_true, List.all, imp_self, Bool.not_eq_true', Bool.and_eq_true, and_self, aggS, allP, Bool.cond_false_right, ir_couplet_env_Num_Fine, Try.results47, Nm.pv]
  refine run_callG (fun _ => c1) _ rfl (by exact fun h => ⟨trivial, h⟩) rfl rfl rfl trivial trivial ?_
  simp only [run_opsNil, run_ret, run_op0, run_opG, run_pick, runP, gAct, pev, Ins.calm, Ins.opds, sureL, evS, St.put, List.length_cons, List.length_nil, List.append_nil, List.getD_cons_zero, List.getD_cons_succ, List.set_cons_zero, List.set_cons_succ, SV.res, SV.strip, SV.sure, SV.ld, binV, if_true, Bool.false_eq_true, if_false, SV.mix, true_and, and_true, Nat.zero_add, Nat.add_zero, Nat.reduceAdd, implies_true, cond_true, Bool.and_self, Bool.and_true, Bool.true_and, Nat.reduceLeDiff, List.take, List.drop, Option.map_some, fzL, List.foldl_nil, SV.ids, boxIds, List.flatMap_cons, List.flatMap_nil, PV.flat, imp_self, Bool.not_eq_true', Bool.and_eq_true, and_self, aggS, allP, Bool.cond_false_right]
  refine run_callG (fun _ => c2) _ rfl (by exact fun h => ⟨trivial, h⟩) rfl rfl rfl trivial trivial ?_
  simp only [run_opsNil, run_ret, run_op0, run_opG, run_pick, runP, gAct, pev, Ins.calm, Ins.opds, sureL, evS, St.put, List.length_cons, List.length_nil, List.append_nil, List.getD_cons_zero, List.getD_cons_succ, List.set_cons_zero, List.set_cons_succ, SV.res, SV.strip, SV.sure, SV.ld, binV, if_true, Bool.false_eq_true, if_false, SV.mix, true_and, and_true, Nat.zero_add, Nat.add_zero, Nat.reduceAdd, implies_true, cond_true, Bool.and_self, Bool.and_true, Bool.true_and, Nat.reduceLeDiff, List.take, List.drop, Option.map_some, fzL, List.foldl_nil, SV.ids, boxIds, List.flatMap_cons, List.flatMap_nil, PV.flat, imp_self, Bool.not_eq_true', Bool.and_eq_true, and_self, aggS, allP, Bool.cond_false_right]
  simp only [List.append_nil, List.getD_cons_zero, List.getD_cons_succ, SV.res, Bool.and_self, fzL, List.foldl_nil, SV.ids, List.flatMap_cons, List.flatMap_nil, SV.pvS, and_self, resK, resSV, oneSV, fine]

theorem fn_slices_Min (G : Glob) (nl ex : Bool) (x : Int) (L : List Int) (hL : L.length < 1000) : FunEq Try.prog G 117 [.isl nl ex .i64 (x :: L)] (.int .i64 (L.foldl min x)) := by
  refine fun_of_vc live_slices_Min__int_int Try.func117 rfl (by kernel_rfl) ok_slices_Min__int_int (by kernel_rfl) Try.ntmps117 (run_of ?_)
  have hlen : (x :: L).length = L.length + 1 := rfl
  simp only [run_seq, run_ops, run_opsNil, run_op0, run_cond, Ins.kind, IOp.apps, List.any_cons, List.any_nil, pev, Ins.calm, Ins.opds, sureL, evS, St.put, List.map, List.length_cons, List.length_nil, List.replicate, List.cons_append, List.nil_append, List.getD_cons_zero, List.getD_cons_succ, List.set_cons_zero, List.set_cons_succ, SV.res, SV.strip, SV.sure, binV, if_true, true_and, Nat.reduceSub, Nat.zero_add, cond_false, Bool.and_self, Bool.true_and, Nat.reduceBEq, Bool.or_self, and_self, ir_slices_Min__int_int, Try.results117, hlen]
  refine runC_dec (fun h => absurd h (by omega)) (fun h => ?_)
  simp only [run_skip, run_seq, run_ops, run_opsNil, run_block, run_op0, Ins.kind, IOp.apps, List.any_cons, List.any_nil, pev, Ins.calm, Ins.opds, sureL, evS, St.put, List.getD_cons_zero, List.getD_cons_succ, List.set_cons_zero, List.set_cons_succ, SV.res, SV.strip, SV.sure, SV.ld, PV.ld, if_true, true_and, cond_false, Bool.and_self, Bool.true_and, Nat.reduceBEq, Bool.or_self, Int.toNat_zero, and_self, Int.le_refl, hlen]
  refine ⟨by omega, by omega, ?_⟩
  refine run_loop (fun n S => ∃ k : Nat, k ≤ L.length ∧ n = L.length - k ∧ S = ⟨slots 25 0 [(0, .p (.isl nl ex .i64 (x :: L))), (3, .p (.int .i64 ((L.take k).foldl min x))), (4, .p (.int .i64 ((k + 1 : Nat) : Int)))], []⟩) ?_ ?_
  · exact ⟨L.length, [], by simp, 0, by omega, rfl, rfl⟩
  rintro n S' ⟨k, hk, rfl, rfl⟩
  simp only [run_seq, run_ops, run_opsNil, run_op0, run_cond, Ins.kind, IOp.apps, List.any_cons, List.any_nil, pev, Ins.calm, Ins.opds, sureL, evS, St.put, List.getD_cons_zero, List.getD_cons_succ, List.set_cons_zero, List.set_cons_succ, SV.res, SV.strip, SV.sure, binV, if_true, if_false, true_and, Nat.zero_add, Nat.reduceAdd, cond_false, Bool.and_self, Bool.true_and, St.forget, slots, Nat.reduceBEq, Bool.or_self, Nat.reduceEqDiff, and_self, hlen]
  refine runC_dec (fun h => ?_) (fun h => ?_)
  · have hk2 : k < L.length := by omega
    have ht : (L.take (k + 1)).foldl min x = min ((L.take k).foldl min x) (L.getD k 0) := by
      rw [List.take_add_one, List.foldl_append, List.getElem?_eq_getElem hk2, List.getD_eq_getElem?_getD, List.getElem?_eq_getElem hk2]
      rfl
    have hw : IntKind.i64.wrap (((k + 1 : Nat) : Int) + 1) = ((k + 1 + 1 : Nat) : Int) := (wrap_i64_id (by unfold i64; omega)).trans (by omega)
    simp only [run_nil, run_skip, run_eb, run_seq, run_ops, run_opsNil, run_block, run_op0, Ins.kind, IOp.apps, List.any_cons, List.any_nil, pev, Ins.calm, Ins.opds, sureL, evS, St.put, List.map, List.getD_cons_zero, List.getD_cons_succ, List.set_cons_zero, List.set_cons_succ, SV.res, SV.strip, SV.sure, SV.ld, PV.ld, binV, if_true, Bool.false_eq_true, if_false, true_and, Nat.zero_add, Nat.reduceAdd, cond_false, Bool.and_self, Bool.true_and, forgetL, List.contains_cons, List.contains_nil, Nat.reduceBEq, Bool.or_false, Bool.or_true, Bool.or_self, Option.map_some, minL, beq_self_eq_true, and_self, SV.ren, SV.renL, hlen, Int.toNat_natCast, hw, List.getD_cons_succ]
    refine ⟨by omega, by omega, L.length - (k + 1), [], by simp, by omega, k + 1, by omega, rfl, ?_⟩
    rw [ht]
    rfl
  · have hk2 : k = L.length := by omega
    subst hk2
    rw [List.take_length]
    simp only [run_seq, run_ops, run_opsNil, run_ret, run_exit, runX_nil, runX_ir, runX_eb, run_op0, Ins.kind, IOp.apps, List.any_cons, List.any_nil, pev, Ins.calm, Ins.opds, sureL, evS, St.put, List.getD_cons_zero, List.getD_cons_succ, List.set_cons_zero, List.set_cons_succ, SV.res, SV.strip, SV.sure, if_true, true_and, cond_false, Bool.true_and, Nat.reduceBEq, Bool.or_self]
    simp only [List.append_nil, List.getD_cons_zero, List.getD_cons_succ, SV.res, Bool.and_self, fzL, List.foldl_nil, SV.ids, List.flatMap_cons, List.flatMap_nil, SV.pvS, and_self, resK, resSV, oneSV]

theorem fn_slices_Max (G : Glob) (nl ex : Bool) (x : Int) (L : List Int) (hL : L.length < 1000) : FunEq Try.prog G 118 [.isl nl ex .i64 (x :: L)] (.int .i64 (L.foldl max x)) := by
  refine fun_of_vc live_slices_Max__int_int Try.func118 rfl (by kernel_rfl) ok_slices_Max__int_int (by kernel_rfl) Try.ntmps118 (run_of ?_)
  have hlen : (x :: L).length = L.length + 1 := rfl
  simp only [run_seq, run_ops, run_opsNil, run_op0, run_cond, Ins.kind, IOp.apps, List.any_cons, List.any_nil, pev, Ins.calm, Ins.opds, sureL, evS, St.put, List.map, List.length_cons, List.length_nil, List.replicate, List.cons_append, List.nil_append, List.getD_cons_zero, List.getD_cons_succ, List.set_cons_zero, List.set_cons_succ, SV.res, SV.strip, SV.sure, binV, if_true, true_and, Nat.reduceSub, Nat.zero_add, cond_false, Bool.and_self, Bool.true_and, Nat.reduceBEq, Bool.or_self, and_self, ir_slices_Max__int_int, Try.results118, hlen]
  refine runC_dec (fun h => absurd h (by omega)) (fun h => ?_)
  simp only [run_skip, run_seq, run_ops, run_opsNil, run_block, run_op0, Ins.kind, IOp.apps, List.any_cons, List.any_nil, pev, Ins.calm, Ins.opds, sureL, evS, St.put, List.getD_cons_zero, List.getD_cons_succ, List.set_cons_zero, List.set_cons_succ, SV.res, SV.strip, SV.sure, SV.ld, PV.ld, if_true, true_and, cond_false, Bool.and_self, Bool.true_and, Nat.reduceBEq, Bool.or_self, Int.toNat_zero, and_self, Int.le_refl, hlen]
  refine ⟨by omega, by omega, ?_⟩
  refine run_loop (fun n S => ∃ k : Nat, k ≤ L.length ∧ n = L.length - k ∧ S = ⟨slots 25 0 [(0, .p (.isl nl ex .i64 (x :: L))), (3, .p (.int .i64 ((L.take k).foldl max x))), (4, .p (.int .i64 ((k + 1 : Nat) : Int)))], []⟩) ?_ ?_
  · exact ⟨L.length, [], by simp, 0, by omega, rfl, rfl⟩
  rintro n S' ⟨k, hk, rfl, rfl⟩
  simp only [run_seq, run_ops, run_opsNil, run_op0, run_cond, Ins.kind, IOp.apps, List.any_cons, List.any_nil, pev, Ins.calm, Ins.opds, sureL, evS, St.put, List.getD_cons_zero, List.getD_cons_succ, List.set_cons_zero, List.set_cons_succ, SV.res, SV.strip, SV.sure, binV, if_true, if_false, true_and, Nat.zero_add, Nat.reduceAdd, cond_false, Bool.and_self, Bool.true_and, St.forget, slots, Nat.reduceBEq, Bool.or_self, Nat.reduceEqDiff, and_self, hlen]
  refine runC_dec (fun h => ?_) (fun h => ?_)
  · have hk2 : k < L.length := by omega
    have ht : (L.take (k + 1)).foldl max x = max ((L.take k).foldl max x) (L.getD k 0) := by
      rw [List.take_add_one, List.foldl_append, List.getElem?_eq_getElem hk2, List.getD_eq_getElem?_getD, List.getElem?_eq_getElem hk2]
      rfl
    have hw : IntKind.i64.wrap (((k + 1 : Nat) : Int) + 1) = ((k + 1 + 1 : Nat) : Int) := (wrap_i64_id (by unfold i64; omega)).trans (by omega)
    simp only [run_nil, run_skip, run_eb, run_seq, run_ops, run_opsNil, run_block, run_op0, Ins.kind, IOp.apps, List.any_cons, List.any_nil, pev, Ins.calm, Ins.opds, sureL, evS, St.put, List.map, List.getD_cons_zero, List.getD_cons_succ, List.set_cons_zero, List.set_cons_succ, SV.res, SV.strip, SV.sure, SV.ld, PV.ld, binV, if_true, Bool.false_eq_true, if_false, true_and, Nat.zero_add, Nat.reduceAdd, cond_false, Bool.and_self, Bool.true_and, forgetL, List.contains_cons, List.contains_nil, Nat.reduceBEq, Bool.or_false, Bool.or_true, Bool.or_self, Option.map_some, maxL, beq_self_eq_true, and_self, SV.ren, SV.renL, hlen, Int.toNat_natCast, hw, List.getD_cons_succ]
    refine ⟨by omega, by omega, L.length - (k + 1), [], by simp, by omega, k + 1, by omega, rfl, ?_⟩
    rw [ht]
    rfl
  · have hk2 : k = L.length := by omega
    subst hk2
    rw [List.take_length]
    simp only [run_seq, run_ops, run_opsNil, run_ret, run_exit, runX_nil, runX_ir, runX_eb, run_op0, Ins.kind, IOp.apps, List.any_cons, List.any_nil, pev, Ins.calm, Ins.opds, sureL, evS, St.put, List.getD_cons_zero, List.getD_cons_succ, List.set_cons_zero, List.set_cons_succ, SV.res, SV.strip, SV.sure, if_true, true_and, cond_false, Bool.true_and, Nat.reduceBEq, Bool.or_self]
    simp only [List.append_nil, List.getD_cons_zero, List.getD_cons_succ, SV.res, Bool.and_self, fzL, List.foldl_nil, SV.ids, List.flatMap_cons, List.flatMap_nil, SV.pvS, and_self, resK, resSV, oneSV]

theorem fn_all (G : Glob) (a b : Nm) : FunEq Try.prog G 90 [a.pv, b.pv] (.sl false true 2 [.agg [.int .i64 a.lo, .int .i64 b.lo], .agg [.int .i64 a.lo, .int .i64 b.hi], .agg [.int .i64 a.hi, .int .i64 b.lo], .agg [.int .i64 a.hi, .int .i64 b.hi]]) := by
  refine fun_of_vc live_env_all Try.func90 rfl (by kernel_rfl) ok_env_all (by kernel_rfl) Try.ntmps90 (run_of ?_)
  simp only [run_seq, run_ops, run_opsNil, run_ret, run_op0, run_box, run_bsl, runB, okB, Ins.kind, IOp.apps, List.any_cons, List.any_nil, pev, Ins.calm, Ins.opds, sureL, evS, St.put, List.map, List.map_cons, List.length_cons, List.length_nil, List.replicate, List.cons_append, List.nil_append, List.append_nil, List.getD_cons_zero, List.getD_cons_succ, List.set_cons_zero, List.set_cons_succ, SV.res, SV.strip, SV.sure, SV.cells, PV.cells, SV.scal, PV.scal, SV.ld, if_true, Bool.false_eq_true, if_false, true_and, and_true, Nat.reduceSub, Nat.zero_add, Nat.reduceAdd, cond_true, cond_false, List.all_cons, Bool.and_self, Bool.and_true, Bool.true_and, Nat.reduceLeDiff, List.take, List.drop, Nat.reduceBEq, Bool.or_false, Bool.or_true, Bool.or_self, Option.map_some, fzL, List.foldl_nil, SV.ids, List.flatMap_cons, List.flatMap_nil, SV.pvS, SV.pvSL, spliceL, beq_self_eq_true, List.all, and_self, fillL, aggS, allP, ir_env_all, Try.results90, Nm.pv]
  simp only [List.append_nil, List.getD_cons_zero, List.getD_cons_succ, List.set_cons_zero, List.set_cons_succ, SV.res, Bool.and_self, fzL, fz1, List.foldl_cons, List.foldl_nil, SV.ids, List.flatMap_cons, List.flatMap_nil, SV.pvS, and_self, resK, resSV, oneSV]
end Go.Proofs
