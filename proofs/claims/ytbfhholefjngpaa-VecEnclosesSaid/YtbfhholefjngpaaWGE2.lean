import Derived.Test.YtbfhholefjngpaaFxRun
import Derived.Laws.Bits64
import Derived.Test.YtbfhholefjngpaaWE3
import Derived.Test.YtbfhholefjngpaaWC1
import Derived.Test.YtbfhholefjngpaaWCmplaw
import Derived.Test.YtbfhholefjngpaaWE1
import Derived.Test.YtbfhholefjngpaaFxCut
import Derived.Test.YtbfhholefjngpaaWSVpf
import Derived.Test.YtbfhholefjngpaaFxFin
import Derived.Test.YtbfhholefjngpaaChecked
set_option linter.unusedSimpArgs false
set_option linter.unusedVariables false
set_option maxRecDepth 100000
namespace Go.Proofs
open Go Go.Fx Go.Mdlaw Go.Rootlaw
def ir_couplet_env_Num_Add_1 : IR := (.seq (.ops false [⟨(some 6), (.mv (.c (.int .i64 (0)))), none⟩, ⟨(some 7), (.mv (.c (.bool false))), none⟩]) (.seq (.ops false [⟨(some 8), (.mv (.tmp 0)), none⟩, ⟨(some 9), (.mv (.tmp 1)), none⟩, ⟨(some 10), (.call (.func 87) [(.tmp 8), (.tmp 9)]), none⟩, ⟨(some 11), (.ext (.tmp 10) 0), none⟩, ⟨(some 12), (.ext (.tmp 10) 1), none⟩, ⟨(some 6), (.mv (.tmp 11)), none⟩, ⟨(some 7), (.mv (.tmp 12)), none⟩]) .ret))
theorem ok_couplet_env_Num_Add_1 : compCode Try.prog (Try.f86.body.getD .skip) [] = some (ir_couplet_env_Num_Add_1, []) := by kernel_rfl
def live_couplet_env_Num_Add_1 : List (List Nat) := []
def ir_couplet_env_Num_Add : IR := (.seq (.ops false [⟨(some 2), (.box 36 (.tmp 0)), none⟩, ⟨(some 3), (.box 36 (.tmp 1)), none⟩, ⟨(some 4), (.alloc 36 [(.int .i64 (0)), (.int .i64 (0)), (.int .i64 (0)), (.bool false)]), none⟩]) (.seq (.ops false [⟨(some 5), (.mv (.func 86)), none⟩]) (.seq (.ops false [⟨(some 6), (.ld true 4 (.tmp 2)), none⟩, ⟨(some 7), (.ld true 4 (.tmp 3)), none⟩, ⟨(some 8), (.mv (.tmp 5)), none⟩, ⟨(some 9), (.fldA 1 (.tmp 2)), none⟩, ⟨(some 10), (.ld false 1 (.tmp 9)), none⟩, ⟨(some 11), (.fldA 1 (.tmp 3)), none⟩, ⟨(some 12), (.ld false 1 (.tmp 11)), none⟩, ⟨(some 13), (.build [(.int .i64 (0)), (.int .i64 (0))] [(0, (1, (.tmp 10))), (1, (1, (.tmp 12)))]), none⟩, ⟨(some 14), (.fldA 2 (.tmp 2)), none⟩, ⟨(some 15), (.ld false 1 (.tmp 14)), none⟩, ⟨(some 16), (.fldA 2 (.tmp 3)), none⟩, ⟨(some 17), (.ld false 1 (.tmp 16)), none⟩, ⟨(some 18), (.build [(.int .i64 (0)), (.int .i64 (0))] [(0, (1, (.tmp 15))), (1, (1, (.tmp 17)))]), none⟩, ⟨(some 19), (.bsl 91 none 2 [(.tmp 13), (.tmp 18)]), none⟩, ⟨(some 20), (.call (.func 88) [(.tmp 6), (.tmp 7), (.tmp 8), (.tmp 19)]), none⟩, ⟨none, (.st 4 (.tmp 4) (.tmp 20)), none⟩]) .ret)))
theorem ok_couplet_env_Num_Add : compCode Try.prog (Try.f43.body.getD .skip) [] = some (ir_couplet_env_Num_Add, []) := by kernel_rfl
def live_couplet_env_Num_Add : List (List Nat) := []
def ir_couplet_env_Num_Mul : IR := (.seq (.ops false [⟨(some 2), (.box 36 (.tmp 0)), none⟩, ⟨(some 3), (.box 36 (.tmp 1)), none⟩, ⟨(some 4), (.alloc 36 [(.int .i64 (0)), (.int .i64 (0)), (.int .i64 (0)), (.bool false)]), none⟩]) (.seq (.ops true [⟨(some 5), (.ld true 4 (.tmp 2)), none⟩, ⟨(some 6), (.ld true 4 (.tmp 3)), none⟩, ⟨(some 7), (.ld true 4 (.tmp 2)), none⟩, ⟨(some 8), (.ld true 4 (.tmp 3)), none⟩, ⟨(some 9), (.call (.func 90) [(.tmp 7), (.tmp 8)]), none⟩, ⟨(some 10), (.call (.func 88) [(.tmp 5), (.tmp 6), (.func 89), (.tmp 9)]), none⟩, ⟨none, (.st 4 (.tmp 4) (.tmp 10)), none⟩]) .ret))
theorem ok_couplet_env_Num_Mul : compCode Try.prog (Try.f44.body.getD .skip) [] = some (ir_couplet_env_Num_Mul, []) := by kernel_rfl
def live_couplet_env_Num_Mul : List (List Nat) := []
def ir_couplet_env_Num_Of : IR := (.seq (.ops false [⟨(some 2), (.box 36 (.tmp 0)), none⟩, ⟨(some 4), (.alloc 36 [(.int .i64 (0)), (.int .i64 (0)), (.int .i64 (0)), (.bool false)]), none⟩]) (.seq (.ops false [⟨(some 8), (.mv (.tmp 1)), none⟩, ⟨(some 9), (.call (.func 84) [(.tmp 8)]), none⟩, ⟨(some 7), (.mv (.tmp 9)), none⟩, ⟨(some 10), (.ext (.tmp 7) 0), none⟩, ⟨(some 11), (.ext (.tmp 7) 1), none⟩, ⟨(some 5), (.mv (.tmp 10)), none⟩, ⟨(some 6), (.mv (.tmp 11)), none⟩]) (.seq (.seq (.ops false [⟨(some 12), (.mv (.tmp 6)), none⟩, ⟨(some 13), (.un .not (.tmp 12)), none⟩]) (.cond (.tmp 13) (.seq (.ops false [⟨(some 14), (.call (.func 36) []), none⟩, ⟨none, (.st 4 (.tmp 4) (.tmp 14)), none⟩]) .ret) .skip)) (.seq (.ops false [⟨(some 15), (.mv (.tmp 5)), none⟩, ⟨(some 16), (.call (.func 35) [(.tmp 15)]), none⟩, ⟨none, (.st 4 (.tmp 4) (.tmp 16)), none⟩]) .ret))))
theorem ok_couplet_env_Num_Of : compCode Try.prog (Try.f37.body.getD .skip) [] = some (ir_couplet_env_Num_Of, []) := by kernel_rfl
def live_couplet_env_Num_Of : List (List Nat) := []
theorem Nm.flat (x : Nm) : x.pv.flat = true := rfl
def i64N (x : Nm) : Prop := i64 x.v ∧ i64 x.lo ∧ i64 x.hi
theorem fn_Add1 (G : Glob) (x y m : Int) : FunEq Try.prog G 86 [.int .i64 x, .int .i64 y, .int .i64 m] (.tup [.int .i64 (fAdd x y).1, .bool (fAdd x y).2]) := by
  have c1 := fn_fx_Add G x y
  generalize fAdd x y = r at *
  refine fun_of_vc live_couplet_env_Num_Add_1 Try.func86 rfl (by kernel_rfl) ok_couplet_env_Num_Add_1 (by kernel_rfl) Try.ntmps86 (run_of ?_)
  simp only [run_seq, run_ops, run_opsNil, run_ret, run_op0, Ins.kind, IOp.apps, List.any_cons, List.any_nil, pev, Ins.calm, Ins.opds, sureL, evS, St.put, List.map, List.length_cons, List.length_nil, List.replicate, List.cons_append, List.nil_append, List.getD_cons_zero, List.getD_cons_succ, List.set_cons_zero, List.set_cons_succ, SV.res, SV.strip, SV.sure, if_true, Bool.false_eq_true, if_false, true_and, Nat.reduceSub, Nat.zero_add, Nat.reduceAdd, cond_false, Bool.and_self, Bool.true_and, Nat.reduceBEq, Bool.or_self, and_self, ir_couplet_env_Num_Add_1, Try.results86]
  refine run_call c1 _ rfl (by exact ⟨trivial, trivial, trivial⟩) rfl rfl rfl trivial trivial ?_
  simp only [run_opsNil, run_ret, run_op0, pev, Ins.calm, Ins.opds, sureL, evS, St.put, List.length_cons, List.length_nil, List.nil_append, List.append_nil, List.getD_cons_zero, List.getD_cons_succ, List.set_cons_zero, List.set_cons_succ, SV.res, SV.strip, SV.sure, if_true, true_and, Nat.zero_add, Nat.reduceAdd, Bool.and_self, Bool.true_and, Nat.reduceLT, fzL, List.foldl_nil, SV.ids, boxIds, List.flatMap_cons, List.flatMap_nil, PV.flat, PV.flatL, and_self, List.getD_nil]
  simp only [List.append_nil, List.getD_cons_zero, List.getD_cons_succ, SV.res, Bool.and_self, Option.map_some, fzL, List.foldl_nil, SV.ids, List.flatMap_cons, List.flatMap_nil, SV.pvS, SV.pvSL, and_self, resK, resSV, oneSV]
def nAdd (a b : Nm) : Nm := made (fun x y _ => fAdd x y) a b [(a.lo, b.lo), (a.hi, b.hi)]
def pairs4 (a b : Nm) : List (Int × Int) := [(a.lo, b.lo), (a.lo, b.hi), (a.hi, b.lo), (a.hi, b.hi)]
def nMul (a b : Nm) : Nm := made fMul a b (pairs4 a b)
theorem fn_Num_Add (G : Glob) (a b : Nm) (ha : i64N a) (hb : i64N b) : FunEq Try.prog G 43 [a.pv, b.pv] (nAdd a b).pv := by
  have c1 := fn_made G 86 (fun x y _ => fAdd x y) a b false true [(a.lo, b.lo), (a.hi, b.hi)] (by simp) (by simp) (by intro p hp; simp at hp; rcases hp with rfl | rfl; exact ⟨ha.2.1, hb.2.1⟩; exact ⟨ha.2.2, hb.2.2⟩) ha.1 hb.1 (fun x y m _ _ _ _ => fn_Add1 G x y m)
  have hr : made (fun x y _ => fAdd x y) a b [(a.lo, b.lo), (a.hi, b.hi)] = nAdd a b := rfl
  rw [hr] at c1
  generalize nAdd a b = r at *
  refine fun_of_vc live_couplet_env_Num_Add Try.func43 rfl (by kernel_rfl) ok_couplet_env_Num_Add (by kernel_rfl) Try.ntmps43 (run_of ?_)
  simp only [run_seq, run_ops, run_opsNil, run_ret, run_op0, run_box, run_alloc, run_st, run_bsl, runB, okB, Ins.kind, IOp.apps, List.any_cons, List.any_nil, pev, Ins.calm, Ins.opds, sureL, evS, St.put, List.map, List.map_cons, List.length_cons, List.length_nil, List.replicate, List.cons_append, List.nil_append, List.append_nil, List.getD_cons_zero, List.getD_cons_succ, List.set_cons_zero, List.set_cons_succ, SV.res, SV.strip, SV.sure, SV.cells, PV.cells, SV.scal, PV.scal, SV.ld, if_true, Bool.false_eq_true, if_false, true_and, and_true, Nat.reduceSub, Nat.zero_add, Nat.reduceAdd, cond_true, cond_false, List.all_cons, Bool.and_self, Bool.and_true, Bool.true_and, Nat.reduceLeDiff, List.take, List.drop, Nat.reduceBEq, Bool.or_false, Bool.or_true, Bool.or_self, Option.map_some, fzL, List.foldl_nil, SV.ids, List.flatMap_cons, List.flatMap_nil, SV.pvS, SV.pvSL, spliceL, beq_self_eq_true, Nat.reduceEqDiff, List.all, and_self, fillL, aggS, allP, ir_couplet_env_Num_Add, Try.results43, Nm.pv]
  refine run_call c1 _ rfl (by exact ⟨trivial, trivial, trivial, trivial, trivial⟩) rfl rfl rfl trivial trivial ?_
  simp only [run_opsNil, run_ret, run_op0, run_st, pev, Ins.calm, Ins.opds, sureL, evS, St.put, List.map, List.map_cons, List.length_cons, List.length_nil, List.nil_append, List.append_nil, List.getD_cons_zero, List.getD_cons_succ, List.set_cons_zero, List.set_cons_succ, SV.res, SV.strip, SV.sure, SV.cells, PV.cells, SV.scal, PV.scal, if_true, Bool.false_eq_true, if_false, true_and, Nat.zero_add, Nat.reduceAdd, List.all_cons, Bool.and_self, Bool.true_and, Nat.reduceLeDiff, List.take, List.drop, fzL, fz1, List.foldl_cons, List.foldl_nil, SV.ids, boxIds, List.flatMap_cons, List.flatMap_nil, PV.flat, PV.flatL, spliceL, List.all, and_self, Nm.pv]
  simp only [List.length_cons, List.length_nil, List.append_nil, List.getD_cons_zero, List.getD_cons_succ, SV.res, SV.ld, if_true, Nat.zero_add, Nat.reduceAdd, Bool.and_self, Nat.reduceLeDiff, List.take, List.drop, Option.map_some, fzL, List.foldl_nil, SV.ids, List.flatMap_cons, List.flatMap_nil, SV.pvS, and_self, aggS, allP, resK, resSV, oneSV, cells36, agg36]
theorem fn_Num_Mul (G : Glob) (a b : Nm) (ha : i64N a) (hb : i64N b) : FunEq Try.prog G 44 [a.pv, b.pv] (nMul a b).pv := by
  have c0 := fn_all G a b
  have c1 := fn_made G 89 fMul a b false true (pairs4 a b) (by simp [pairs4]) (by simp [pairs4]) (by
    intro p hp; simp [pairs4] at hp; rcases hp with rfl | rfl | rfl | rfl
    exact ⟨ha.2.1, hb.2.1⟩; exact ⟨ha.2.1, hb.2.2⟩; exact ⟨ha.2.2, hb.2.1⟩; exact ⟨ha.2.2, hb.2.2⟩) ha.1 hb.1 (fun x y m hx hy h0 h2 => fn_fx_Mul G x y m hx hy (by unfold i64; omega))
  have hr : made fMul a b (pairs4 a b) = nMul a b := rfl
  rw [hr] at c1
  generalize nMul a b = r at *
  refine fun_of_vc live_couplet_env_Num_Mul Try.func44 rfl (by kernel_rfl) ok_couplet_env_Num_Mul (by kernel_rfl) Try.ntmps44 (run_of ?_)
  simp only [run_seq, run_ops, run_opsNil, run_ret, run_op0, run_box, run_alloc, run_st, Ins.kind, IOp.apps, List.any_cons, List.any_nil, pev, Ins.calm, Ins.opds, sureL, evS, St.put, List.map, List.map_cons, List.length_cons, List.length_nil, List.replicate, List.cons_append, List.nil_append, List.getD_cons_zero, List.getD_cons_succ, List.set_cons_zero, List.set_cons_succ, SV.res, SV.strip, SV.sure, SV.cells, PV.cells, SV.scal, PV.scal, SV.ld, if_true, Bool.false_eq_true, if_false, true_and, and_true, Nat.reduceSub, Nat.zero_add, Nat.reduceAdd, cond_true, cond_false, List.all_cons, Bool.and_self, Bool.and_true, Bool.true_and, Nat.reduceLeDiff, List.take, List.drop, Nat.reduceBEq, Bool.or_false, Bool.or_self, Option.map_some, spliceL, beq_self_eq_true, Nat.reduceEqDiff, List.all, and_self, aggS, allP, ir_couplet_env_Num_Mul, Try.results44, Nm.pv]
  refine run_call c0 _ rfl (by exact ⟨trivial, trivial, trivial⟩) rfl rfl rfl trivial (by first | trivial | rfl) ?_
  simp only [run_opsNil, run_ret, run_op0, run_st, pev, Ins.calm, Ins.opds, sureL, evS, St.put, List.length_cons, List.length_nil, List.cons_append, List.nil_append, List.append_nil, List.getD_cons_zero, List.getD_cons_succ, List.set_cons_zero, List.set_cons_succ, SV.res, SV.strip, SV.sure, SV.cells, SV.scal, PV.scal, Bool.false_eq_true, if_false, true_and, and_true, Nat.zero_add, Nat.reduceAdd, List.all_cons, Bool.and_self, Bool.and_true, Bool.true_and, Nat.reduceLeDiff, List.take, List.drop, fzL, List.foldl_nil, SV.ids, boxIds, List.flatMap_cons, List.flatMap_nil, PV.flat, spliceL, Nat.reduceEqDiff, List.all, and_self]
  refine run_call c1 _ rfl (by exact ⟨trivial, trivial, trivial, trivial, trivial⟩) rfl rfl rfl trivial (by first | trivial | rfl) ?_
  simp only [run_opsNil, run_ret, run_op0, run_st, pev, Ins.calm, Ins.opds, sureL, evS, St.put, List.map, List.map_cons, List.length_cons, List.length_nil, List.nil_append, List.append_nil, List.getD_cons_zero, List.getD_cons_succ, List.set_cons_zero, List.set_cons_succ, SV.res, SV.strip, SV.sure, SV.cells, PV.cells, SV.scal, PV.scal, if_true, Bool.false_eq_true, if_false, true_and, Nat.zero_add, Nat.reduceAdd, List.all_cons, Bool.and_self, Bool.true_and, Nat.reduceLeDiff, List.take, List.drop, fzL, List.foldl_nil, SV.ids, boxIds, List.flatMap_cons, List.flatMap_nil, PV.flat, PV.flatL, spliceL, List.all, and_self, Nm.pv]
  simp only [List.length_cons, List.length_nil, List.append_nil, List.getD_cons_zero, List.getD_cons_succ, SV.res, SV.ld, if_true, Nat.zero_add, Nat.reduceAdd, Bool.and_self, Nat.reduceLeDiff, List.take, List.drop, Option.map_some, fzL, List.foldl_nil, SV.ids, List.flatMap_cons, List.flatMap_nil, SV.pvS, and_self, aggS, allP, resK, resSV, oneSV, cells36, agg36]
def nOf (n : Int) : Nm := if (fOf n).2 = true then point (fOf n).1 else wrong
theorem fn_Num_Of (G : Glob) (a : Nm) (n : Int) (hn : i64 n) : FunEq Try.prog G 37 [a.pv, .int .i64 n] (nOf n).pv := by
  have c1 := fn_fx_Of G n hn
  have c2 := fn_Point G (fOf n).1
  have cw := fn_Wrong G
  obtain ⟨r, hr⟩ : ∃ r, r = nOf n := ⟨_, rfl⟩
  rw [← hr]
  unfold nOf at hr
  generalize point (fOf n).1 = q at *
  generalize fOf n = x at *
  obtain ⟨x, is⟩ := x
  refine fun_of_vc live_couplet_env_Num_Of Try.func37 rfl (by kernel_rfl) ok_couplet_env_Num_Of (by kernel_rfl) Try.ntmps37 (run_of ?_)
  simp only [run_seq, run_ops, run_opsNil, run_op0, run_cond, run_box, run_alloc, Ins.kind, IOp.apps, List.any_cons, List.any_nil, pev, Ins.calm, Ins.opds, sureL, evS, St.put, List.map, List.map_cons, List.length_cons, List.length_nil, List.replicate, List.cons_append, List.nil_append, List.getD_cons_zero, List.getD_cons_succ, List.set_cons_zero, List.set_cons_succ, SV.res, SV.strip, SV.sure, SV.cells, PV.cells, SV.scal, PV.scal, if_true, Bool.false_eq_true, if_false, true_and, Nat.reduceSub, Nat.zero_add, Nat.reduceAdd, cond_true, cond_false, List.all_cons, Bool.and_self, Bool.true_and, Nat.reduceBEq, Bool.or_false, Bool.or_self, beq_self_eq_true, List.all, and_self, ir_couplet_env_Num_Of, Try.results37, Nm.pv]
  refine run_call c1 _ rfl (by exact ⟨trivial, trivial⟩) rfl rfl rfl trivial trivial ?_
  cases is
  · rw [if_neg (by simp)] at hr
    rw [hr]
    simp only [run_seq, run_ops, run_opsNil, run_ret, run_op0, run_cond, runC_true, run_st, Ins.kind, IOp.apps, List.any_cons, List.any_nil, pev, Ins.calm, Ins.opds, sureL, evS, St.put, List.length_cons, List.length_nil, List.cons_append, List.nil_append, List.append_nil, List.getD_cons_zero, List.getD_cons_succ, List.set_cons_zero, List.set_cons_succ, SV.res, SV.strip, SV.sure, SV.cells, SV.scal, PV.scal, if_true, Bool.false_eq_true, if_false, true_and, and_true, Nat.zero_add, Nat.reduceAdd, cond_false, List.all_cons, Bool.and_self, Bool.and_true, Bool.true_and, Nat.reduceLeDiff, Nat.reduceLT, List.take, List.drop, Nat.reduceBEq, Bool.or_self, fzL, List.foldl_nil, SV.ids, boxIds, List.flatMap_cons, List.flatMap_nil, PV.flat, PV.flatL, spliceL, Nat.reduceEqDiff, Bool.not_false, List.all, and_self]
    refine run_call cw _ rfl (by exact trivial) rfl rfl rfl trivial trivial ?_
    simp only [run_opsNil, run_ret, run_op0, run_st, pev, Ins.calm, Ins.opds, sureL, evS, St.put, List.map, List.map_cons, List.length_cons, List.length_nil, List.nil_append, List.append_nil, List.getD_cons_zero, List.getD_cons_succ, List.set_cons_zero, List.set_cons_succ, SV.res, SV.strip, SV.sure, SV.cells, PV.cells, SV.scal, PV.scal, if_true, Bool.false_eq_true, if_false, true_and, Nat.zero_add, Nat.reduceAdd, List.all_cons, Bool.and_self, Bool.true_and, Nat.reduceLeDiff, List.take, List.drop, fzL, List.foldl_nil, SV.ids, boxIds, List.flatMap_cons, List.flatMap_nil, PV.flat, PV.flatL, spliceL, List.all, and_self, wrong, Nm.pv]
    simp only [List.length_cons, List.length_nil, List.append_nil, List.getD_cons_zero, List.getD_cons_succ, SV.res, SV.ld, if_true, Nat.zero_add, Nat.reduceAdd, Bool.and_self, Nat.reduceLeDiff, List.take, List.drop, Option.map_some, fzL, List.foldl_nil, SV.ids, List.flatMap_cons, List.flatMap_nil, SV.pvS, and_self, aggS, allP, resK, resSV, oneSV, cells36, agg36]
  · rw [if_pos rfl] at hr
    rw [hr]
    simp only [run_skip, run_seq, run_ops, run_opsNil, run_ret, run_op0, run_cond, runC_false, run_st, Ins.kind, IOp.apps, List.any_cons, List.any_nil, pev, Ins.calm, Ins.opds, sureL, evS, St.put, List.length_cons, List.length_nil, List.cons_append, List.nil_append, List.append_nil, List.getD_cons_zero, List.getD_cons_succ, List.set_cons_zero, List.set_cons_succ, SV.res, SV.strip, SV.sure, SV.cells, SV.scal, PV.scal, if_true, Bool.false_eq_true, if_false, true_and, and_true, Nat.zero_add, Nat.reduceAdd, cond_false, List.all_cons, Bool.and_self, Bool.and_true, Bool.true_and, Nat.reduceLeDiff, Nat.reduceLT, List.take, List.drop, Nat.reduceBEq, Bool.or_self, fzL, List.foldl_nil, SV.ids, boxIds, List.flatMap_cons, List.flatMap_nil, PV.flat, PV.flatL, spliceL, Nat.reduceEqDiff, Bool.not_true, List.all, and_self]
    refine run_call c2 _ rfl (by exact ⟨trivial, trivial⟩) rfl rfl rfl trivial trivial ?_
    simp only [run_opsNil, run_ret, run_op0, run_st, pev, Ins.calm, Ins.opds, sureL, evS, St.put, List.map, List.map_cons, List.length_cons, List.length_nil, List.nil_append, List.append_nil, List.getD_cons_zero, List.getD_cons_succ, List.set_cons_zero, List.set_cons_succ, SV.res, SV.strip, SV.sure, SV.cells, PV.cells, SV.scal, PV.scal, if_true, Bool.false_eq_true, if_false, true_and, Nat.zero_add, Nat.reduceAdd, List.all_cons, Bool.and_self, Bool.true_and, Nat.reduceLeDiff, List.take, List.drop, fzL, List.foldl_nil, SV.ids, boxIds, List.flatMap_cons, List.flatMap_nil, PV.flat, PV.flatL, spliceL, List.all, and_self, Nm.pv]
    simp only [List.length_cons, List.length_nil, List.append_nil, List.getD_cons_zero, List.getD_cons_succ, SV.res, SV.ld, if_true, Nat.zero_add, Nat.reduceAdd, Bool.and_self, Nat.reduceLeDiff, List.take, List.drop, Option.map_some, fzL, List.foldl_nil, SV.ids, List.flatMap_cons, List.flatMap_nil, SV.pvS, and_self, aggS, allP, resK, resSV, oneSV, cells36, agg36]
end Go.Proofs
set_option linter.unusedSimpArgs false
set_option linter.unusedVariables false
set_option maxRecDepth 100000
namespace Go.Proofs
open Go Go.Fx Go.Mdlaw Go.Rootlaw Go.Cmplaw
def ir_env_Encloses : IR := (.seq (.ops false [⟨(some 3), (.box 36 (.tmp 0)), none⟩, ⟨(some 6), (.mv (.c (.bool false))), none⟩]) (.seq (.seq (.ops false [⟨(some 7), (.ld true 4 (.tmp 3)), none⟩, ⟨(some 8), (.call (.func 47) [(.tmp 7)]), none⟩, ⟨(some 9), (.un .not (.tmp 8)), none⟩, ⟨(some 10), (.mv (.tmp 9)), none⟩, ⟨(some 11), (.mv (.tmp 2)), (some (10, false))⟩, ⟨(some 12), (.bin .lss (.tmp 11) (.c (.int .i64 (1)))), (some (10, false))⟩, ⟨(some 13), (.pick (.tmp 10) (.c (.bool true)) (.tmp 12)), none⟩, ⟨(some 14), (.mv (.tmp 13)), none⟩, ⟨(some 15), (.mv (.tmp 1)), (some (14, false))⟩, ⟨(some 16), (.call (.func 26) [(.tmp 15)]), (some (14, false))⟩, ⟨(some 17), (.un .not (.tmp 16)), (some (14, false))⟩, ⟨(some 18), (.pick (.tmp 14) (.c (.bool true)) (.tmp 17)), none⟩, ⟨(some 19), (.mv (.tmp 18)), none⟩, ⟨(some 20), (.mv (.tmp 2)), (some (19, false))⟩, ⟨(some 21), (.call (.func 26) [(.tmp 20)]), (some (19, false))⟩, ⟨(some 22), (.un .not (.tmp 21)), (some (19, false))⟩, ⟨(some 23), (.pick (.tmp 19) (.c (.bool true)) (.tmp 22)), none⟩]) (.cond (.tmp 23) (.seq (.ops false [⟨(some 6), (.mv (.c (.bool false))), none⟩]) .ret) .skip)) (.seq (.ops false [⟨(some 24), (.fldA 1 (.tmp 3)), none⟩, ⟨(some 25), (.ld false 1 (.tmp 24)), none⟩, ⟨(some 26), (.mv (.tmp 2)), none⟩, ⟨(some 27), (.mv (.tmp 1)), none⟩, ⟨(some 28), (.call (.func 29) [(.tmp 25), (.tmp 26), (.tmp 27), (.c (.int .i64 (16777216)))]), none⟩, ⟨(some 29), (.bin .leq (.tmp 28) (.c (.int .i64 (0)))), none⟩, ⟨(some 30), (.mv (.tmp 29)), none⟩, ⟨(some 31), (.mv (.tmp 1)), (some (30, true))⟩, ⟨(some 32), (.fldA 2 (.tmp 3)), (some (30, true))⟩, ⟨(some 33), (.ld false 1 (.tmp 32)), (some (30, true))⟩, ⟨(some 34), (.mv (.tmp 2)), (some (30, true))⟩, ⟨(some 35), (.call (.func 29) [(.tmp 31), (.c (.int .i64 (16777216))), (.tmp 33), (.tmp 34)]), (some (30, true))⟩, ⟨(some 36), (.bin .leq (.tmp 35) (.c (.int .i64 (0)))), (some (30, true))⟩, ⟨(some 37), (.pick (.tmp 30) (.tmp 36) (.c (.bool false))), none⟩, ⟨(some 6), (.mv (.tmp 37)), none⟩]) .ret)))
theorem ok_env_Encloses : compCode Try.prog (Try.f46.body.getD .skip) [] = some (ir_env_Encloses, []) := by kernel_rfl
def live_env_Encloses : List (List Nat) := []
theorem cmp_le {X Y : Int} : decide (cmp X Y ≤ 0) = decide (X ≤ Y) := decide_eq_decide.mpr (by unfold cmp; split <;> (try split) <;> omega)
def enc (a : Nm) (n d : Int) : Bool := fine a && decide (1 ≤ d) && decide (okW n) && decide (okW d) && decide (a.lo * d ≤ n * 16777216) && decide (n * 16777216 ≤ a.hi * d)
theorem fine_okF {a : Nm} (h : fine a = true) : okF a.lo ∧ okF a.hi ∧ a.lo ≤ a.v ∧ a.v ≤ a.hi ∧ a.bad = false := by
  unfold fine at h
  simp only [Bool.and_eq_true, decide_eq_true_eq, Bool.not_eq_true'] at h
  exact ⟨h.1.1.1.2, h.1.1.2, h.1.2, h.2, h.1.1.1.1⟩
theorem fn_Encloses (G : Glob) (a : Nm) (n d : Int) (ha : i64N a) (hn : i64 n) (hd : i64 d) : FunEq Try.prog G 46 [a.pv, .int .i64 n, .int .i64 d] (.bool (enc a n d)) := by
  obtain ⟨rn, cn, hrn⟩ := fn_Right' G n
  obtain ⟨rd, cd, hrd⟩ := fn_Right' G d
  have cf := fn_Fine G a
  have k1 := fn_wide_Compare G a.lo d n 16777216 ha.2.1 hd hn (by unfold i64; omega)
  have k2 := fn_wide_Compare G n 16777216 a.hi d hn (by unfold i64; omega) ha.2.2 hd
  obtain ⟨r, hr⟩ : ∃ r, r = enc a n d := ⟨_, rfl⟩
  rw [← hr]
  refine fun_of_vc live_env_Encloses Try.func46 rfl (by kernel_rfl) ok_env_Encloses (by kernel_rfl) Try.ntmps46 (run_of ?_)
  simp only [run_seq, run_ops, run_opsNil, run_op0, run_opG, run_box, Ins.kind, IOp.apps, List.any_cons, List.any_nil, gAct, pev, Ins.calm, Ins.opds, sureL, evS, St.put, List.map, List.map_cons, List.length_cons, List.length_nil, List.replicate, List.cons_append, List.nil_append, List.getD_cons_zero, List.getD_cons_succ, List.set_cons_zero, List.set_cons_succ, SV.res, SV.strip, SV.sure, SV.cells, PV.cells, SV.scal, PV.scal, SV.ld, if_true, Bool.false_eq_true, if_false, true_and, Nat.reduceSub, Nat.zero_add, Nat.reduceAdd, cond_true, cond_false, List.all_cons, Bool.and_self, Bool.true_and, Nat.reduceLeDiff, List.take, List.drop, Nat.reduceBEq, Bool.or_false, Bool.or_self, Option.map_some, beq_self_eq_true, List.all, and_self, aggS, allP, ir_env_Encloses, Try.results46, Nm.pv]
  refine run_call cf _ rfl (by exact ⟨trivial, trivial⟩) rfl rfl rfl trivial trivial ?_
  simp only [run_opsNil, run_op0, run_opG, run_cond, run_pick, runP, gAct, pev, Ins.calm, Ins.opds, sureL, evS, St.put, List.append_nil, List.getD_cons_zero, List.getD_cons_succ, List.set_cons_zero, List.set_cons_succ, SV.res, SV.strip, SV.sure, binV, if_true, Bool.false_eq_true, if_false, SV.mix, true_and, and_true, implies_true, cond_false, Bool.and_self, Bool.and_true, Bool.true_and, fzL, List.foldl_nil, SV.ids, boxIds, List.flatMap_cons, List.flatMap_nil, PV.flat, imp_self, Bool.not_eq_true', and_self, Bool.cond_true_left, Bool.not_not]
  refine ⟨by simp, ?_⟩
  refine run_callG (fun _ => cn) _ rfl (by exact fun h => ⟨trivial, h⟩) rfl rfl rfl trivial trivial ?_
  simp only [run_opsNil, run_op0, run_opG, run_cond, run_pick, runP, gAct, pev, Ins.calm, Ins.opds, sureL, evS, St.put, List.append_nil, List.getD_cons_zero, List.getD_cons_succ, List.set_cons_zero, List.set_cons_succ, SV.res, SV.strip, SV.sure, if_true, Bool.false_eq_true, if_false, SV.mix, true_and, and_true, implies_true, cond_false, Bool.and_self, Bool.and_true, Bool.true_and, fzL, List.foldl_nil, SV.ids, boxIds, List.flatMap_cons, List.flatMap_nil, PV.flat, imp_self, Bool.not_eq_true', Bool.and_eq_true, and_self, Bool.cond_true_left, Bool.not_not, Bool.not_or]
  refine ⟨by simp, ?_⟩
  refine run_callG (fun _ => cd) _ rfl (by exact fun h => ⟨trivial, h⟩) rfl rfl rfl trivial trivial ?_
  simp only [run_opsNil, run_op0, run_opG, run_cond, run_pick, runP, gAct, pev, Ins.calm, Ins.opds, sureL, evS, St.put, List.append_nil, List.getD_cons_zero, List.getD_cons_succ, List.set_cons_zero, List.set_cons_succ, SV.res, SV.strip, SV.sure, if_true, Bool.false_eq_true, if_false, SV.mix, true_and, and_true, implies_true, cond_false, Bool.and_true, Bool.true_and, fzL, List.foldl_nil, SV.ids, boxIds, List.flatMap_cons, List.flatMap_nil, PV.flat, imp_self, Bool.not_eq_true', Bool.and_eq_true, Bool.cond_true_left, Bool.not_not, Bool.not_or]
  refine ⟨by simp [and_assoc], ?_⟩
  have hcond : (!fine a || decide (d < 1) || !rn || !rd) = true ↔ ¬ (fine a = true ∧ 1 ≤ d ∧ okW n ∧ okW d) := by
    rw [← hrn, ← hrd]
    cases fine a <;> cases rn <;> cases rd <;> simp <;> omega
  refine runC_of (fun h => ?_) (fun h => ?_)
  · have hno := hcond.mp h
    have hr2 : r = false := by
      rw [hr]; unfold enc
      rw [Bool.eq_false_iff]
      intro x
      simp only [Bool.and_eq_true, decide_eq_true_eq] at x
      exact hno ⟨x.1.1.1.1.1, x.1.1.1.1.2, x.1.1.1.2, x.1.1.2⟩
    rw [hr2]
    simp only [run_seq, run_ops, run_opsNil, run_ret, run_op0, Ins.kind, IOp.apps, List.any_cons, List.any_nil, pev, Ins.calm, Ins.opds, sureL, evS, St.put, List.set_cons_zero, List.set_cons_succ, SV.strip, SV.sure, if_true, true_and, cond_false, Bool.true_and, Nat.reduceBEq, Bool.or_self]
    simp only [List.append_nil, List.getD_cons_zero, List.getD_cons_succ, SV.res, Bool.and_self, fzL, List.foldl_nil, SV.ids, List.flatMap_cons, List.flatMap_nil, SV.pvS, and_self, resK, resSV, oneSV]
  · have hyes : fine a = true ∧ 1 ≤ d ∧ okW n ∧ okW d := Decidable.byContradiction fun hn => by rw [hcond.mpr hn] at h; cases h
    obtain ⟨f1, f2, f3, f4⟩ := hyes
    have hf := fine_okF f1
    have hu : okW 16777216 := by decide
    have hlo : okW a.lo := by have := hf.1; unfold okF at this; unfold okW; omega
    have hhi : okW a.hi := by have := hf.2.1; unfold okF at this; unfold okW; omega
    rw [if_pos ⟨hlo, f4, f3, hu⟩] at k1
    rw [if_pos ⟨f3, hu, hhi, f4⟩] at k2
    have hr2 : r = (decide (cmp (a.lo * d) (n * 16777216) ≤ 0) && decide (cmp (n * 16777216) (a.hi * d) ≤ 0)) := by
      rw [hr, cmp_le, cmp_le]; unfold enc
      rw [f1, decide_eq_true f2, decide_eq_true f3, decide_eq_true f4]
      simp
    rw [hr2]
    simp only [run_skip, run_seq, run_ops, run_op0, run_opG, Ins.kind, IOp.apps, List.any_cons, List.any_nil, gAct, pev, Ins.calm, Ins.opds, sureL, evS, St.put, List.length_cons, List.length_nil, List.getD_cons_zero, List.getD_cons_succ, List.set_cons_zero, List.set_cons_succ, SV.res, SV.strip, SV.sure, SV.ld, if_true, Bool.false_eq_true, if_false, true_and, Nat.zero_add, Nat.reduceAdd, cond_false, Bool.and_self, Bool.true_and, Nat.reduceLeDiff, List.take, List.drop, Nat.reduceBEq, Bool.or_self, Option.map_some, and_self, aggS, allP]
    refine run_call k1 _ rfl (by exact ⟨trivial, trivial, trivial, trivial, trivial⟩) rfl rfl rfl trivial trivial ?_
    simp only [run_opsNil, run_ret, run_op0, run_opG, run_pick, runP, gAct, pev, Ins.calm, Ins.opds, sureL, evS, St.put, List.length_cons, List.length_nil, List.append_nil, List.getD_cons_zero, List.getD_cons_succ, List.set_cons_zero, List.set_cons_succ, SV.res, SV.strip, SV.sure, SV.ld, binV, if_true, Bool.false_eq_true, if_false, SV.mix, true_and, and_true, Nat.zero_add, Nat.reduceAdd, implies_true, cond_true, Bool.and_self, Bool.and_true, Bool.true_and, Nat.reduceLeDiff, List.take, List.drop, Option.map_some, fzL, List.foldl_nil, SV.ids, boxIds, List.flatMap_cons, List.flatMap_nil, PV.flat, imp_self, and_self, aggS, allP]
    refine run_callG (fun _ => k2) _ rfl (by exact fun h => ⟨trivial, h, trivial, h, h⟩) rfl rfl rfl trivial trivial ?_
    simp only [run_opsNil, run_ret, run_op0, run_opG, run_pick, runP, gAct, pev, Ins.calm, Ins.opds, sureL, evS, St.put, List.append_nil, List.getD_cons_zero, List.getD_cons_succ, List.set_cons_zero, List.set_cons_succ, SV.res, SV.strip, SV.sure, binV, if_true, Bool.false_eq_true, if_false, SV.mix, true_and, and_true, implies_true, cond_true, Bool.and_self, Bool.and_true, Bool.true_and, fzL, List.foldl_nil, SV.ids, boxIds, List.flatMap_cons, List.flatMap_nil, PV.flat, imp_self, and_self, Bool.cond_false_right]
    simp only [List.append_nil, List.getD_cons_zero, List.getD_cons_succ, SV.res, Bool.and_self, fzL, List.foldl_nil, SV.ids, List.flatMap_cons, List.flatMap_nil, SV.pvS, and_self, resK, resSV, oneSV]
end Go.Proofs
namespace Go.Bitrow
end Go.Bitrow
set_option linter.unusedSimpArgs false
set_option linter.unusedVariables false
set_option maxRecDepth 100000
namespace Go.Proofs
open Go Go.Fx Go.Bitrow Go.Mdlaw
end Go.Proofs
set_option linter.unusedSimpArgs false
set_option linter.unusedVariables false
set_option maxRecDepth 100000
namespace Go.Proofs
open Go Go.Fx Go.Bitrow Go.Mdlaw Go.Cmplaw Go.Rootlaw
end Go.Proofs
set_option linter.unusedSimpArgs false
set_option linter.unusedVariables false
set_option maxRecDepth 100000
namespace Go.Proofs
open Go Go.Fx Go.Bitrow Go.Mdlaw
theorem w1 : IntKind.i64.wrap 1 = 1 := rfl
theorem w2 : IntKind.i64.wrap 2 = 2 := rfl
end Go.Proofs
set_option linter.unusedVariables false
namespace Go.Proofs
open Go Go.Fx Go.Mdlaw Go.Rootlaw
end Go.Proofs
set_option linter.unusedVariables false
set_option linter.unusedSimpArgs false
set_option maxRecDepth 100000
namespace Go.Proofs
open Go Go.Fx Go.Mdlaw Go.Rootlaw
open Classical in
noncomputable def go_env_Num_Add (av : Int) (al : Int) (ah : Int) (ab : Bool) (bv : Int) (bl : Int) (bh : Int) (bb : Bool) : Option (Int × Int × Int × Bool) := if i64N (⟨av, al, ah, ab⟩ : Nm) ∧ i64N (⟨bv, bl, bh, bb⟩ : Nm) then some ((nAdd (⟨av, al, ah, ab⟩ : Nm) (⟨bv, bl, bh, bb⟩ : Nm)).v, (nAdd (⟨av, al, ah, ab⟩ : Nm) (⟨bv, bl, bh, bb⟩ : Nm)).lo, (nAdd (⟨av, al, ah, ab⟩ : Nm) (⟨bv, bl, bh, bb⟩ : Nm)).hi, (nAdd (⟨av, al, ah, ab⟩ : Nm) (⟨bv, bl, bh, bb⟩ : Nm)).bad) else none
def em_env_Num_Add (r : (Int × Int × Int × Bool)) : PV := (.agg [(.int .i64 r.1), (.int .i64 r.2.1), (.int .i64 r.2.2.1), (.bool r.2.2.2)])
def as_env_Num_Add : List Shp := [(.agg [(.int .i64), (.int .i64), (.int .i64), .bool]), (.agg [(.int .i64), (.int .i64), (.int .i64), .bool])]
noncomputable def ga_env_Num_Add (vs : List PV) : Option (Int × Int × Int × Bool) := go_env_Num_Add (((tls 0 vs).headD .nilSl).subs.headD .nilSl).num (((tls 0 vs).headD .nilSl).subs.tail.headD .nilSl).num (((tls 0 vs).headD .nilSl).subs.tail.tail.headD .nilSl).num (((tls 0 vs).headD .nilSl).subs.tail.tail.tail.headD .nilSl).tru (((tls 1 vs).headD .nilSl).subs.headD .nilSl).num (((tls 1 vs).headD .nilSl).subs.tail.headD .nilSl).num (((tls 1 vs).headD .nilSl).subs.tail.tail.headD .nilSl).num (((tls 1 vs).headD .nilSl).subs.tail.tail.tail.headD .nilSl).tru
theorem fe_env_Num_Add (av : Int) (al : Int) (ah : Int) (ab : Bool) (bv : Int) (bl : Int) (bh : Int) (bb : Bool) (r : (Int × Int × Int × Bool)) (hr : go_env_Num_Add av al ah ab bv bl bh bb = some r) : FunEq Try.prog GG 43 [(.agg [(.int .i64 av), (.int .i64 al), (.int .i64 ah), (.bool ab)]), (.agg [(.int .i64 bv), (.int .i64 bl), (.int .i64 bh), (.bool bb)])] (em_env_Num_Add r) := by
  unfold go_env_Num_Add at hr
  split at hr
  · rename_i h
    cases hr
    exact fn_Num_Add GG (⟨av, al, ah, ab⟩ : Nm) (⟨bv, bl, bh, bb⟩ : Nm) h.1 h.2
  · cases hr
theorem at_env_Num_Add : FnAt Try.prog GG 43 as_env_Num_Add ga_env_Num_Add em_env_Num_Add := fun vs h r hr => by
  have e : Shp.buildL as_env_Num_Add vs = [(.agg [(.int .i64 (((tls 0 vs).headD .nilSl).subs.headD .nilSl).num), (.int .i64 (((tls 0 vs).headD .nilSl).subs.tail.headD .nilSl).num), (.int .i64 (((tls 0 vs).headD .nilSl).subs.tail.tail.headD .nilSl).num), (.bool (((tls 0 vs).headD .nilSl).subs.tail.tail.tail.headD .nilSl).tru)]), (.agg [(.int .i64 (((tls 1 vs).headD .nilSl).subs.headD .nilSl).num), (.int .i64 (((tls 1 vs).headD .nilSl).subs.tail.headD .nilSl).num), (.int .i64 (((tls 1 vs).headD .nilSl).subs.tail.tail.headD .nilSl).num), (.bool (((tls 1 vs).headD .nilSl).subs.tail.tail.tail.headD .nilSl).tru)])] := by kernel_rfl
  rw [← Shp.buildL_eq _ h, e]
  exact .inl ⟨by decide, fe_env_Num_Add _ _ _ _ _ _ _ _ r hr⟩
open Classical in
noncomputable def go_env_Num_Mul (av : Int) (al : Int) (ah : Int) (ab : Bool) (bv : Int) (bl : Int) (bh : Int) (bb : Bool) : Option (Int × Int × Int × Bool) := if i64N (⟨av, al, ah, ab⟩ : Nm) ∧ i64N (⟨bv, bl, bh, bb⟩ : Nm) then some ((nMul (⟨av, al, ah, ab⟩ : Nm) (⟨bv, bl, bh, bb⟩ : Nm)).v, (nMul (⟨av, al, ah, ab⟩ : Nm) (⟨bv, bl, bh, bb⟩ : Nm)).lo, (nMul (⟨av, al, ah, ab⟩ : Nm) (⟨bv, bl, bh, bb⟩ : Nm)).hi, (nMul (⟨av, al, ah, ab⟩ : Nm) (⟨bv, bl, bh, bb⟩ : Nm)).bad) else none
def em_env_Num_Mul (r : (Int × Int × Int × Bool)) : PV := (.agg [(.int .i64 r.1), (.int .i64 r.2.1), (.int .i64 r.2.2.1), (.bool r.2.2.2)])
def as_env_Num_Mul : List Shp := [(.agg [(.int .i64), (.int .i64), (.int .i64), .bool]), (.agg [(.int .i64), (.int .i64), (.int .i64), .bool])]
noncomputable def ga_env_Num_Mul (vs : List PV) : Option (Int × Int × Int × Bool) := go_env_Num_Mul (((tls 0 vs).headD .nilSl).subs.headD .nilSl).num (((tls 0 vs).headD .nilSl).subs.tail.headD .nilSl).num (((tls 0 vs).headD .nilSl).subs.tail.tail.headD .nilSl).num (((tls 0 vs).headD .nilSl).subs.tail.tail.tail.headD .nilSl).tru (((tls 1 vs).headD .nilSl).subs.headD .nilSl).num (((tls 1 vs).headD .nilSl).subs.tail.headD .nilSl).num (((tls 1 vs).headD .nilSl).subs.tail.tail.headD .nilSl).num (((tls 1 vs).headD .nilSl).subs.tail.tail.tail.headD .nilSl).tru
theorem fe_env_Num_Mul (av : Int) (al : Int) (ah : Int) (ab : Bool) (bv : Int) (bl : Int) (bh : Int) (bb : Bool) (r : (Int × Int × Int × Bool)) (hr : go_env_Num_Mul av al ah ab bv bl bh bb = some r) : FunEq Try.prog GG 44 [(.agg [(.int .i64 av), (.int .i64 al), (.int .i64 ah), (.bool ab)]), (.agg [(.int .i64 bv), (.int .i64 bl), (.int .i64 bh), (.bool bb)])] (em_env_Num_Mul r) := by
  unfold go_env_Num_Mul at hr
  split at hr
  · rename_i h
    cases hr
    exact fn_Num_Mul GG (⟨av, al, ah, ab⟩ : Nm) (⟨bv, bl, bh, bb⟩ : Nm) h.1 h.2
  · cases hr
theorem at_env_Num_Mul : FnAt Try.prog GG 44 as_env_Num_Mul ga_env_Num_Mul em_env_Num_Mul := fun vs h r hr => by
  have e : Shp.buildL as_env_Num_Mul vs = [(.agg [(.int .i64 (((tls 0 vs).headD .nilSl).subs.headD .nilSl).num), (.int .i64 (((tls 0 vs).headD .nilSl).subs.tail.headD .nilSl).num), (.int .i64 (((tls 0 vs).headD .nilSl).subs.tail.tail.headD .nilSl).num), (.bool (((tls 0 vs).headD .nilSl).subs.tail.tail.tail.headD .nilSl).tru)]), (.agg [(.int .i64 (((tls 1 vs).headD .nilSl).subs.headD .nilSl).num), (.int .i64 (((tls 1 vs).headD .nilSl).subs.tail.headD .nilSl).num), (.int .i64 (((tls 1 vs).headD .nilSl).subs.tail.tail.headD .nilSl).num), (.bool (((tls 1 vs).headD .nilSl).subs.tail.tail.tail.headD .nilSl).tru)])] := by kernel_rfl
  rw [← Shp.buildL_eq _ h, e]
  exact .inl ⟨by decide, fe_env_Num_Mul _ _ _ _ _ _ _ _ r hr⟩
open Classical in
noncomputable def go_env_Num_Of (av : Int) (al : Int) (ah : Int) (ab : Bool) (n : Int) : Option (Int × Int × Int × Bool) := if i64 n then some ((nOf n).v, (nOf n).lo, (nOf n).hi, (nOf n).bad) else none
def em_env_Num_Of (r : (Int × Int × Int × Bool)) : PV := (.agg [(.int .i64 r.1), (.int .i64 r.2.1), (.int .i64 r.2.2.1), (.bool r.2.2.2)])
def as_env_Num_Of : List Shp := [(.agg [(.int .i64), (.int .i64), (.int .i64), .bool]), (.int .i64)]
noncomputable def ga_env_Num_Of (vs : List PV) : Option (Int × Int × Int × Bool) := go_env_Num_Of (((tls 0 vs).headD .nilSl).subs.headD .nilSl).num (((tls 0 vs).headD .nilSl).subs.tail.headD .nilSl).num (((tls 0 vs).headD .nilSl).subs.tail.tail.headD .nilSl).num (((tls 0 vs).headD .nilSl).subs.tail.tail.tail.headD .nilSl).tru ((tls 1 vs).headD .nilSl).num
theorem fe_env_Num_Of (av : Int) (al : Int) (ah : Int) (ab : Bool) (n : Int) (r : (Int × Int × Int × Bool)) (hr : go_env_Num_Of av al ah ab n = some r) : FunEq Try.prog GG 37 [(.agg [(.int .i64 av), (.int .i64 al), (.int .i64 ah), (.bool ab)]), (.int .i64 n)] (em_env_Num_Of r) := by
  unfold go_env_Num_Of at hr
  split at hr
  · rename_i h
    cases hr
    exact fn_Num_Of GG (⟨av, al, ah, ab⟩ : Nm) n h
  · cases hr
theorem at_env_Num_Of : FnAt Try.prog GG 37 as_env_Num_Of ga_env_Num_Of em_env_Num_Of := fun vs h r hr => by
  have e : Shp.buildL as_env_Num_Of vs = [(.agg [(.int .i64 (((tls 0 vs).headD .nilSl).subs.headD .nilSl).num), (.int .i64 (((tls 0 vs).headD .nilSl).subs.tail.headD .nilSl).num), (.int .i64 (((tls 0 vs).headD .nilSl).subs.tail.tail.headD .nilSl).num), (.bool (((tls 0 vs).headD .nilSl).subs.tail.tail.tail.headD .nilSl).tru)]), (.int .i64 ((tls 1 vs).headD .nilSl).num)] := by kernel_rfl
  rw [← Shp.buildL_eq _ h, e]
  exact .inl ⟨by decide, fe_env_Num_Of _ _ _ _ _ r hr⟩
open Classical in
noncomputable def go_env_Encloses (av : Int) (al : Int) (ah : Int) (ab : Bool) (n : Int) (d : Int) : Option Bool := if i64N (⟨av, al, ah, ab⟩ : Nm) ∧ i64 n ∧ i64 d then some (enc (⟨av, al, ah, ab⟩ : Nm) n d) else none
def em_env_Encloses (r : Bool) : PV := (.bool r)
def as_env_Encloses : List Shp := [(.agg [(.int .i64), (.int .i64), (.int .i64), .bool]), (.int .i64), (.int .i64)]
noncomputable def ga_env_Encloses (vs : List PV) : Option Bool := go_env_Encloses (((tls 0 vs).headD .nilSl).subs.headD .nilSl).num (((tls 0 vs).headD .nilSl).subs.tail.headD .nilSl).num (((tls 0 vs).headD .nilSl).subs.tail.tail.headD .nilSl).num (((tls 0 vs).headD .nilSl).subs.tail.tail.tail.headD .nilSl).tru ((tls 1 vs).headD .nilSl).num ((tls 2 vs).headD .nilSl).num
theorem fe_env_Encloses (av : Int) (al : Int) (ah : Int) (ab : Bool) (n : Int) (d : Int) (r : Bool) (hr : go_env_Encloses av al ah ab n d = some r) : FunEq Try.prog GG 46 [(.agg [(.int .i64 av), (.int .i64 al), (.int .i64 ah), (.bool ab)]), (.int .i64 n), (.int .i64 d)] (em_env_Encloses r) := by
  unfold go_env_Encloses at hr
  split at hr
  · rename_i h
    cases hr
    exact fn_Encloses GG (⟨av, al, ah, ab⟩ : Nm) n d h.1 h.2.1 h.2.2
  · cases hr
theorem at_env_Encloses : FnAt Try.prog GG 46 as_env_Encloses ga_env_Encloses em_env_Encloses := fun vs h r hr => by
  have e : Shp.buildL as_env_Encloses vs = [(.agg [(.int .i64 (((tls 0 vs).headD .nilSl).subs.headD .nilSl).num), (.int .i64 (((tls 0 vs).headD .nilSl).subs.tail.headD .nilSl).num), (.int .i64 (((tls 0 vs).headD .nilSl).subs.tail.tail.headD .nilSl).num), (.bool (((tls 0 vs).headD .nilSl).subs.tail.tail.tail.headD .nilSl).tru)]), (.int .i64 ((tls 1 vs).headD .nilSl).num), (.int .i64 ((tls 2 vs).headD .nilSl).num)] := by kernel_rfl
  rw [← Shp.buildL_eq _ h, e]
  exact .inl ⟨by decide, fe_env_Encloses _ _ _ _ _ _ r hr⟩
end Go.Proofs
set_option linter.unusedVariables false
set_option linter.unusedSimpArgs false
set_option maxRecDepth 100000
namespace Go.Proofs
open Go Go.Fx Go.Mdlaw Go.Rootlaw
end Go.Proofs
set_option linter.unusedVariables false
set_option maxRecDepth 100000
noncomputable section
namespace Go.Proofs
open Go Go.Fx
end Go.Proofs
end
