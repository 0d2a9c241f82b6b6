/-
  Rows of bits (no program in sight).
-/
import Derived.Test.YtbfhholefjngpaaFxRun
import Derived.Laws.Bits64
import Derived.Test.YtbfhholefjngpaaWE3
set_option linter.unusedSimpArgs false
set_option linter.unusedVariables false
set_option maxRecDepth 100000
namespace Go.Proofs
open Go Go.Fx Go.Mdlaw Go.Rootlaw
def ir_couplet_env_Num_Add_1 : IR := (.seq (.ops false [⟨(some 6), (.mv (.c (.int .i64 (0)))), none⟩, ⟨(some 7), (.mv (.c (.bool false))), none⟩]) (.seq (.ops false [⟨(some 8), (.mv (.tmp 0)), none⟩, ⟨(some 9), (.mv (.tmp 1)), none⟩, ⟨(some 10), (.call (.func 87) [(.tmp 8), (.tmp 9)]), none⟩, ⟨(some 11), (.ext (.tmp 10) 0), none⟩, ⟨(some 12), (.ext (.tmp 10) 1), none⟩, ⟨(some 6), (.mv (.tmp 11)), none⟩, ⟨(some 7), (.mv (.tmp 12)), none⟩]) .ret))
theorem ok_couplet_env_Num_Add_1 : compCode Try.prog (Try.f86.body.getD .skip) [] = some (ir_couplet_env_Num_Add_1, []) := by kernel_rfl
def live_couplet_env_Num_Add_1 : List (List Nat) := []
def ir_couplet_env_Num_Add : IR := (.seq (.ops false [⟨(some 2), (.box 36 (.tmp 0)), none⟩, ⟨(some 3), (.box 36 (.tmp 1)), none⟩, ⟨(some 4), (.alloc 36 [(.int .i64 (0)), (.int .i64 (0)), (.int .i64 (0)), (.bool false)]), none⟩]) (.seq (.ops false [⟨(some 5), (.mv (.func 86)), none⟩]) (.seq (.ops false [⟨(some 6), (.ld true 4 (.tmp 2)), none⟩, ⟨(some 7), (.ld true 4 (.tmp 3)), none⟩, ⟨(some 8), (.mv (.tmp 5)), none⟩, ⟨(some 9), (.fldA 1 (.tmp 2)), none⟩, ⟨(some 10), (.ld false 1 (.tmp 9)), none⟩, ⟨(some 11), (.fldA 1 (.tmp 3)), none⟩, ⟨(some 12), (.ld false 1 (.tmp 11)), none⟩, ⟨(some 13), (.build [(.int .i64 (0)), (.int .i64 (0))] [(0, (1, (.tmp 10))), (1, (1, (.tmp 12)))]), none⟩, ⟨(some 14), (.fldA 2 (.tmp 2)), none⟩, ⟨(some 15), (.ld false 1 (.tmp 14)), none⟩, ⟨(some 16), (.fldA 2 (.tmp 3)), none⟩, ⟨(some 17), (.ld false 1 (.tmp 16)), none⟩, ⟨(some 18), (.build [(.int .i64 (0)), (.int .i64 (0))] [(0, (1, (.tmp 15))), (1, (1, (.tmp 17)))]), none⟩, ⟨(some 19), (.bsl 91 none 2 [(.tmp 13), (.tmp 18)]), none⟩, ⟨(some 20), (.call (.func 88) [(.tmp 6), (.tmp 7), (.tmp 8), (.tmp 19)]), none⟩, ⟨none, (.st 4 (.tmp 4) (.tmp 20)), none⟩]) .ret)))
theorem ok_couplet_env_Num_Add : compCode Try.prog (Try.f43.body.getD .skip) [] = some (ir_couplet_env_Num_Add, []) := by kernel_rfl
def live_couplet_env_Num_Add : List (List Nat) := []
def ir_couplet_env_Num_Mul : IR := (.seq (.ops false [⟨(some 2), (.box 36 (.tmp 0)), none⟩, ⟨(some 3), (.box 36 (.tmp 1)), none⟩, ⟨(some 4), (.alloc 36 [(.int .i64 (0)), (.int .i64 (0)), (.int .i64 (0)), (.bool false)]), none⟩]) (.seq (.ops true [⟨(some 5), (.ld true 4 (.tmp 2)), none⟩, ⟨(some 6), (.ld true 4 (.tmp 3)), none⟩, ⟨(some 7), (.ld true 4 (.tmp 2)), none⟩, ⟨(some 8), (.ld true 4 (.tmp 3)), none⟩, ⟨(some 9), (.call (.func 90) [(.tmp 7), (.tmp 8)]), none⟩, ⟨(some 10), (.call (.func 88) [(.tmp 5), (.tmp 6), (.func 89), (.tmp 9)]), none⟩, ⟨none, (.st 4 (.tmp 4) (.tmp 10)), none⟩]) .ret))
theorem ok_couplet_env_Num_Mul : compCode Try.prog (Try.f44.body.getD .skip) [] = some (ir_couplet_env_Num_Mul, []) := by kernel_rfl
def live_couplet_env_Num_Mul : List (List Nat) := []
def ir_couplet_env_Num_Of : IR := (.seq (.ops false [⟨(some 2), (.box 36 (.tmp 0)), none⟩, ⟨(some 4), (.alloc 36 [(.int .i64 (0)), (.int .i64 (0)), (.int .i64 (0)), (.bool false)]), none⟩]) (.seq (.ops false [⟨(some 8), (.mv (.tmp 1)), none⟩, ⟨(some 9), (.call (.func 84) [(.tmp 8)]), none⟩, ⟨(some 7), (.mv (.tmp 9)), none⟩, ⟨(some 10), (.ext (.tmp 7) 0), none⟩, ⟨(some 11), (.ext (.tmp 7) 1), none⟩, ⟨(some 5), (.mv (.tmp 10)), none⟩, ⟨(some 6), (.mv (.tmp 11)), none⟩]) (.seq (.seq (.ops false [⟨(some 12), (.mv (.tmp 6)), none⟩, ⟨(some 13), (.un .not (.tmp 12)), none⟩]) (.cond (.tmp 13) (.seq (.ops false [⟨(some 14), (.call (.func 36) []), none⟩, ⟨none, (.st 4 (.tmp 4) (.tmp 14)), none⟩]) .ret) .skip)) (.seq (.ops false [⟨(some 15), (.mv (.tmp 5)), none⟩, ⟨(some 16), (.call (.func 35) [(.tmp 15)]), none⟩, ⟨none, (.st 4 (.tmp 4) (.tmp 16)), none⟩]) .ret))))
theorem ok_couplet_env_Num_Of : compCode Try.prog (Try.f37.body.getD .skip) [] = some (ir_couplet_env_Num_Of, []) := by kernel_rfl
def live_couplet_env_Num_Of : List (List Nat) := []
def ir_coupletlaw03_Given : IR := (.seq (.ops false [⟨(some 1), (.box 36 (.tmp 0)), none⟩, ⟨(some 2), (.alloc 40 [(.int .i64 (0)), (.int .i64 (0)), (.int .i64 (0)), (.bool false)]), none⟩]) (.seq (.ops false [⟨(some 3), (.fldA 0 (.tmp 1)), none⟩, ⟨(some 4), (.ld false 1 (.tmp 3)), none⟩, ⟨(some 5), (.fldA 1 (.tmp 1)), none⟩, ⟨(some 6), (.ld false 1 (.tmp 5)), none⟩, ⟨(some 7), (.fldA 2 (.tmp 1)), none⟩, ⟨(some 8), (.ld false 1 (.tmp 7)), none⟩, ⟨(some 9), (.fldA 3 (.tmp 1)), none⟩, ⟨(some 10), (.ld false 1 (.tmp 9)), none⟩, ⟨(some 11), (.build [(.int .i64 (0)), (.int .i64 (0)), (.int .i64 (0)), (.bool false)] [(0, (1, (.tmp 4))), (1, (1, (.tmp 6))), (2, (1, (.tmp 8))), (3, (1, (.tmp 10)))]), none⟩, ⟨none, (.st 4 (.tmp 2) (.tmp 11)), none⟩]) .ret))
theorem ok_coupletlaw03_Given : compCode Try.prog (Try.f39.body.getD .skip) [] = some (ir_coupletlaw03_Given, []) := by kernel_rfl
def live_coupletlaw03_Given : List (List Nat) := []
theorem Nm.flat (x : Nm) : x.pv.flat = true := rfl
def i64N (x : Nm) : Prop := i64 x.v ∧ i64 x.lo ∧ i64 x.hi
theorem fn_Add1 (G : Glob) (x y m : Int) : FunEq Try.prog G 86 [.int .i64 x, .int .i64 y, .int .i64 m] (.tup [.int .i64 (fAdd x y).1, .bool (fAdd x y).2]) := by
  have c1 := fn_fx_Add G x y
  generalize fAdd x y = r at *
  refine fun_of_vc live_couplet_env_Num_Add_1 Try.func86 rfl (by kernel_rfl) ok_couplet_env_Num_Add_1 (by kernel_rfl) Try.ntmps86 (run_of ?_)
  simp only [run_seq, run_ops, run_opsNil, run_ret, run_op0, Ins.kind, IOp.apps, List.any_cons, List.any_nil, pev, Ins.calm, Ins.opds, sureL, evS, St.put, List.map, List.length_cons, List.length_nil, List.replicate, List.cons_append, List.nil_append, List.getD_cons_zero, List.getD_cons_succ, List.set_cons_zero, List.set_cons_succ, SV.res, SV.strip, SV.sure, if_true, Bool.false_eq_true, if_false, true_and, Nat.reduceSub, Nat.zero_add, Nat.reduceAdd, cond_false, Bool.and_self, Bool.true_and, Nat.reduceBEq, Bool.or_self, and_self, ir_couplet_env_Num_Add_1, Try.results86]
  refine run_call c1 _ rfl (by exact ⟨trivial, trivial, trivial⟩) rfl rfl rfl trivial trivial ?_
  simp only [run_opsNil, run_ret, run_op0, pev, Ins.calm, Ins.opds, sureL, evS, St.put, List.length_cons, List.length_nil, List.nil_append, List.append_nil, List.getD_cons_zero, List.getD_cons_succ, List.set_cons_zero, List.set_cons_succ, SV.res, SV.strip, SV.sure, if_true, true_and, Nat.zero_add, Nat.reduceAdd, Bool.and_self, Bool.true_and, Nat.reduceLT, fzL, List.foldl_nil, SV.ids, boxIds, List.flatMap_cons, List.flatMap_nil, PV.flat, PV.flatL, and_self, List.getD_nil]
  simp only [List.append_nil, List.getD_cons_zero, List.getD_cons_succ, SV.res, Bool.and_self, Option.map_some, fzL, List.foldl_nil, SV.ids, List.flatMap_cons, List.flatMap_nil, SV.pvS, SV.pvSL, and_self, resK, resSV, oneSV]
def nAdd (a b : Nm) : Nm := made (fun x y _ => fAdd x y) a b [(a.lo, b.lo), (a.hi, b.hi)]
def pairs4 (a b : Nm) : List (Int × Int) := [(a.lo, b.lo), (a.lo, b.hi), (a.hi, b.lo), (a.hi, b.hi)]
def nMul (a b : Nm) : Nm := made fMul a b (pairs4 a b)
theorem fn_Num_Add (G : Glob) (a b : Nm) (ha : i64N a) (hb : i64N b) : FunEq Try.prog G 43 [a.pv, b.pv] (nAdd a b).pv := by
  have c1 := fn_made G 86 (fun x y _ => fAdd x y) a b false true [(a.lo, b.lo), (a.hi, b.hi)] (by simp) (by simp) (by intro p hp; simp at hp; rcases hp with rfl | rfl; exact ⟨ha.2.1, hb.2.1⟩; exact ⟨ha.2.2, hb.2.2⟩) ha.1 hb.1 (fun x y m _ _ _ _ => fn_Add1 G x y m)
  have hr : made (fun x y _ => fAdd x y) a b [(a.lo, b.lo), (a.hi, b.hi)] = nAdd a b := rfl
  rw [hr] at c1
  generalize nAdd a b = r at *
  refine fun_of_vc live_couplet_env_Num_Add Try.func43 rfl (by kernel_rfl) ok_couplet_env_Num_Add (by kernel_rfl) Try.ntmps43 (run_of ?_)
  simp only [run_seq, run_ops, run_opsNil, run_ret, run_op0, run_box, run_alloc, run_st, run_bsl, runB, okB, Ins.kind, IOp.apps, List.any_cons, List.any_nil, pev, Ins.calm, Ins.opds, sureL, evS, St.put, List.map, List.map_cons, List.length_cons, List.length_nil, List.replicate, List.cons_append, List.nil_append, List.append_nil, List.getD_cons_zero, List.getD_cons_succ, List.set_cons_zero, List.set_cons_succ, SV.res, SV.strip, SV.sure, SV.cells, PV.cells, SV.scal, PV.scal, SV.ld, if_true, Bool.false_eq_true, if_false, true_and, and_true, Nat.reduceSub, Nat.zero_add, Nat.reduceAdd, cond_true, cond_false, List.all_cons, Bool.and_self, Bool.and_true, Bool.true_and, Nat.reduceLeDiff, List.take, List.drop, Nat.reduceBEq, Bool.or_false, Bool.or_true, Bool.or_self, Option.map_some, fzL, List.foldl_nil, SV.ids, List.flatMap_cons, List.flatMap_nil, SV.pvS, SV.pvSL, spliceL, beq_self_eq_true, Nat.reduceEqDiff, List.all, and_self, fillL, aggS, allP, ir_couplet_env_Num_Add, Try.results43, Nm.pv]
  refine run_call c1 _ rfl (by exact ⟨trivial, trivial, trivial, trivial, trivial⟩) rfl rfl rfl trivial trivial ?_
  simp only [run_opsNil, run_ret, run_op0, run_st, pev, Ins.calm, Ins.opds, sureL, evS, St.put, List.map, List.map_cons, List.length_cons, List.length_nil, List.nil_append, List.append_nil, List.getD_cons_zero, List.getD_cons_succ, List.set_cons_zero, List.set_cons_succ, SV.res, SV.strip, SV.sure, SV.cells, PV.cells, SV.scal, PV.scal, if_true, Bool.false_eq_true, if_false, true_and, Nat.zero_add, Nat.reduceAdd, List.all_cons, Bool.and_self, Bool.true_and, Nat.reduceLeDiff, List.take, List.drop, fzL, fz1, List.foldl_cons, List.foldl_nil, SV.ids, boxIds, List.flatMap_cons, List.flatMap_nil, PV.flat, PV.flatL, spliceL, List.all, and_self, Nm.pv]
  simp only [List.length_cons, List.length_nil, List.append_nil, List.getD_cons_zero, List.getD_cons_succ, SV.res, SV.ld, if_true, Nat.zero_add, Nat.reduceAdd, Bool.and_self, Nat.reduceLeDiff, List.take, List.drop, Option.map_some, fzL, List.foldl_nil, SV.ids, List.flatMap_cons, List.flatMap_nil, SV.pvS, and_self, aggS, allP, resK, resSV, oneSV, cells36, agg36]
theorem fn_Num_Mul (G : Glob) (a b : Nm) (ha : i64N a) (hb : i64N b) : FunEq Try.prog G 44 [a.pv, b.pv] (nMul a b).pv := by
  have c0 := fn_all G a b
  have c1 := fn_made G 89 fMul a b false true (pairs4 a b) (by simp [pairs4]) (by simp [pairs4]) (by
    intro p hp; simp [pairs4] at hp; rcases hp with rfl | rfl | rfl | rfl
    exact ⟨ha.2.1, hb.2.1⟩; exact ⟨ha.2.1, hb.2.2⟩; exact ⟨ha.2.2, hb.2.1⟩; exact ⟨ha.2.2, hb.2.2⟩) ha.1 hb.1 (fun x y m hx hy h0 h2 => fn_fx_Mul G x y m hx hy (by unfold i64; omega))
  have hr : made fMul a b (pairs4 a b) = nMul a b := rfl
  rw [hr] at c1
  generalize nMul a b = r at *
  refine fun_of_vc live_couplet_env_Num_Mul Try.func44 rfl (by kernel_rfl) ok_couplet_env_Num_Mul (by kernel_rfl) Try.ntmps44 (run_of ?_)
  simp only [run_seq, run_ops, run_opsNil, run_ret, run_op0, run_box, run_alloc, run_st, Ins.kind, IOp.apps, List.any_cons, List.any_nil, pev, Ins.calm, Ins.opds, sureL, evS, St.put, List.map, List.map_cons, List.length_cons, List.length_nil, List.replicate, List.cons_append, List.nil_append, List.getD_cons_zero, List.getD_cons_succ, List.set_cons_zero, List.set_cons_succ, SV.res, SV.strip, SV.sure, SV.cells, PV.cells, SV.scal, PV.scal, SV.ld, if_true, Bool.false_eq_true, if_false, true_and, and_true, Nat.reduceSub, Nat.zero_add, Nat.reduceAdd, cond_true, cond_false, List.all_cons, Bool.and_self, Bool.and_true, Bool.true_and, Nat.reduceLeDiff, List.take, List.drop, Nat.reduceBEq, Bool.or_false, Bool.or_self, Option.map_some, spliceL, beq_self_eq_true, Nat.reduceEqDiff, List.all, and_self, aggS, allP, ir_couplet_env_Num_Mul, Try.results44, Nm.pv]
  refine run_call c0 _ rfl (by exact ⟨trivial, trivial, trivial⟩) rfl rfl rfl trivial (by first | trivial | rfl) ?_
  simp only [run_opsNil, run_ret, run_op0, run_st, pev, Ins.calm, Ins.opds, sureL, evS, St.put, List.length_cons, List.length_nil, List.cons_append, List.nil_append, List.append_nil, List.getD_cons_zero, List.getD_cons_succ, List.set_cons_zero, List.set_cons_succ, SV.res, SV.strip, SV.sure, SV.cells, SV.scal, PV.scal, Bool.false_eq_true, if_false, true_and, and_true, Nat.zero_add, Nat.reduceAdd, List.all_cons, Bool.and_self, Bool.and_true, Bool.true_and, Nat.reduceLeDiff, List.take, List.drop, fzL, List.foldl_nil, SV.ids, boxIds, List.flatMap_cons, List.flatMap_nil, PV.flat, spliceL, Nat.reduceEqDiff, List.all, and_self]
  refine run_call c1 _ rfl (by exact ⟨trivial, trivial, trivial, trivial, trivial⟩) rfl rfl rfl trivial (by first | trivial | rfl) ?_
  simp only [run_opsNil, run_ret, run_op0, run_st, pev, Ins.calm, Ins.opds, sureL, evS, St.put, List.map, List.map_cons, List.length_cons, List.length_nil, List.nil_append, List.append_nil, List.getD_cons_zero, List.getD_cons_succ, List.set_cons_zero, List.set_cons_succ, SV.res, SV.strip, SV.sure, SV.cells, PV.cells, SV.scal, PV.scal, if_true, Bool.false_eq_true, if_false, true_and, Nat.zero_add, Nat.reduceAdd, List.all_cons, Bool.and_self, Bool.true_and, Nat.reduceLeDiff, List.take, List.drop, fzL, List.foldl_nil, SV.ids, boxIds, List.flatMap_cons, List.flatMap_nil, PV.flat, PV.flatL, spliceL, List.all, and_self, Nm.pv]
  simp only [List.length_cons, List.length_nil, List.append_nil, List.getD_cons_zero, List.getD_cons_succ, SV.res, SV.ld, if_true, Nat.zero_add, Nat.reduceAdd, Bool.and_self, Nat.reduceLeDiff, List.take, List.drop, Option.map_some, fzL, List.foldl_nil, SV.ids, List.flatMap_cons, List.flatMap_nil, SV.pvS, and_self, aggS, allP, resK, resSV, oneSV, cells36, agg36]
def nOf (n : Int) : Nm := if (fOf n).2 = true then point (fOf n).1 else wrong
theorem fn_Num_Of (G : Glob) (a : Nm) (n : Int) (hn : i64 n) : FunEq Try.prog G 37 [a.pv, .int .i64 n] (nOf n).pv := by
  have c1 := fn_fx_Of G n hn
  have c2 := fn_Point G (fOf n).1
  have cw := fn_Wrong G
  obtain ⟨r, hr⟩ : ∃ r, r = nOf n := ⟨_, rfl⟩
  rw [← hr]
  unfold nOf at hr
  generalize point (fOf n).1 = q at *
  generalize fOf n = x at *
  obtain ⟨x, is⟩ := x
  refine fun_of_vc live_couplet_env_Num_Of Try.func37 rfl (by kernel_rfl) ok_couplet_env_Num_Of (by kernel_rfl) Try.ntmps37 (run_of ?_)
  simp only [run_seq, run_ops, run_opsNil, run_op0, run_cond, run_box, run_alloc, Ins.kind, IOp.apps, List.any_cons, List.any_nil, pev, Ins.calm, Ins.opds, sureL, evS, St.put, List.map, List.map_cons, List.length_cons, List.length_nil, List.replicate, List.cons_append, List.nil_append, List.getD_cons_zero, List.getD_cons_succ, List.set_cons_zero, List.set_cons_succ, SV.res, SV.strip, SV.sure, SV.cells, PV.cells, SV.scal, PV.scal, if_true, Bool.false_eq_true, if_false, true_and, Nat.reduceSub, Nat.zero_add, Nat.reduceAdd, cond_true, cond_false, List.all_cons, Bool.and_self, Bool.true_and, Nat.reduceBEq, Bool.or_false, Bool.or_self, beq_self_eq_true, List.all, and_self, ir_couplet_env_Num_Of, Try.results37, Nm.pv]
  refine run_call c1 _ rfl (by exact ⟨trivial, trivial⟩) rfl rfl rfl trivial trivial ?_
  cases is
  · rw [if_neg (by simp)] at hr
    rw [hr]
    simp only [run_seq, run_ops, run_opsNil, run_ret, run_op0, run_cond, runC_true, run_st, Ins.kind, IOp.apps, List.any_cons, List.any_nil, pev, Ins.calm, Ins.opds, sureL, evS, St.put, List.length_cons, List.length_nil, List.cons_append, List.nil_append, List.append_nil, List.getD_cons_zero, List.getD_cons_succ, List.set_cons_zero, List.set_cons_succ, SV.res, SV.strip, SV.sure, SV.cells, SV.scal, PV.scal, if_true, Bool.false_eq_true, if_false, true_and, and_true, Nat.zero_add, Nat.reduceAdd, cond_false, List.all_cons, Bool.and_self, Bool.and_true, Bool.true_and, Nat.reduceLeDiff, Nat.reduceLT, List.take, List.drop, Nat.reduceBEq, Bool.or_self, fzL, List.foldl_nil, SV.ids, boxIds, List.flatMap_cons, List.flatMap_nil, PV.flat, PV.flatL, spliceL, Nat.reduceEqDiff, Bool.not_false, List.all, and_self]
    refine run_call cw _ rfl (by exact trivial) rfl rfl rfl trivial trivial ?_
    simp only [run_opsNil, run_ret, run_op0, run_st, pev, Ins.calm, Ins.opds, sureL, evS, St.put, List.map, List.map_cons, List.length_cons, List.length_nil, List.nil_append, List.append_nil, List.getD_cons_zero, List.getD_cons_succ, List.set_cons_zero, List.set_cons_succ, SV.res, SV.strip, SV.sure, SV.cells, PV.cells, SV.scal, PV.scal, if_true, Bool.false_eq_true, if_false, true_and, Nat.zero_add, Nat.reduceAdd, List.all_cons, Bool.and_self, Bool.true_and, Nat.reduceLeDiff, List.take, List.drop, fzL, List.foldl_nil, SV.ids, boxIds, List.flatMap_cons, List.flatMap_nil, PV.flat, PV.flatL, spliceL, List.all, and_self, wrong, Nm.pv]
    simp only [List.length_cons, List.length_nil, List.append_nil, List.getD_cons_zero, List.getD_cons_succ, SV.res, SV.ld, if_true, Nat.zero_add, Nat.reduceAdd, Bool.and_self, Nat.reduceLeDiff, List.take, List.drop, Option.map_some, fzL, List.foldl_nil, SV.ids, List.flatMap_cons, List.flatMap_nil, SV.pvS, and_self, aggS, allP, resK, resSV, oneSV, cells36, agg36]
  · rw [if_pos rfl] at hr
    rw [hr]
    simp only [run_skip, run_seq, run_ops, run_opsNil, run_ret, run_op0, run_cond, runC_false, run_st, Ins.kind, IOp.apps, List.any_cons, List.any_nil, pev, Ins.calm, Ins.opds, sureL, evS, St.put, List.length_cons, List.length_nil, List.cons_append, List.nil_append, List.append_nil, List.getD_cons_zero, List.getD_cons_succ, List.set_cons_zero, List.set_cons_succ, SV.res, SV.strip, SV.sure, SV.cells, SV.scal, PV.scal, if_true, Bool.false_eq_true, if_false, true_and, and_true, Nat.zero_add, Nat.reduceAdd, cond_false, List.all_cons, Bool.and_self, Bool.and_true, Bool.true_and, Nat.reduceLeDiff, Nat.reduceLT, List.take, List.drop, Nat.reduceBEq, Bool.or_self, fzL, List.foldl_nil, SV.ids, boxIds, List.flatMap_cons, List.flatMap_nil, PV.flat, PV.flatL, spliceL, Nat.reduceEqDiff, Bool.not_true, List.all, and_self]
    refine run_call c2 _ rfl (by exact ⟨trivial, trivial⟩) rfl rfl rfl trivial trivial ?_
    simp only [run_opsNil, run_ret, run_op0, run_st, pev, Ins.calm, Ins.opds, sureL, evS, St.put, List.map, List.map_cons, List.length_cons, List.length_nil, List.nil_append, List.append_nil, List.getD_cons_zero, List.getD_cons_succ, List.set_cons_zero, List.set_cons_succ, SV.res, SV.strip, SV.sure, SV.cells, PV.cells, SV.scal, PV.scal, if_true, Bool.false_eq_true, if_false, true_and, Nat.zero_add, Nat.reduceAdd, List.all_cons, Bool.and_self, Bool.true_and, Nat.reduceLeDiff, List.take, List.drop, fzL, List.foldl_nil, SV.ids, boxIds, List.flatMap_cons, List.flatMap_nil, PV.flat, PV.flatL, spliceL, List.all, and_self, Nm.pv]
    simp only [List.length_cons, List.length_nil, List.append_nil, List.getD_cons_zero, List.getD_cons_succ, SV.res, SV.ld, if_true, Nat.zero_add, Nat.reduceAdd, Bool.and_self, Nat.reduceLeDiff, List.take, List.drop, Option.map_some, fzL, List.foldl_nil, SV.ids, List.flatMap_cons, List.flatMap_nil, SV.pvS, and_self, aggS, allP, resK, resSV, oneSV, cells36, agg36]
theorem cells40 : Try.prog.cellsOf 40 = 4 := by kernel_rfl
theorem agg40 : isAggT Try.prog 40 = true := by kernel_rfl
theorem fn_Given (G : Glob) (a : Nm) : FunEq Try.prog G 39 [a.pv] a.pv := by
  refine fun_of_vc live_coupletlaw03_Given Try.func39 rfl (by kernel_rfl) ok_coupletlaw03_Given (by kernel_rfl) Try.ntmps39 (run_of ?_)
  simp only [run_seq, run_ops, run_opsNil, run_ret, run_op0, run_box, run_alloc, run_st, Ins.kind, IOp.apps, List.any_cons, List.any_nil, pev, Ins.calm, Ins.opds, sureL, evS, St.put, List.map, List.map_cons, List.length_cons, List.length_nil, List.replicate, List.cons_append, List.nil_append, List.append_nil, List.getD_cons_zero, List.getD_cons_succ, List.set_cons_zero, List.set_cons_succ, SV.res, SV.strip, SV.sure, SV.cells, PV.cells, SV.scal, PV.scal, SV.ld, if_true, Bool.false_eq_true, if_false, true_and, and_true, Nat.reduceSub, Nat.zero_add, Nat.add_zero, Nat.reduceAdd, cond_true, cond_false, List.all_cons, Bool.and_self, Bool.and_true, Bool.true_and, Nat.reduceLeDiff, List.take, List.drop, Nat.reduceBEq, Bool.or_false, Bool.or_self, Option.map_some, spliceL, beq_self_eq_true, Nat.reduceEqDiff, List.all, and_self, fillL, aggS, allP, ir_coupletlaw03_Given, Try.results39, Nm.pv]
  simp only [List.length_cons, List.length_nil, List.append_nil, List.getD_cons_zero, List.getD_cons_succ, SV.res, SV.ld, if_true, Nat.zero_add, Nat.reduceAdd, Bool.and_self, Nat.reduceLeDiff, List.take, List.drop, Option.map_some, fzL, List.foldl_nil, SV.ids, List.flatMap_cons, List.flatMap_nil, SV.pvS, and_self, aggS, allP, resK, resSV, oneSV, cells40, agg40]
end Go.Proofs
set_option linter.unusedSimpArgs false
set_option linter.unusedVariables false
set_option maxRecDepth 100000
namespace Go.Proofs
open Go Go.Fx Go.Mdlaw Go.Rootlaw Go.Cmplaw
def enc (a : Nm) (n d : Int) : Bool := fine a && decide (1 ≤ d) && decide (okW n) && decide (okW d) && decide (a.lo * d ≤ n * 16777216) && decide (n * 16777216 ≤ a.hi * d)
theorem fine_okF {a : Nm} (h : fine a = true) : okF a.lo ∧ okF a.hi ∧ a.lo ≤ a.v ∧ a.v ≤ a.hi ∧ a.bad = false := by
  unfold fine at h
  simp only [Bool.and_eq_true, decide_eq_true_eq, Bool.not_eq_true'] at h
  exact ⟨h.1.1.1.2, h.1.1.2, h.1.2, h.2, h.1.1.1.1⟩
end Go.Proofs
namespace Go.Bitrow
def bits : Nat → Nat → List Int
  | 0, _ => []
  | m + 1, n => ((n % 2 : Nat) : Int) :: bits m (n / 2)
@[simp] theorem bits_length : ∀ m n, (bits m n).length = m
  | 0, _ => rfl
  | m + 1, n => by simp only [bits, List.length_cons, bits_length m]
theorem pow_div (n k : Nat) : n / 2 ^ (k + 1) = n / 2 / 2 ^ k := by rw [Nat.pow_succ, Nat.mul_comm, Nat.div_div_eq_div_mul]
theorem pow_div' (n k : Nat) : n / 2 ^ (k + 1) = n / 2 ^ k / 2 := by rw [Nat.pow_succ, Nat.div_div_eq_div_mul]
theorem bits_get {m : Nat} : ∀ {n k : Nat} {d : Int}, k < m → (bits m n).getD k d = ((n / 2 ^ k % 2 : Nat) : Int) := by
  induction m with
  | zero => intro n k d h; omega
  | succ m ih =>
    intro n k d h
    cases k with
    | zero => simp [bits]
    | succ k =>
      simp only [bits, List.getD_cons_succ]
      rw [ih (by omega), pow_div]
theorem bits_snoc : ∀ m n, bits m n ++ [((n / 2 ^ m % 2 : Nat) : Int)] = bits (m + 1) n
  | 0, n => by simp [bits]
  | m + 1, n => by
    have h := bits_snoc m (n / 2)
    rw [← pow_div] at h
    rw [bits, List.cons_append, h]
    conv => rhs; rw [bits]
theorem bits_take : ∀ {m m' n : Nat}, m ≤ m' → (bits m' n).take m = bits m n
  | 0, m', n, _ => by simp [bits]
  | m + 1, 0, n, h => by omega
  | m + 1, m' + 1, n, h => by simp only [bits, List.take_succ_cons]; rw [bits_take (by omega)]
theorem bits_up {m n b : Nat} (h : b < 2) : ((b : Nat) : Int) :: bits m n = bits (m + 1) (2 * n + b) := by
  rw [bits]
  congr 2 <;> omega
theorem add_step {a b k c : Nat} (h : (a + b) / 2 ^ k = a / 2 ^ k + b / 2 ^ k + c) :
    (a + b) / 2 ^ (k + 1) = a / 2 ^ (k + 1) + b / 2 ^ (k + 1) + (a / 2 ^ k % 2 + b / 2 ^ k % 2 + c) / 2 ∧ (a + b) / 2 ^ k % 2 = (a / 2 ^ k % 2 + b / 2 ^ k % 2 + c) % 2 := by
  rw [pow_div', pow_div', pow_div']
  generalize (a + b) / 2 ^ k = S at *
  generalize a / 2 ^ k = A at *
  generalize b / 2 ^ k = B at *
  omega
theorem sub_step {a b k c : Nat} (hc : c ≤ 1) (h : a / 2 ^ k = b / 2 ^ k + (a - b) / 2 ^ k + c) :
    a / 2 ^ (k + 1) = b / 2 ^ (k + 1) + (a - b) / 2 ^ (k + 1) + (1 - (a / 2 ^ k % 2 + 2 - b / 2 ^ k % 2 - c) / 2) ∧ (a - b) / 2 ^ k % 2 = (a / 2 ^ k % 2 + 2 - b / 2 ^ k % 2 - c) % 2 := by
  rw [pow_div', pow_div', pow_div']
  generalize (a - b) / 2 ^ k = S at *
  generalize a / 2 ^ k = A at *
  generalize b / 2 ^ k = B at *
  omega
theorem lt_of_bit {a b k : Nat} (h : a / 2 ^ (k + 1) = b / 2 ^ (k + 1)) (hl : a / 2 ^ k % 2 < b / 2 ^ k % 2) : a < b := by
  rw [pow_div', pow_div'] at h
  have h1 : a / 2 ^ k < b / 2 ^ k := by
    generalize a / 2 ^ k = A at *
    generalize b / 2 ^ k = B at *
    omega
  exact Nat.lt_of_not_le fun h2 => absurd (Nat.div_le_div_right (c := 2 ^ k) h2) (by omega)
theorem eq_of_bit {a b k : Nat} (h : a / 2 ^ (k + 1) = b / 2 ^ (k + 1)) (hl : a / 2 ^ k % 2 = b / 2 ^ k % 2) : a / 2 ^ k = b / 2 ^ k := by
  rw [pow_div', pow_div'] at h
  generalize a / 2 ^ k = A at *
  generalize b / 2 ^ k = B at *
  omega
theorem mod_step (b k : Nat) : b % 2 ^ (k + 1) = b % 2 ^ k + 2 ^ k * (b / 2 ^ k % 2) := by
  rw [Nat.pow_succ, Nat.mod_mul]
theorem div_low {p d k : Nat} (hd : 0 < d) (h : 2 * (p / 2 ^ (k + 1) % d) + p / 2 ^ k % 2 < d) :
    p / 2 ^ k / d = 2 * (p / 2 ^ (k + 1) / d) ∧ p / 2 ^ k % d = 2 * (p / 2 ^ (k + 1) % d) + p / 2 ^ k % 2 := by
  rw [Nat.div_mod_unique hd]
  refine ⟨?_, h⟩
  have h1 := Nat.div_add_mod (p / 2 ^ (k + 1)) d
  rw [Nat.mul_left_comm]
  generalize d * (p / 2 ^ (k + 1) / d) = A at *
  generalize p / 2 ^ (k + 1) % d = B at *
  rw [pow_div'] at h1
  omega
theorem div_high {p d k : Nat} (hd : 0 < d) (h : d ≤ 2 * (p / 2 ^ (k + 1) % d) + p / 2 ^ k % 2) :
    p / 2 ^ k / d = 2 * (p / 2 ^ (k + 1) / d) + 1 ∧ p / 2 ^ k % d = 2 * (p / 2 ^ (k + 1) % d) + p / 2 ^ k % 2 - d := by
  rw [Nat.div_mod_unique hd]
  have h1 := Nat.div_add_mod (p / 2 ^ (k + 1)) d
  have h2 := Nat.mod_lt (p / 2 ^ (k + 1)) hd
  rw [Nat.mul_add, Nat.mul_left_comm, Nat.mul_one]
  generalize d * (p / 2 ^ (k + 1) / d) = A at *
  generalize p / 2 ^ (k + 1) % d = B at *
  rw [pow_div'] at h1
  omega
end Go.Bitrow
