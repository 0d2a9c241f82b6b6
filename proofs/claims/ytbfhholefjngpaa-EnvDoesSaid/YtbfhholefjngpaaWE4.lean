/-
  Sums, differences, products, quotients, roots of enclosed numbers.
-/
import Derived.Test.YtbfhholefjngpaaFxRun
import Derived.Laws.Bits64
import Derived.Test.YtbfhholefjngpaaWE3
set_option linter.unusedSimpArgs false
set_option linter.unusedVariables false
set_option maxRecDepth 100000
namespace Go.Proofs
open Go Go.Fx Go.Mdlaw Go.Rootlaw

/-- (couplet/env.Num).Add$1 -/
def ir_couplet_env_Num_Add_1 : IR := (.seq (.ops false [⟨(some 6), (.mv (.c (.int .i64 (0)))), none⟩, ⟨(some 7), (.mv (.c (.bool false))), none⟩]) (.seq (.ops false [⟨(some 8), (.mv (.tmp 0)), none⟩, ⟨(some 9), (.mv (.tmp 1)), none⟩, ⟨(some 10), (.call (.func 87) [(.tmp 8), (.tmp 9)]), none⟩, ⟨(some 11), (.ext (.tmp 10) 0), none⟩, ⟨(some 12), (.ext (.tmp 10) 1), none⟩, ⟨(some 6), (.mv (.tmp 11)), none⟩, ⟨(some 7), (.mv (.tmp 12)), none⟩]) .ret))
theorem ok_couplet_env_Num_Add_1 : compCode Try.prog (Try.f86.body.getD .skip) [] = some (ir_couplet_env_Num_Add_1, []) := by kernel_rfl
def live_couplet_env_Num_Add_1 : List (List Nat) := []

/-- (couplet/env.Num).Add -/
def ir_couplet_env_Num_Add : IR := (.seq (.ops false [⟨(some 2), (.box 36 (.tmp 0)), none⟩, ⟨(some 3), (.box 36 (.tmp 1)), none⟩, ⟨(some 4), (.alloc 36 [(.int .i64 (0)), (.int .i64 (0)), (.int .i64 (0)), (.bool false)]), none⟩]) (.seq (.ops false [⟨(some 5), (.mv (.func 86)), none⟩]) (.seq (.ops false [⟨(some 6), (.ld true 4 (.tmp 2)), none⟩, ⟨(some 7), (.ld true 4 (.tmp 3)), none⟩, ⟨(some 8), (.mv (.tmp 5)), none⟩, ⟨(some 9), (.fldA 1 (.tmp 2)), none⟩, ⟨(some 10), (.ld false 1 (.tmp 9)), none⟩, ⟨(some 11), (.fldA 1 (.tmp 3)), none⟩, ⟨(some 12), (.ld false 1 (.tmp 11)), none⟩, ⟨(some 13), (.build [(.int .i64 (0)), (.int .i64 (0))] [(0, (1, (.tmp 10))), (1, (1, (.tmp 12)))]), none⟩, ⟨(some 14), (.fldA 2 (.tmp 2)), none⟩, ⟨(some 15), (.ld false 1 (.tmp 14)), none⟩, ⟨(some 16), (.fldA 2 (.tmp 3)), none⟩, ⟨(some 17), (.ld false 1 (.tmp 16)), none⟩, ⟨(some 18), (.build [(.int .i64 (0)), (.int .i64 (0))] [(0, (1, (.tmp 15))), (1, (1, (.tmp 17)))]), none⟩, ⟨(some 19), (.bsl 91 none 2 [(.tmp 13), (.tmp 18)]), none⟩, ⟨(some 20), (.call (.func 88) [(.tmp 6), (.tmp 7), (.tmp 8), (.tmp 19)]), none⟩, ⟨none, (.st 4 (.tmp 4) (.tmp 20)), none⟩]) .ret)))
theorem ok_couplet_env_Num_Add : compCode Try.prog (Try.f43.body.getD .skip) [] = some (ir_couplet_env_Num_Add, []) := by kernel_rfl
def live_couplet_env_Num_Add : List (List Nat) := []

/-- (couplet/env.Num).Sub$1 -/
def ir_couplet_env_Num_Sub_1 : IR := (.seq (.ops false [⟨(some 6), (.mv (.c (.int .i64 (0)))), none⟩, ⟨(some 7), (.mv (.c (.bool false))), none⟩]) (.seq (.ops false [⟨(some 8), (.mv (.tmp 0)), none⟩, ⟨(some 9), (.mv (.tmp 1)), none⟩, ⟨(some 10), (.call (.func 92) [(.tmp 8), (.tmp 9)]), none⟩, ⟨(some 11), (.ext (.tmp 10) 0), none⟩, ⟨(some 12), (.ext (.tmp 10) 1), none⟩, ⟨(some 6), (.mv (.tmp 11)), none⟩, ⟨(some 7), (.mv (.tmp 12)), none⟩]) .ret))
theorem ok_couplet_env_Num_Sub_1 : compCode Try.prog (Try.f91.body.getD .skip) [] = some (ir_couplet_env_Num_Sub_1, []) := by kernel_rfl
def live_couplet_env_Num_Sub_1 : List (List Nat) := []

/-- (couplet/env.Num).Sub -/
def ir_couplet_env_Num_Sub : IR := (.seq (.ops false [⟨(some 2), (.box 36 (.tmp 0)), none⟩, ⟨(some 3), (.box 36 (.tmp 1)), none⟩, ⟨(some 4), (.alloc 36 [(.int .i64 (0)), (.int .i64 (0)), (.int .i64 (0)), (.bool false)]), none⟩]) (.seq (.ops false [⟨(some 5), (.mv (.func 91)), none⟩]) (.seq (.ops false [⟨(some 6), (.ld true 4 (.tmp 2)), none⟩, ⟨(some 7), (.ld true 4 (.tmp 3)), none⟩, ⟨(some 8), (.mv (.tmp 5)), none⟩, ⟨(some 9), (.fldA 1 (.tmp 2)), none⟩, ⟨(some 10), (.ld false 1 (.tmp 9)), none⟩, ⟨(some 11), (.fldA 2 (.tmp 3)), none⟩, ⟨(some 12), (.ld false 1 (.tmp 11)), none⟩, ⟨(some 13), (.build [(.int .i64 (0)), (.int .i64 (0))] [(0, (1, (.tmp 10))), (1, (1, (.tmp 12)))]), none⟩, ⟨(some 14), (.fldA 2 (.tmp 2)), none⟩, ⟨(some 15), (.ld false 1 (.tmp 14)), none⟩, ⟨(some 16), (.fldA 1 (.tmp 3)), none⟩, ⟨(some 17), (.ld false 1 (.tmp 16)), none⟩, ⟨(some 18), (.build [(.int .i64 (0)), (.int .i64 (0))] [(0, (1, (.tmp 15))), (1, (1, (.tmp 17)))]), none⟩, ⟨(some 19), (.bsl 91 none 2 [(.tmp 13), (.tmp 18)]), none⟩, ⟨(some 20), (.call (.func 88) [(.tmp 6), (.tmp 7), (.tmp 8), (.tmp 19)]), none⟩, ⟨none, (.st 4 (.tmp 4) (.tmp 20)), none⟩]) .ret)))
theorem ok_couplet_env_Num_Sub : compCode Try.prog (Try.f45.body.getD .skip) [] = some (ir_couplet_env_Num_Sub, []) := by kernel_rfl
def live_couplet_env_Num_Sub : List (List Nat) := []

/-- (couplet/env.Num).Mul -/
def ir_couplet_env_Num_Mul : IR := (.seq (.ops false [⟨(some 2), (.box 36 (.tmp 0)), none⟩, ⟨(some 3), (.box 36 (.tmp 1)), none⟩, ⟨(some 4), (.alloc 36 [(.int .i64 (0)), (.int .i64 (0)), (.int .i64 (0)), (.bool false)]), none⟩]) (.seq (.ops true [⟨(some 5), (.ld true 4 (.tmp 2)), none⟩, ⟨(some 6), (.ld true 4 (.tmp 3)), none⟩, ⟨(some 7), (.ld true 4 (.tmp 2)), none⟩, ⟨(some 8), (.ld true 4 (.tmp 3)), none⟩, ⟨(some 9), (.call (.func 90) [(.tmp 7), (.tmp 8)]), none⟩, ⟨(some 10), (.call (.func 88) [(.tmp 5), (.tmp 6), (.func 89), (.tmp 9)]), none⟩, ⟨none, (.st 4 (.tmp 4) (.tmp 10)), none⟩]) .ret))
theorem ok_couplet_env_Num_Mul : compCode Try.prog (Try.f44.body.getD .skip) [] = some (ir_couplet_env_Num_Mul, []) := by kernel_rfl
def live_couplet_env_Num_Mul : List (List Nat) := []

/-- (couplet/env.Num).Div -/
def ir_couplet_env_Num_Div : IR := (.seq (.ops false [⟨(some 2), (.box 36 (.tmp 0)), none⟩, ⟨(some 3), (.box 36 (.tmp 1)), none⟩, ⟨(some 4), (.alloc 36 [(.int .i64 (0)), (.int .i64 (0)), (.int .i64 (0)), (.bool false)]), none⟩]) (.seq (.seq (.ops false [⟨(some 5), (.fldA 1 (.tmp 3)), none⟩, ⟨(some 6), (.ld false 1 (.tmp 5)), none⟩, ⟨(some 7), (.bin .leq (.tmp 6) (.c (.int .i64 (0)))), none⟩, ⟨(some 8), (.mv (.tmp 7)), none⟩, ⟨(some 9), (.fldA 2 (.tmp 3)), (some (8, true))⟩, ⟨(some 10), (.ld false 1 (.tmp 9)), (some (8, true))⟩, ⟨(some 11), (.bin .geq (.tmp 10) (.c (.int .i64 (0)))), (some (8, true))⟩, ⟨(some 12), (.pick (.tmp 8) (.tmp 11) (.c (.bool false))), none⟩]) (.cond (.tmp 12) (.seq (.ops false [⟨(some 13), (.call (.func 36) []), none⟩, ⟨none, (.st 4 (.tmp 4) (.tmp 13)), none⟩]) .ret) .skip)) (.seq (.ops true [⟨(some 14), (.ld true 4 (.tmp 2)), none⟩, ⟨(some 15), (.ld true 4 (.tmp 3)), none⟩, ⟨(some 16), (.ld true 4 (.tmp 2)), none⟩, ⟨(some 17), (.ld true 4 (.tmp 3)), none⟩, ⟨(some 18), (.call (.func 90) [(.tmp 16), (.tmp 17)]), none⟩, ⟨(some 19), (.call (.func 88) [(.tmp 14), (.tmp 15), (.func 93), (.tmp 18)]), none⟩, ⟨none, (.st 4 (.tmp 4) (.tmp 19)), none⟩]) .ret)))
theorem ok_couplet_env_Num_Div : compCode Try.prog (Try.f49.body.getD .skip) [] = some (ir_couplet_env_Num_Div, []) := by kernel_rfl
def live_couplet_env_Num_Div : List (List Nat) := []

/-- (couplet/env.Num).Root$1 -/
def ir_couplet_env_Num_Root_1 : IR := (.seq (.ops false [⟨(some 6), (.mv (.c (.int .i64 (0)))), none⟩, ⟨(some 7), (.mv (.c (.bool false))), none⟩]) (.seq (.ops false [⟨(some 8), (.mv (.tmp 0)), none⟩, ⟨(some 9), (.mv (.tmp 2)), none⟩, ⟨(some 10), (.call (.func 103) [(.tmp 8), (.tmp 9)]), none⟩, ⟨(some 11), (.ext (.tmp 10) 0), none⟩, ⟨(some 12), (.ext (.tmp 10) 1), none⟩, ⟨(some 6), (.mv (.tmp 11)), none⟩, ⟨(some 7), (.mv (.tmp 12)), none⟩]) .ret))
theorem ok_couplet_env_Num_Root_1 : compCode Try.prog (Try.f102.body.getD .skip) [] = some (ir_couplet_env_Num_Root_1, []) := by kernel_rfl
def live_couplet_env_Num_Root_1 : List (List Nat) := []

/-- (couplet/env.Num).Root -/
def ir_couplet_env_Num_Root : IR := (.seq (.ops false [⟨(some 1), (.box 36 (.tmp 0)), none⟩, ⟨(some 2), (.alloc 36 [(.int .i64 (0)), (.int .i64 (0)), (.int .i64 (0)), (.bool false)]), none⟩]) (.seq (.ops false [⟨(some 3), (.mv (.func 102)), none⟩]) (.seq (.ops false [⟨(some 4), (.ld true 4 (.tmp 1)), none⟩, ⟨(some 5), (.ld true 4 (.tmp 1)), none⟩, ⟨(some 6), (.mv (.tmp 3)), none⟩, ⟨(some 7), (.fldA 1 (.tmp 1)), none⟩, ⟨(some 8), (.ld false 1 (.tmp 7)), none⟩, ⟨(some 9), (.fldA 1 (.tmp 1)), none⟩, ⟨(some 10), (.ld false 1 (.tmp 9)), none⟩, ⟨(some 11), (.build [(.int .i64 (0)), (.int .i64 (0))] [(0, (1, (.tmp 8))), (1, (1, (.tmp 10)))]), none⟩, ⟨(some 12), (.fldA 2 (.tmp 1)), none⟩, ⟨(some 13), (.ld false 1 (.tmp 12)), none⟩, ⟨(some 14), (.fldA 2 (.tmp 1)), none⟩, ⟨(some 15), (.ld false 1 (.tmp 14)), none⟩, ⟨(some 16), (.build [(.int .i64 (0)), (.int .i64 (0))] [(0, (1, (.tmp 13))), (1, (1, (.tmp 15)))]), none⟩, ⟨(some 17), (.bsl 91 none 2 [(.tmp 11), (.tmp 16)]), none⟩, ⟨(some 18), (.call (.func 88) [(.tmp 4), (.tmp 5), (.tmp 6), (.tmp 17)]), none⟩, ⟨none, (.st 4 (.tmp 2) (.tmp 18)), none⟩]) .ret)))
theorem ok_couplet_env_Num_Root : compCode Try.prog (Try.f60.body.getD .skip) [] = some (ir_couplet_env_Num_Root, []) := by kernel_rfl
def live_couplet_env_Num_Root : List (List Nat) := []

/-- (couplet/env.Num).Neg -/
def ir_couplet_env_Num_Neg : IR := (.seq (.ops false [⟨(some 1), (.box 36 (.tmp 0)), none⟩, ⟨(some 2), (.alloc 36 [(.int .i64 (0)), (.int .i64 (0)), (.int .i64 (0)), (.bool false)]), none⟩]) (.seq (.ops true [⟨(some 3), (.call (.func 35) [(.c (.int .i64 (0)))]), none⟩, ⟨(some 4), (.ld true 4 (.tmp 1)), none⟩, ⟨(some 5), (.call (.func 45) [(.tmp 3), (.tmp 4)]), none⟩, ⟨none, (.st 4 (.tmp 2) (.tmp 5)), none⟩]) .ret))
theorem ok_couplet_env_Num_Neg : compCode Try.prog (Try.f40.body.getD .skip) [] = some (ir_couplet_env_Num_Neg, []) := by kernel_rfl
def live_couplet_env_Num_Neg : List (List Nat) := []

/-- (couplet/env.Num).Of -/
def ir_couplet_env_Num_Of : IR := (.seq (.ops false [⟨(some 2), (.box 36 (.tmp 0)), none⟩, ⟨(some 4), (.alloc 36 [(.int .i64 (0)), (.int .i64 (0)), (.int .i64 (0)), (.bool false)]), none⟩]) (.seq (.ops false [⟨(some 8), (.mv (.tmp 1)), none⟩, ⟨(some 9), (.call (.func 84) [(.tmp 8)]), none⟩, ⟨(some 7), (.mv (.tmp 9)), none⟩, ⟨(some 10), (.ext (.tmp 7) 0), none⟩, ⟨(some 11), (.ext (.tmp 7) 1), none⟩, ⟨(some 5), (.mv (.tmp 10)), none⟩, ⟨(some 6), (.mv (.tmp 11)), none⟩]) (.seq (.seq (.ops false [⟨(some 12), (.mv (.tmp 6)), none⟩, ⟨(some 13), (.un .not (.tmp 12)), none⟩]) (.cond (.tmp 13) (.seq (.ops false [⟨(some 14), (.call (.func 36) []), none⟩, ⟨none, (.st 4 (.tmp 4) (.tmp 14)), none⟩]) .ret) .skip)) (.seq (.ops false [⟨(some 15), (.mv (.tmp 5)), none⟩, ⟨(some 16), (.call (.func 35) [(.tmp 15)]), none⟩, ⟨none, (.st 4 (.tmp 4) (.tmp 16)), none⟩]) .ret))))
theorem ok_couplet_env_Num_Of : compCode Try.prog (Try.f37.body.getD .skip) [] = some (ir_couplet_env_Num_Of, []) := by kernel_rfl
def live_couplet_env_Num_Of : List (List Nat) := []

/-- (couplet/env.Num).Sign -/
def ir_couplet_env_Num_Sign : IR := (.seq (.ops false [⟨(some 1), (.box 36 (.tmp 0)), none⟩, ⟨(some 2), (.mv (.c (.int .i64 (0)))), none⟩]) (.seq (.block 0 (.seq (.ops false [⟨(some 4), (.fldA 3 (.tmp 1)), none⟩, ⟨(some 5), (.ld false 1 (.tmp 4)), none⟩, ⟨(some 6), (.mv (.tmp 5)), none⟩, ⟨(some 7), (.fldA 0 (.tmp 1)), (some (6, false))⟩, ⟨(some 8), (.ld false 1 (.tmp 7)), (some (6, false))⟩, ⟨(some 9), (.bin .eql (.tmp 8) (.c (.int .i64 (0)))), (some (6, false))⟩, ⟨(some 10), (.pick (.tmp 6) (.c (.bool true)) (.tmp 9)), none⟩, ⟨(some 3), (.mv (.tmp 10)), none⟩]) (.cond (.tmp 3) (.seq (.ops false [⟨(some 2), (.mv (.c (.int .i64 (0)))), none⟩]) .ret) (.seq (.ops false [⟨(some 12), (.fldA 0 (.tmp 1)), none⟩, ⟨(some 13), (.ld false 1 (.tmp 12)), none⟩, ⟨(some 14), (.bin .lss (.tmp 13) (.c (.int .i64 (0)))), none⟩, ⟨(some 11), (.mv (.tmp 14)), none⟩]) (.cond (.tmp 11) (.seq (.ops false [⟨(some 2), (.mv (.c (.int .i64 (-1)))), none⟩]) .ret) .skip))))) (.seq (.ops false [⟨(some 2), (.mv (.c (.int .i64 (1)))), none⟩]) .ret)))
theorem ok_couplet_env_Num_Sign : compCode Try.prog (Try.f38.body.getD .skip) [] = some (ir_couplet_env_Num_Sign, []) := by kernel_rfl
def live_couplet_env_Num_Sign : List (List Nat) := []

/-- couplet/coupletlaw03.Given -/
def ir_coupletlaw03_Given : IR := (.seq (.ops false [⟨(some 1), (.box 36 (.tmp 0)), none⟩, ⟨(some 2), (.alloc 40 [(.int .i64 (0)), (.int .i64 (0)), (.int .i64 (0)), (.bool false)]), none⟩]) (.seq (.ops false [⟨(some 3), (.fldA 0 (.tmp 1)), none⟩, ⟨(some 4), (.ld false 1 (.tmp 3)), none⟩, ⟨(some 5), (.fldA 1 (.tmp 1)), none⟩, ⟨(some 6), (.ld false 1 (.tmp 5)), none⟩, ⟨(some 7), (.fldA 2 (.tmp 1)), none⟩, ⟨(some 8), (.ld false 1 (.tmp 7)), none⟩, ⟨(some 9), (.fldA 3 (.tmp 1)), none⟩, ⟨(some 10), (.ld false 1 (.tmp 9)), none⟩, ⟨(some 11), (.build [(.int .i64 (0)), (.int .i64 (0)), (.int .i64 (0)), (.bool false)] [(0, (1, (.tmp 4))), (1, (1, (.tmp 6))), (2, (1, (.tmp 8))), (3, (1, (.tmp 10)))]), none⟩, ⟨none, (.st 4 (.tmp 2) (.tmp 11)), none⟩]) .ret))
theorem ok_coupletlaw03_Given : compCode Try.prog (Try.f39.body.getD .skip) [] = some (ir_coupletlaw03_Given, []) := by kernel_rfl
def live_coupletlaw03_Given : List (List Nat) := []

/-- couplet/env.Meet -/
def ir_env_Meet : IR := (.seq (.ops false [⟨(some 2), (.box 36 (.tmp 0)), none⟩, ⟨(some 3), (.box 36 (.tmp 1)), none⟩, ⟨(some 4), (.mv (.c (.bool false))), none⟩]) (.seq (.ops false [⟨(some 5), (.fldA 3 (.tmp 2)), none⟩, ⟨(some 6), (.ld false 1 (.tmp 5)), none⟩, ⟨(some 7), (.un .not (.tmp 6)), none⟩, ⟨(some 8), (.mv (.tmp 7)), none⟩, ⟨(some 9), (.fldA 3 (.tmp 3)), (some (8, true))⟩, ⟨(some 10), (.ld false 1 (.tmp 9)), (some (8, true))⟩, ⟨(some 11), (.un .not (.tmp 10)), (some (8, true))⟩, ⟨(some 12), (.pick (.tmp 8) (.tmp 11) (.c (.bool false))), none⟩, ⟨(some 13), (.mv (.tmp 12)), none⟩, ⟨(some 14), (.fldA 1 (.tmp 2)), (some (13, true))⟩, ⟨(some 15), (.ld false 1 (.tmp 14)), (some (13, true))⟩, ⟨(some 16), (.fldA 1 (.tmp 3)), (some (13, true))⟩, ⟨(some 17), (.ld false 1 (.tmp 16)), (some (13, true))⟩, ⟨(some 18), (.maxs [(.tmp 15), (.tmp 17)]), (some (13, true))⟩, ⟨(some 19), (.fldA 2 (.tmp 2)), (some (13, true))⟩, ⟨(some 20), (.ld false 1 (.tmp 19)), (some (13, true))⟩, ⟨(some 21), (.fldA 2 (.tmp 3)), (some (13, true))⟩, ⟨(some 22), (.ld false 1 (.tmp 21)), (some (13, true))⟩, ⟨(some 23), (.mins [(.tmp 20), (.tmp 22)]), (some (13, true))⟩, ⟨(some 24), (.bin .leq (.tmp 18) (.tmp 23)), (some (13, true))⟩, ⟨(some 25), (.pick (.tmp 13) (.tmp 24) (.c (.bool false))), none⟩, ⟨(some 4), (.mv (.tmp 25)), none⟩]) .ret))
theorem ok_env_Meet : compCode Try.prog (Try.f48.body.getD .skip) [] = some (ir_env_Meet, []) := by kernel_rfl
def live_env_Meet : List (List Nat) := []


theorem Nm.flat (x : Nm) : x.pv.flat = true := rfl
def i64N (x : Nm) : Prop := i64 x.v ∧ i64 x.lo ∧ i64 x.hi

theorem fn_Add1 (G : Glob) (x y m : Int) : FunEq Try.prog G 86 [.int .i64 x, .int .i64 y, .int .i64 m] (.tup [.int .i64 (fAdd x y).1, .bool (fAdd x y).2]) := by
  have c1 := fn_fx_Add G x y
  generalize fAdd x y = r at *
  refine fun_of_vc live_couplet_env_Num_Add_1 Try.func86 rfl (by kernel_rfl) ok_couplet_env_Num_Add_1 (by kernel_rfl) Try.ntmps86 (run_of ?_)
  simp only [run_seq, run_ops, run_opsNil, run_ret, run_op0, Ins.kind, IOp.apps, List.any_cons, List.any_nil, pev, Ins.calm, Ins.opds, sureL, evS, St.put, List.map, List.length_cons, List.length_nil, List.replicate, List.cons_append, List.nil_append, List.getD_cons_zero, List.getD_cons_succ, List.set_cons_zero, List.set_cons_succ, SV.res, SV.strip, SV.sure, if_true, Bool.false_eq_true, if_false, true_and, Nat.reduceSub, Nat.zero_add, Nat.reduceAdd, cond_false, Bool.and_self, Bool.true_and, Nat.reduceBEq, Bool.or_self, and_self, ir_couplet_env_Num_Add_1, Try.results86]
  refine run_call c1 _ rfl (by exact ⟨trivial, trivial, trivial⟩) rfl rfl rfl trivial trivial ?_
  simp only [run_opsNil, run_ret, run_op0, pev, Ins.calm, Ins.opds, sureL, evS, St.put, List.length_cons, List.length_nil, List.nil_append, List.append_nil, List.getD_cons_zero, List.getD_cons_succ, List.set_cons_zero, List.set_cons_succ, SV.res, SV.strip, SV.sure, if_true, true_and, Nat.zero_add, Nat.reduceAdd, Bool.and_self, Bool.true_and, Nat.reduceLT, fzL, List.foldl_nil, SV.ids, boxIds, List.flatMap_cons, List.flatMap_nil, PV.flat, PV.flatL, and_self, List.getD_nil]
  simp only [List.append_nil, List.getD_cons_zero, List.getD_cons_succ, SV.res, Bool.and_self, Option.map_some, fzL, List.foldl_nil, SV.ids, List.flatMap_cons, List.flatMap_nil, SV.pvS, SV.pvSL, and_self, resK, resSV, oneSV]

theorem fn_Sub1 (G : Glob) (x y m : Int) : FunEq Try.prog G 91 [.int .i64 x, .int .i64 y, .int .i64 m] (.tup [.int .i64 (fSub x y).1, .bool (fSub x y).2]) := by
  have c1 := fn_fx_Sub G x y
  generalize fSub x y = r at *
  refine fun_of_vc live_couplet_env_Num_Sub_1 Try.func91 rfl (by kernel_rfl) ok_couplet_env_Num_Sub_1 (by kernel_rfl) Try.ntmps91 (run_of ?_)
  simp only [run_seq, run_ops, run_opsNil, run_ret, run_op0, Ins.kind, IOp.apps, List.any_cons, List.any_nil, pev, Ins.calm, Ins.opds, sureL, evS, St.put, List.map, List.length_cons, List.length_nil, List.replicate, List.cons_append, List.nil_append, List.getD_cons_zero, List.getD_cons_succ, List.set_cons_zero, List.set_cons_succ, SV.res, SV.strip, SV.sure, if_true, Bool.false_eq_true, if_false, true_and, Nat.reduceSub, Nat.zero_add, Nat.reduceAdd, cond_false, Bool.and_self, Bool.true_and, Nat.reduceBEq, Bool.or_self, and_self, ir_couplet_env_Num_Sub_1, Try.results91]
  refine run_call c1 _ rfl (by exact ⟨trivial, trivial, trivial⟩) rfl rfl rfl trivial trivial ?_
  simp only [run_opsNil, run_ret, run_op0, pev, Ins.calm, Ins.opds, sureL, evS, St.put, List.length_cons, List.length_nil, List.nil_append, List.append_nil, List.getD_cons_zero, List.getD_cons_succ, List.set_cons_zero, List.set_cons_succ, SV.res, SV.strip, SV.sure, if_true, true_and, Nat.zero_add, Nat.reduceAdd, Bool.and_self, Bool.true_and, Nat.reduceLT, fzL, List.foldl_nil, SV.ids, boxIds, List.flatMap_cons, List.flatMap_nil, PV.flat, PV.flatL, and_self, List.getD_nil]
  simp only [List.append_nil, List.getD_cons_zero, List.getD_cons_succ, SV.res, Bool.and_self, Option.map_some, fzL, List.foldl_nil, SV.ids, List.flatMap_cons, List.flatMap_nil, SV.pvS, SV.pvSL, and_self, resK, resSV, oneSV]

/-- A whole root, rounded down, of a number of units (of what is not below 0, and 0 otherwise). -/
noncomputable def isq (a : Int) : Nat := (exists_root (a.natAbs * 16777216)).choose
theorem isq_le (a : Int) : isq a * isq a ≤ a.natAbs * 16777216 := (exists_root (a.natAbs * 16777216)).choose_spec.1
theorem isq_lt (a : Int) : a.natAbs * 16777216 < (isq a + 1) * (isq a + 1) := (exists_root (a.natAbs * 16777216)).choose_spec.2
noncomputable def fRt (a m : Int) : Int × Bool := fRoot a m (isq a)

theorem fn_Root1 (G : Glob) (x y m : Int) (hx : i64 x) (hm : i64 m) : FunEq Try.prog G 102 [.int .i64 x, .int .i64 y, .int .i64 m] (.tup [.int .i64 (fRt x m).1, .bool (fRt x m).2]) := by
  have c1 := fn_fx_Root G x m (isq x) hx hm (isq_le x) (isq_lt x)
  unfold fRt
  generalize fRoot x m (isq x) = r at *
  refine fun_of_vc live_couplet_env_Num_Root_1 Try.func102 rfl (by kernel_rfl) ok_couplet_env_Num_Root_1 (by kernel_rfl) Try.ntmps102 (run_of ?_)
  simp only [run_seq, run_ops, run_opsNil, run_ret, run_op0, Ins.kind, IOp.apps, List.any_cons, List.any_nil, pev, Ins.calm, Ins.opds, sureL, evS, St.put, List.map, List.length_cons, List.length_nil, List.replicate, List.cons_append, List.nil_append, List.getD_cons_zero, List.getD_cons_succ, List.set_cons_zero, List.set_cons_succ, SV.res, SV.strip, SV.sure, if_true, Bool.false_eq_true, if_false, true_and, Nat.reduceSub, Nat.zero_add, Nat.reduceAdd, cond_false, Bool.and_self, Bool.true_and, Nat.reduceBEq, Bool.or_self, and_self, ir_couplet_env_Num_Root_1, Try.results102]
  refine run_call c1 _ rfl (by exact ⟨trivial, trivial, trivial⟩) rfl rfl rfl trivial trivial ?_
  simp only [run_opsNil, run_ret, run_op0, pev, Ins.calm, Ins.opds, sureL, evS, St.put, List.length_cons, List.length_nil, List.nil_append, List.append_nil, List.getD_cons_zero, List.getD_cons_succ, List.set_cons_zero, List.set_cons_succ, SV.res, SV.strip, SV.sure, if_true, true_and, Nat.zero_add, Nat.reduceAdd, Bool.and_self, Bool.true_and, Nat.reduceLT, fzL, List.foldl_nil, SV.ids, boxIds, List.flatMap_cons, List.flatMap_nil, PV.flat, PV.flatL, and_self, List.getD_nil]
  simp only [List.append_nil, List.getD_cons_zero, List.getD_cons_succ, SV.res, Bool.and_self, Option.map_some, fzL, List.foldl_nil, SV.ids, List.flatMap_cons, List.flatMap_nil, SV.pvS, SV.pvSL, and_self, resK, resSV, oneSV]

def nAdd (a b : Nm) : Nm := made (fun x y _ => fAdd x y) a b [(a.lo, b.lo), (a.hi, b.hi)]
def nSub (a b : Nm) : Nm := made (fun x y _ => fSub x y) a b [(a.lo, b.hi), (a.hi, b.lo)]
def pairs4 (a b : Nm) : List (Int × Int) := [(a.lo, b.lo), (a.lo, b.hi), (a.hi, b.lo), (a.hi, b.hi)]
def nMul (a b : Nm) : Nm := made fMul a b (pairs4 a b)
def nDiv (a b : Nm) : Nm := if b.lo ≤ 0 ∧ 0 ≤ b.hi then wrong else made fDiv a b (pairs4 a b)
noncomputable def nRoot (a : Nm) : Nm := made (fun x _ m => fRt x m) a a [(a.lo, a.lo), (a.hi, a.hi)]

theorem fn_Num_Add (G : Glob) (a b : Nm) (ha : i64N a) (hb : i64N b) : FunEq Try.prog G 43 [a.pv, b.pv] (nAdd a b).pv := by
  have c1 := fn_made G 86 (fun x y _ => fAdd x y) a b false true [(a.lo, b.lo), (a.hi, b.hi)] (by simp) (by simp) (by intro p hp; simp at hp; rcases hp with rfl | rfl; exact ⟨ha.2.1, hb.2.1⟩; exact ⟨ha.2.2, hb.2.2⟩) ha.1 hb.1 (fun x y m _ _ _ _ => fn_Add1 G x y m)
  have hr : made (fun x y _ => fAdd x y) a b [(a.lo, b.lo), (a.hi, b.hi)] = nAdd a b := rfl
  rw [hr] at c1
  generalize nAdd a b = r at *
  refine fun_of_vc live_couplet_env_Num_Add Try.func43 rfl (by kernel_rfl) ok_couplet_env_Num_Add (by kernel_rfl) Try.ntmps43 (run_of ?_)
  simp only [run_seq, run_ops, run_opsNil, run_ret, run_op0, run_box, run_alloc, run_st, run_bsl, runB, okB, Ins.kind, IOp.apps, List.any_cons, List.any_nil, pev, Ins.calm, Ins.opds, sureL, evS, St.put, List.map, List.map_cons, List.length_cons, List.length_nil, List.replicate, List.cons_append, List.nil_append, List.append_nil, List.getD_cons_zero, List.getD_cons_succ, List.set_cons_zero, List.set_cons_succ, SV.res, SV.strip, SV.sure, SV.cells, PV.cells, SV.scal, PV.scal, SV.ld, if_true, Bool.false_eq_true, if_false, true_and, and_true, Nat.reduceSub, Nat.zero_add, Nat.reduceAdd, cond_true, cond_false, List.all_cons, Bool.and_self, Bool.and_true, Bool.true_and, Nat.reduceLeDiff, List.take, List.drop, Nat.reduceBEq, Bool.or_false, Bool.or_true, Bool.or_self, Option.map_some, fzL, List.foldl_nil, SV.ids, List.flatMap_cons, List.flatMap_nil, SV.pvS, SV.pvSL, spliceL, beq_self_eq_true, Nat.reduceEqDiff, List.all, and_self, fillL, aggS, allP, ir_couplet_env_Num_Add, Try.results43, Nm.pv]
  refine run_call c1 _ rfl (by exact ⟨trivial, trivial, trivial, trivial, trivial⟩) rfl rfl rfl trivial trivial ?_
  simp only [run_opsNil, run_ret, run_op0, run_st, pev, Ins.calm, Ins.opds, sureL, evS, St.put, List.map, List.map_cons, List.length_cons, List.length_nil, List.nil_append, List.append_nil, List.getD_cons_zero, List.getD_cons_succ, List.set_cons_zero, List.set_cons_succ, SV.res, SV.strip, SV.sure, SV.cells, PV.cells, SV.scal, PV.scal, if_true, Bool.false_eq_true, if_false, true_and, Nat.zero_add, Nat.reduceAdd, List.all_cons, Bool.and_self, Bool.true_and, Nat.reduceLeDiff, List.take, List.drop, fzL, fz1, List.foldl_cons, List.foldl_nil, SV.ids, boxIds, List.flatMap_cons, List.flatMap_nil, PV.flat, PV.flatL, spliceL, List.all, and_self, Nm.pv]
  simp only [List.length_cons, List.length_nil, List.append_nil, List.getD_cons_zero, List.getD_cons_succ, SV.res, SV.ld, if_true, Nat.zero_add, Nat.reduceAdd, Bool.and_self, Nat.reduceLeDiff, List.take, List.drop, Option.map_some, fzL, List.foldl_nil, SV.ids, List.flatMap_cons, List.flatMap_nil, SV.pvS, and_self, aggS, allP, resK, resSV, oneSV, cells36, agg36]

theorem fn_Num_Sub (G : Glob) (a b : Nm) (ha : i64N a) (hb : i64N b) : FunEq Try.prog G 45 [a.pv, b.pv] (nSub a b).pv := by
  have c1 := fn_made G 91 (fun x y _ => fSub x y) a b false true [(a.lo, b.hi), (a.hi, b.lo)] (by simp) (by simp) (by intro p hp; simp at hp; rcases hp with rfl | rfl; exact ⟨ha.2.1, hb.2.2⟩; exact ⟨ha.2.2, hb.2.1⟩) ha.1 hb.1 (fun x y m _ _ _ _ => fn_Sub1 G x y m)
  have hr : made (fun x y _ => fSub x y) a b [(a.lo, b.hi), (a.hi, b.lo)] = nSub a b := rfl
  rw [hr] at c1
  generalize nSub a b = r at *
  refine fun_of_vc live_couplet_env_Num_Sub Try.func45 rfl (by kernel_rfl) ok_couplet_env_Num_Sub (by kernel_rfl) Try.ntmps45 (run_of ?_)
  simp only [run_seq, run_ops, run_opsNil, run_ret, run_op0, run_box, run_alloc, run_st, run_bsl, runB, okB, Ins.kind, IOp.apps, List.any_cons, List.any_nil, pev, Ins.calm, Ins.opds, sureL, evS, St.put, List.map, List.map_cons, List.length_cons, List.length_nil, List.replicate, List.cons_append, List.nil_append, List.append_nil, List.getD_cons_zero, List.getD_cons_succ, List.set_cons_zero, List.set_cons_succ, SV.res, SV.strip, SV.sure, SV.cells, PV.cells, SV.scal, PV.scal, SV.ld, if_true, Bool.false_eq_true, if_false, true_and, and_true, Nat.reduceSub, Nat.zero_add, Nat.reduceAdd, cond_true, cond_false, List.all_cons, Bool.and_self, Bool.and_true, Bool.true_and, Nat.reduceLeDiff, List.take, List.drop, Nat.reduceBEq, Bool.or_false, Bool.or_true, Bool.or_self, Option.map_some, fzL, List.foldl_nil, SV.ids, List.flatMap_cons, List.flatMap_nil, SV.pvS, SV.pvSL, spliceL, beq_self_eq_true, Nat.reduceEqDiff, List.all, and_self, fillL, aggS, allP, ir_couplet_env_Num_Sub, Try.results45, Nm.pv]
  refine run_call c1 _ rfl (by exact ⟨trivial, trivial, trivial, trivial, trivial⟩) rfl rfl rfl trivial trivial ?_
  simp only [run_opsNil, run_ret, run_op0, run_st, pev, Ins.calm, Ins.opds, sureL, evS, St.put, List.map, List.map_cons, List.length_cons, List.length_nil, List.nil_append, List.append_nil, List.getD_cons_zero, List.getD_cons_succ, List.set_cons_zero, List.set_cons_succ, SV.res, SV.strip, SV.sure, SV.cells, PV.cells, SV.scal, PV.scal, if_true, Bool.false_eq_true, if_false, true_and, Nat.zero_add, Nat.reduceAdd, List.all_cons, Bool.and_self, Bool.true_and, Nat.reduceLeDiff, List.take, List.drop, fzL, fz1, List.foldl_cons, List.foldl_nil, SV.ids, boxIds, List.flatMap_cons, List.flatMap_nil, PV.flat, PV.flatL, spliceL, List.all, and_self, Nm.pv]
  simp only [List.length_cons, List.length_nil, List.append_nil, List.getD_cons_zero, List.getD_cons_succ, SV.res, SV.ld, if_true, Nat.zero_add, Nat.reduceAdd, Bool.and_self, Nat.reduceLeDiff, List.take, List.drop, Option.map_some, fzL, List.foldl_nil, SV.ids, List.flatMap_cons, List.flatMap_nil, SV.pvS, and_self, aggS, allP, resK, resSV, oneSV, cells36, agg36]

theorem fn_Num_Root (G : Glob) (a : Nm) (ha : i64N a) : FunEq Try.prog G 60 [a.pv] (nRoot a).pv := by
  have c1 := fn_made G 102 (fun x _ m => fRt x m) a a false true [(a.lo, a.lo), (a.hi, a.hi)] (by simp) (by simp) (by intro p hp; simp at hp; rcases hp with rfl | rfl; exact ⟨ha.2.1, ha.2.1⟩; exact ⟨ha.2.2, ha.2.2⟩) ha.1 ha.1 (fun x y m hx _ h0 h2 => fn_Root1 G x y m hx (by unfold i64; omega))
  have hr : made (fun x _ m => fRt x m) a a [(a.lo, a.lo), (a.hi, a.hi)] = nRoot a := rfl
  rw [hr] at c1
  generalize nRoot a = r at *
  refine fun_of_vc live_couplet_env_Num_Root Try.func60 rfl (by kernel_rfl) ok_couplet_env_Num_Root (by kernel_rfl) Try.ntmps60 (run_of ?_)
  simp only [run_seq, run_ops, run_opsNil, run_ret, run_op0, run_box, run_alloc, run_st, run_bsl, runB, okB, Ins.kind, IOp.apps, List.any_cons, List.any_nil, pev, Ins.calm, Ins.opds, sureL, evS, St.put, List.map, List.map_cons, List.length_cons, List.length_nil, List.replicate, List.cons_append, List.nil_append, List.append_nil, List.getD_cons_zero, List.getD_cons_succ, List.set_cons_zero, List.set_cons_succ, SV.res, SV.strip, SV.sure, SV.cells, PV.cells, SV.scal, PV.scal, SV.ld, if_true, Bool.false_eq_true, if_false, true_and, and_true, Nat.reduceSub, Nat.zero_add, Nat.reduceAdd, cond_true, cond_false, List.all_cons, Bool.and_self, Bool.and_true, Bool.true_and, Nat.reduceLeDiff, List.take, List.drop, Nat.reduceBEq, Bool.or_false, Bool.or_true, Bool.or_self, Option.map_some, fzL, List.foldl_nil, SV.ids, List.flatMap_cons, List.flatMap_nil, SV.pvS, SV.pvSL, spliceL, beq_self_eq_true, Nat.reduceEqDiff, List.all, and_self, fillL, aggS, allP, ir_couplet_env_Num_Root, Try.results60, Nm.pv]
  refine run_call c1 _ rfl (by exact ⟨trivial, trivial, trivial, trivial, trivial⟩) rfl rfl rfl trivial trivial ?_
  simp only [run_opsNil, run_ret, run_op0, run_st, pev, Ins.calm, Ins.opds, sureL, evS, St.put, List.map, List.map_cons, List.length_cons, List.length_nil, List.nil_append, List.append_nil, List.getD_cons_zero, List.getD_cons_succ, List.set_cons_zero, List.set_cons_succ, SV.res, SV.strip, SV.sure, SV.cells, PV.cells, SV.scal, PV.scal, if_true, Bool.false_eq_true, if_false, true_and, Nat.zero_add, Nat.reduceAdd, List.all_cons, Bool.and_self, Bool.true_and, Nat.reduceLeDiff, List.take, List.drop, fzL, fz1, List.foldl_cons, List.foldl_nil, SV.ids, boxIds, List.flatMap_cons, List.flatMap_nil, PV.flat, PV.flatL, spliceL, List.all, and_self, Nm.pv]
  simp only [List.length_cons, List.length_nil, List.append_nil, List.getD_cons_zero, List.getD_cons_succ, SV.res, SV.ld, if_true, Nat.zero_add, Nat.reduceAdd, Bool.and_self, Nat.reduceLeDiff, List.take, List.drop, Option.map_some, fzL, List.foldl_nil, SV.ids, List.flatMap_cons, List.flatMap_nil, SV.pvS, and_self, aggS, allP, resK, resSV, oneSV, cells36, agg36]

theorem fn_Num_Mul (G : Glob) (a b : Nm) (ha : i64N a) (hb : i64N b) : FunEq Try.prog G 44 [a.pv, b.pv] (nMul a b).pv := by
  have c0 := fn_all G a b
  have c1 := fn_made G 89 fMul a b false true (pairs4 a b) (by simp [pairs4]) (by simp [pairs4]) (by
    intro p hp; simp [pairs4] at hp; rcases hp with rfl | rfl | rfl | rfl
    exact ⟨ha.2.1, hb.2.1⟩; exact ⟨ha.2.1, hb.2.2⟩; exact ⟨ha.2.2, hb.2.1⟩; exact ⟨ha.2.2, hb.2.2⟩) ha.1 hb.1 (fun x y m hx hy h0 h2 => fn_fx_Mul G x y m hx hy (by unfold i64; omega))
  have hr : made fMul a b (pairs4 a b) = nMul a b := rfl
  rw [hr] at c1
  generalize nMul a b = r at *
  refine fun_of_vc live_couplet_env_Num_Mul Try.func44 rfl (by kernel_rfl) ok_couplet_env_Num_Mul (by kernel_rfl) Try.ntmps44 (run_of ?_)
  simp only [run_seq, run_ops, run_opsNil, run_ret, run_op0, run_box, run_alloc, run_st, Ins.kind, IOp.apps, List.any_cons, List.any_nil, pev, Ins.calm, Ins.opds, sureL, evS, St.put, List.map, List.map_cons, List.length_cons, List.length_nil, List.replicate, List.cons_append, List.nil_append, List.getD_cons_zero, List.getD_cons_succ, List.set_cons_zero, List.set_cons_succ, SV.res, SV.strip, SV.sure, SV.cells, PV.cells, SV.scal, PV.scal, SV.ld, if_true, Bool.false_eq_true, if_false, true_and, and_true, Nat.reduceSub, Nat.zero_add, Nat.reduceAdd, cond_true, cond_false, List.all_cons, Bool.and_self, Bool.and_true, Bool.true_and, Nat.reduceLeDiff, List.take, List.drop, Nat.reduceBEq, Bool.or_false, Bool.or_self, Option.map_some, spliceL, beq_self_eq_true, Nat.reduceEqDiff, List.all, and_self, aggS, allP, ir_couplet_env_Num_Mul, Try.results44, Nm.pv]
  refine run_call c0 _ rfl (by exact ⟨trivial, trivial, trivial⟩) rfl rfl rfl trivial (by first | trivial | rfl) ?_
  simp only [run_opsNil, run_ret, run_op0, run_st, pev, Ins.calm, Ins.opds, sureL, evS, St.put, List.length_cons, List.length_nil, List.cons_append, List.nil_append, List.append_nil, List.getD_cons_zero, List.getD_cons_succ, List.set_cons_zero, List.set_cons_succ, SV.res, SV.strip, SV.sure, SV.cells, SV.scal, PV.scal, Bool.false_eq_true, if_false, true_and, and_true, Nat.zero_add, Nat.reduceAdd, List.all_cons, Bool.and_self, Bool.and_true, Bool.true_and, Nat.reduceLeDiff, List.take, List.drop, fzL, List.foldl_nil, SV.ids, boxIds, List.flatMap_cons, List.flatMap_nil, PV.flat, spliceL, Nat.reduceEqDiff, List.all, and_self]
  refine run_call c1 _ rfl (by exact ⟨trivial, trivial, trivial, trivial, trivial⟩) rfl rfl rfl trivial (by first | trivial | rfl) ?_
  simp only [run_opsNil, run_ret, run_op0, run_st, pev, Ins.calm, Ins.opds, sureL, evS, St.put, List.map, List.map_cons, List.length_cons, List.length_nil, List.nil_append, List.append_nil, List.getD_cons_zero, List.getD_cons_succ, List.set_cons_zero, List.set_cons_succ, SV.res, SV.strip, SV.sure, SV.cells, PV.cells, SV.scal, PV.scal, if_true, Bool.false_eq_true, if_false, true_and, Nat.zero_add, Nat.reduceAdd, List.all_cons, Bool.and_self, Bool.true_and, Nat.reduceLeDiff, List.take, List.drop, fzL, List.foldl_nil, SV.ids, boxIds, List.flatMap_cons, List.flatMap_nil, PV.flat, PV.flatL, spliceL, List.all, and_self, Nm.pv]
  simp only [List.length_cons, List.length_nil, List.append_nil, List.getD_cons_zero, List.getD_cons_succ, SV.res, SV.ld, if_true, Nat.zero_add, Nat.reduceAdd, Bool.and_self, Nat.reduceLeDiff, List.take, List.drop, Option.map_some, fzL, List.foldl_nil, SV.ids, List.flatMap_cons, List.flatMap_nil, SV.pvS, and_self, aggS, allP, resK, resSV, oneSV, cells36, agg36]

theorem fn_Num_Div (G : Glob) (a b : Nm) (ha : i64N a) (hb : i64N b) : FunEq Try.prog G 49 [a.pv, b.pv] (nDiv a b).pv := by
  have c0 := fn_all G a b
  have cw := fn_Wrong G
  have c1 := fn_made G 93 fDiv a b false true (pairs4 a b) (by simp [pairs4]) (by simp [pairs4]) (by
    intro p hp; simp [pairs4] at hp; rcases hp with rfl | rfl | rfl | rfl
    exact ⟨ha.2.1, hb.2.1⟩; exact ⟨ha.2.1, hb.2.2⟩; exact ⟨ha.2.2, hb.2.1⟩; exact ⟨ha.2.2, hb.2.2⟩) ha.1 hb.1 (fun x y m hx hy h0 h2 => fn_fx_Div G x y m hx hy (by unfold i64; omega))
  obtain ⟨r, hr⟩ : ∃ r, r = nDiv a b := ⟨_, rfl⟩
  rw [← hr]
  unfold nDiv at hr
  generalize made fDiv a b (pairs4 a b) = q at *
  refine fun_of_vc live_couplet_env_Num_Div Try.func49 rfl (by kernel_rfl) ok_couplet_env_Num_Div (by kernel_rfl) Try.ntmps49 (run_of ?_)
  simp only [run_seq, run_ops, run_opsNil, run_op0, run_opG, run_cond, run_pick, runP, run_box, run_alloc, Ins.kind, IOp.apps, List.any_cons, List.any_nil, gAct, pev, Ins.calm, Ins.opds, sureL, evS, St.put, List.map, List.map_cons, List.length_cons, List.length_nil, List.replicate, List.cons_append, List.nil_append, List.getD_cons_zero, List.getD_cons_succ, List.set_cons_zero, List.set_cons_succ, SV.res, SV.strip, SV.sure, SV.cells, PV.cells, SV.scal, PV.scal, SV.ld, binV, if_true, Bool.false_eq_true, if_false, SV.mix, true_and, and_true, Nat.reduceSub, Nat.zero_add, Nat.reduceAdd, implies_true, cond_true, cond_false, List.all_cons, Bool.and_self, Bool.and_true, Bool.true_and, Nat.reduceLeDiff, List.take, List.drop, Nat.reduceBEq, Bool.or_false, Bool.or_self, Option.map_some, beq_self_eq_true, List.all, imp_self, and_self, aggS, allP, Bool.cond_false_right, ir_couplet_env_Num_Div, Try.results49, Nm.pv]
  refine runC_of (fun h => ?_) (fun h => ?_)
  · have h1 : b.lo ≤ 0 ∧ 0 ≤ b.hi := by simpa using h
    rw [if_pos h1] at hr
    rw [hr]
    simp only [run_seq, run_ops, run_opsNil, run_ret, run_op0, run_st, Ins.kind, IOp.apps, List.any_cons, List.any_nil, pev, Ins.calm, Ins.opds, sureL, evS, St.put, List.length_cons, List.length_nil, List.cons_append, List.nil_append, List.getD_cons_zero, List.getD_cons_succ, List.set_cons_zero, List.set_cons_succ, SV.res, SV.strip, SV.sure, SV.cells, SV.scal, PV.scal, Bool.false_eq_true, if_false, true_and, and_true, Nat.zero_add, Nat.reduceAdd, cond_false, List.all_cons, Bool.and_self, Bool.and_true, Bool.true_and, Nat.reduceLeDiff, List.take, List.drop, Nat.reduceBEq, Bool.or_self, spliceL, Nat.reduceEqDiff, List.all, and_self]
    refine run_call cw _ rfl (by exact trivial) rfl rfl rfl trivial trivial ?_
    simp only [run_opsNil, run_ret, run_op0, run_st, pev, Ins.calm, Ins.opds, sureL, evS, St.put, List.map, List.map_cons, List.length_cons, List.length_nil, List.nil_append, List.append_nil, List.getD_cons_zero, List.getD_cons_succ, List.set_cons_zero, List.set_cons_succ, SV.res, SV.strip, SV.sure, SV.cells, PV.cells, SV.scal, PV.scal, if_true, Bool.false_eq_true, if_false, true_and, Nat.zero_add, Nat.reduceAdd, List.all_cons, Bool.and_self, Bool.true_and, Nat.reduceLeDiff, List.take, List.drop, fzL, List.foldl_nil, SV.ids, boxIds, List.flatMap_cons, List.flatMap_nil, PV.flat, PV.flatL, spliceL, List.all, and_self, wrong, Nm.pv]
    simp only [List.length_cons, List.length_nil, List.append_nil, List.getD_cons_zero, List.getD_cons_succ, SV.res, SV.ld, if_true, Nat.zero_add, Nat.reduceAdd, Bool.and_self, Nat.reduceLeDiff, List.take, List.drop, Option.map_some, fzL, List.foldl_nil, SV.ids, List.flatMap_cons, List.flatMap_nil, SV.pvS, and_self, aggS, allP, resK, resSV, oneSV, cells36, agg36]
  · have h1 : ¬ (b.lo ≤ 0 ∧ 0 ≤ b.hi) := by simp at h; omega
    rw [if_neg h1] at hr
    rw [hr]
    simp only [run_skip, run_seq, run_ops, run_opsNil, run_ret, run_op0, run_st, Ins.kind, IOp.apps, List.any_cons, List.any_nil, pev, Ins.calm, Ins.opds, sureL, evS, St.put, List.length_cons, List.length_nil, List.cons_append, List.nil_append, List.getD_cons_zero, List.getD_cons_succ, List.set_cons_zero, List.set_cons_succ, SV.res, SV.strip, SV.sure, SV.cells, SV.scal, PV.scal, SV.ld, if_true, Bool.false_eq_true, if_false, true_and, and_true, Nat.zero_add, Nat.reduceAdd, cond_true, cond_false, List.all_cons, Bool.and_self, Bool.and_true, Bool.true_and, Nat.reduceLeDiff, List.take, List.drop, Nat.reduceBEq, Bool.or_self, Option.map_some, spliceL, Nat.reduceEqDiff, List.all, and_self, aggS, allP]
    refine run_call c0 _ rfl (by exact ⟨trivial, trivial, trivial⟩) rfl rfl rfl trivial (by first | trivial | rfl) ?_
    simp only [run_opsNil, run_ret, run_op0, run_st, pev, Ins.calm, Ins.opds, sureL, evS, St.put, List.length_cons, List.length_nil, List.cons_append, List.nil_append, List.append_nil, List.getD_cons_zero, List.getD_cons_succ, List.set_cons_zero, List.set_cons_succ, SV.res, SV.strip, SV.sure, SV.cells, SV.scal, PV.scal, Bool.false_eq_true, if_false, true_and, and_true, Nat.zero_add, Nat.reduceAdd, List.all_cons, Bool.and_self, Bool.and_true, Bool.true_and, Nat.reduceLeDiff, List.take, List.drop, fzL, List.foldl_nil, SV.ids, boxIds, List.flatMap_cons, List.flatMap_nil, PV.flat, spliceL, Nat.reduceEqDiff, List.all, and_self]
    refine run_call c1 _ rfl (by exact ⟨trivial, trivial, trivial, trivial, trivial⟩) rfl rfl rfl trivial (by first | trivial | rfl) ?_
    simp only [run_opsNil, run_ret, run_op0, run_st, pev, Ins.calm, Ins.opds, sureL, evS, St.put, List.map, List.map_cons, List.length_cons, List.length_nil, List.nil_append, List.append_nil, List.getD_cons_zero, List.getD_cons_succ, List.set_cons_zero, List.set_cons_succ, SV.res, SV.strip, SV.sure, SV.cells, PV.cells, SV.scal, PV.scal, if_true, Bool.false_eq_true, if_false, true_and, Nat.zero_add, Nat.reduceAdd, List.all_cons, Bool.and_self, Bool.true_and, Nat.reduceLeDiff, List.take, List.drop, fzL, List.foldl_nil, SV.ids, boxIds, List.flatMap_cons, List.flatMap_nil, PV.flat, PV.flatL, spliceL, List.all, and_self, Nm.pv]
    simp only [List.length_cons, List.length_nil, List.append_nil, List.getD_cons_zero, List.getD_cons_succ, SV.res, SV.ld, if_true, Nat.zero_add, Nat.reduceAdd, Bool.and_self, Nat.reduceLeDiff, List.take, List.drop, Option.map_some, fzL, List.foldl_nil, SV.ids, List.flatMap_cons, List.flatMap_nil, SV.pvS, and_self, aggS, allP, resK, resSV, oneSV, cells36, agg36]

theorem point_i64 (n : Int) : i64N (point n) := by
  unfold point
  split
  · rename_i h; unfold okF at h; unfold i64N i64; dsimp only; omega
  · unfold i64N i64 wrong; dsimp only; omega

theorem fn_Num_Neg (G : Glob) (a : Nm) (ha : i64N a) : FunEq Try.prog G 40 [a.pv] (nSub (point 0) a).pv := by
  have c0 := fn_Point G 0
  have c1 := fn_Num_Sub G (point 0) a (point_i64 0) ha
  generalize nSub (point 0) a = r at *
  refine fun_of_vc live_couplet_env_Num_Neg Try.func40 rfl (by kernel_rfl) ok_couplet_env_Num_Neg (by kernel_rfl) Try.ntmps40 (run_of ?_)
  simp only [run_seq, run_ops, run_opsNil, run_ret, run_op0, run_box, run_alloc, run_st, Ins.kind, IOp.apps, List.any_cons, List.any_nil, pev, Ins.calm, Ins.opds, sureL, evS, St.put, List.map, List.map_cons, List.length_cons, List.length_nil, List.replicate, List.cons_append, List.nil_append, List.getD_cons_zero, List.getD_cons_succ, List.set_cons_zero, List.set_cons_succ, SV.res, SV.strip, SV.sure, SV.cells, PV.cells, SV.scal, PV.scal, SV.ld, if_true, Bool.false_eq_true, if_false, true_and, and_true, Nat.reduceSub, Nat.zero_add, Nat.reduceAdd, cond_true, cond_false, List.all_cons, Bool.and_self, Bool.and_true, Bool.true_and, Nat.reduceLeDiff, List.take, List.drop, Nat.reduceBEq, Bool.or_false, Bool.or_self, Option.map_some, spliceL, beq_self_eq_true, Nat.reduceEqDiff, List.all, and_self, aggS, allP, ir_couplet_env_Num_Neg, Try.results40, Nm.pv]
  refine run_call c0 _ rfl (by exact ⟨trivial, trivial⟩) rfl rfl rfl trivial (by first | trivial | rfl) ?_
  simp only [run_opsNil, run_ret, run_op0, run_st, pev, Ins.calm, Ins.opds, sureL, evS, St.put, List.length_cons, List.length_nil, List.cons_append, List.nil_append, List.append_nil, List.getD_cons_zero, List.getD_cons_succ, List.set_cons_zero, List.set_cons_succ, SV.res, SV.strip, SV.sure, SV.cells, SV.scal, PV.scal, SV.ld, if_true, Bool.false_eq_true, if_false, true_and, and_true, Nat.zero_add, Nat.reduceAdd, List.all_cons, Bool.and_self, Bool.and_true, Bool.true_and, Nat.reduceLeDiff, List.take, List.drop, Option.map_some, fzL, List.foldl_nil, SV.ids, boxIds, List.flatMap_cons, List.flatMap_nil, PV.flat, PV.flatL, spliceL, Nat.reduceEqDiff, List.all, and_self, aggS, allP, Nm.pv]
  refine run_call c1 _ rfl (by exact ⟨trivial, trivial, trivial⟩) rfl rfl rfl trivial (by first | trivial | rfl) ?_
  simp only [run_opsNil, run_ret, run_op0, run_st, pev, Ins.calm, Ins.opds, sureL, evS, St.put, List.map, List.map_cons, List.length_cons, List.length_nil, List.nil_append, List.append_nil, List.getD_cons_zero, List.getD_cons_succ, List.set_cons_zero, List.set_cons_succ, SV.res, SV.strip, SV.sure, SV.cells, PV.cells, SV.scal, PV.scal, if_true, Bool.false_eq_true, if_false, true_and, Nat.zero_add, Nat.reduceAdd, List.all_cons, Bool.and_self, Bool.true_and, Nat.reduceLeDiff, List.take, List.drop, fzL, List.foldl_nil, SV.ids, boxIds, List.flatMap_cons, List.flatMap_nil, PV.flat, PV.flatL, spliceL, List.all, and_self, Nm.pv]
  simp only [List.length_cons, List.length_nil, List.append_nil, List.getD_cons_zero, List.getD_cons_succ, SV.res, SV.ld, if_true, Nat.zero_add, Nat.reduceAdd, Bool.and_self, Nat.reduceLeDiff, List.take, List.drop, Option.map_some, fzL, List.foldl_nil, SV.ids, List.flatMap_cons, List.flatMap_nil, SV.pvS, and_self, aggS, allP, resK, resSV, oneSV, cells36, agg36]

def nOf (n : Int) : Nm := if (fOf n).2 = true then point (fOf n).1 else wrong

theorem fn_Num_Of (G : Glob) (a : Nm) (n : Int) (hn : i64 n) : FunEq Try.prog G 37 [a.pv, .int .i64 n] (nOf n).pv := by
  have c1 := fn_fx_Of G n hn
  have c2 := fn_Point G (fOf n).1
  have cw := fn_Wrong G
  obtain ⟨r, hr⟩ : ∃ r, r = nOf n := ⟨_, rfl⟩
  rw [← hr]
  unfold nOf at hr
  generalize point (fOf n).1 = q at *
  generalize fOf n = x at *
  obtain ⟨x, is⟩ := x
  refine fun_of_vc live_couplet_env_Num_Of Try.func37 rfl (by kernel_rfl) ok_couplet_env_Num_Of (by kernel_rfl) Try.ntmps37 (run_of ?_)
  simp only [run_seq, run_ops, run_opsNil, run_op0, run_cond, run_box, run_alloc, Ins.kind, IOp.apps, List.any_cons, List.any_nil, pev, Ins.calm, Ins.opds, sureL, evS, St.put, List.map, List.map_cons, List.length_cons, List.length_nil, List.replicate, List.cons_append, List.nil_append, List.getD_cons_zero, List.getD_cons_succ, List.set_cons_zero, List.set_cons_succ, SV.res, SV.strip, SV.sure, SV.cells, PV.cells, SV.scal, PV.scal, if_true, Bool.false_eq_true, if_false, true_and, Nat.reduceSub, Nat.zero_add, Nat.reduceAdd, cond_true, cond_false, List.all_cons, Bool.and_self, Bool.true_and, Nat.reduceBEq, Bool.or_false, Bool.or_self, beq_self_eq_true, List.all, and_self, ir_couplet_env_Num_Of, Try.results37, Nm.pv]
  refine run_call c1 _ rfl (by exact ⟨trivial, trivial⟩) rfl rfl rfl trivial trivial ?_
  cases is
  · rw [if_neg (by simp)] at hr
    rw [hr]
    simp only [run_seq, run_ops, run_opsNil, run_ret, run_op0, run_cond, runC_true, run_st, Ins.kind, IOp.apps, List.any_cons, List.any_nil, pev, Ins.calm, Ins.opds, sureL, evS, St.put, List.length_cons, List.length_nil, List.cons_append, List.nil_append, List.append_nil, List.getD_cons_zero, List.getD_cons_succ, List.set_cons_zero, List.set_cons_succ, SV.res, SV.strip, SV.sure, SV.cells, SV.scal, PV.scal, if_true, Bool.false_eq_true, if_false, true_and, and_true, Nat.zero_add, Nat.reduceAdd, cond_false, List.all_cons, Bool.and_self, Bool.and_true, Bool.true_and, Nat.reduceLeDiff, Nat.reduceLT, List.take, List.drop, Nat.reduceBEq, Bool.or_self, fzL, List.foldl_nil, SV.ids, boxIds, List.flatMap_cons, List.flatMap_nil, PV.flat, PV.flatL, spliceL, Nat.reduceEqDiff, Bool.not_false, List.all, and_self]
    refine run_call cw _ rfl (by exact trivial) rfl rfl rfl trivial trivial ?_
    simp only [run_opsNil, run_ret, run_op0, run_st, pev, Ins.calm, Ins.opds, sureL, evS, St.put, List.map, List.map_cons, List.length_cons, List.length_nil, List.nil_append, List.append_nil, List.getD_cons_zero, List.getD_cons_succ, List.set_cons_zero, List.set_cons_succ, SV.res, SV.strip, SV.sure, SV.cells, PV.cells, SV.scal, PV.scal, if_true, Bool.false_eq_true, if_false, true_and, Nat.zero_add, Nat.reduceAdd, List.all_cons, Bool.and_self, Bool.true_and, Nat.reduceLeDiff, List.take, List.drop, fzL, List.foldl_nil, SV.ids, boxIds, List.flatMap_cons, List.flatMap_nil, PV.flat, PV.flatL, spliceL, List.all, and_self, wrong, Nm.pv]
    simp only [List.length_cons, List.length_nil, List.append_nil, List.getD_cons_zero, List.getD_cons_succ, SV.res, SV.ld, if_true, Nat.zero_add, Nat.reduceAdd, Bool.and_self, Nat.reduceLeDiff, List.take, List.drop, Option.map_some, fzL, List.foldl_nil, SV.ids, List.flatMap_cons, List.flatMap_nil, SV.pvS, and_self, aggS, allP, resK, resSV, oneSV, cells36, agg36]
  · rw [if_pos rfl] at hr
    rw [hr]
    simp only [run_skip, run_seq, run_ops, run_opsNil, run_ret, run_op0, run_cond, runC_false, run_st, Ins.kind, IOp.apps, List.any_cons, List.any_nil, pev, Ins.calm, Ins.opds, sureL, evS, St.put, List.length_cons, List.length_nil, List.cons_append, List.nil_append, List.append_nil, List.getD_cons_zero, List.getD_cons_succ, List.set_cons_zero, List.set_cons_succ, SV.res, SV.strip, SV.sure, SV.cells, SV.scal, PV.scal, if_true, Bool.false_eq_true, if_false, true_and, and_true, Nat.zero_add, Nat.reduceAdd, cond_false, List.all_cons, Bool.and_self, Bool.and_true, Bool.true_and, Nat.reduceLeDiff, Nat.reduceLT, List.take, List.drop, Nat.reduceBEq, Bool.or_self, fzL, List.foldl_nil, SV.ids, boxIds, List.flatMap_cons, List.flatMap_nil, PV.flat, PV.flatL, spliceL, Nat.reduceEqDiff, Bool.not_true, List.all, and_self]
    refine run_call c2 _ rfl (by exact ⟨trivial, trivial⟩) rfl rfl rfl trivial trivial ?_
    simp only [run_opsNil, run_ret, run_op0, run_st, pev, Ins.calm, Ins.opds, sureL, evS, St.put, List.map, List.map_cons, List.length_cons, List.length_nil, List.nil_append, List.append_nil, List.getD_cons_zero, List.getD_cons_succ, List.set_cons_zero, List.set_cons_succ, SV.res, SV.strip, SV.sure, SV.cells, PV.cells, SV.scal, PV.scal, if_true, Bool.false_eq_true, if_false, true_and, Nat.zero_add, Nat.reduceAdd, List.all_cons, Bool.and_self, Bool.true_and, Nat.reduceLeDiff, List.take, List.drop, fzL, List.foldl_nil, SV.ids, boxIds, List.flatMap_cons, List.flatMap_nil, PV.flat, PV.flatL, spliceL, List.all, and_self, Nm.pv]
    simp only [List.length_cons, List.length_nil, List.append_nil, List.getD_cons_zero, List.getD_cons_succ, SV.res, SV.ld, if_true, Nat.zero_add, Nat.reduceAdd, Bool.and_self, Nat.reduceLeDiff, List.take, List.drop, Option.map_some, fzL, List.foldl_nil, SV.ids, List.flatMap_cons, List.flatMap_nil, SV.pvS, and_self, aggS, allP, resK, resSV, oneSV, cells36, agg36]

def nSign (a : Nm) : Int := if a.bad = true ∨ a.v = 0 then 0 else if a.v < 0 then -1 else 1

theorem fn_Num_Sign (G : Glob) (a : Nm) : FunEq Try.prog G 38 [a.pv] (.int .i64 (nSign a)) := by
  obtain ⟨v, lo, hi, bad⟩ := a
  refine fun_of_vc live_couplet_env_Num_Sign Try.func38 rfl (by kernel_rfl) ok_couplet_env_Num_Sign (by kernel_rfl) Try.ntmps38 (run_of ?_)
  simp only [run_seq, run_ops, run_opsNil, run_block, run_op0, run_opG, run_cond, run_pick, runP, run_box, Ins.kind, IOp.apps, List.any_cons, List.any_nil, gAct, pev, Ins.calm, Ins.opds, sureL, evS, St.put, List.map, List.map_cons, List.length_cons, List.length_nil, List.replicate, List.cons_append, List.nil_append, List.getD_cons_zero, List.getD_cons_succ, List.set_cons_zero, List.set_cons_succ, SV.res, SV.strip, SV.sure, SV.cells, PV.cells, SV.scal, PV.scal, SV.ld, binV, if_true, Bool.false_eq_true, if_false, SV.mix, true_and, and_true, Nat.reduceSub, Nat.zero_add, Nat.add_zero, Nat.reduceAdd, implies_true, cond_true, cond_false, List.all_cons, Bool.and_self, Bool.and_true, Bool.true_and, Nat.reduceLeDiff, List.take, List.drop, Nat.reduceBEq, Bool.or_false, Bool.or_self, Option.map_some, beq_self_eq_true, List.all, Int.reduceNeg, imp_self, Bool.not_eq_true', and_self, aggS, allP, Bool.cond_true_left, ir_couplet_env_Num_Sign, Try.results38, Nm.pv]
  refine runC_of (fun h => ?_) (fun h => ?_)
  · have h1 : bad = true ∨ v = 0 := by simpa using h
    simp only [run_seq, run_ops, run_opsNil, run_ret, run_op0, Ins.kind, IOp.apps, List.any_cons, List.any_nil, pev, Ins.calm, Ins.opds, sureL, evS, St.put, List.set_cons_zero, List.set_cons_succ, SV.strip, SV.sure, if_true, true_and, cond_false, Bool.true_and, Nat.reduceBEq, Bool.or_self]
    simp only [List.append_nil, List.getD_cons_zero, List.getD_cons_succ, SV.res, true_and, Bool.true_and, fzL, List.foldl_nil, SV.ids, List.flatMap_cons, List.flatMap_nil, SV.pvS, resK, resSV, oneSV]
    exact eqInt (if_pos h1).symm
  · have h1 : ¬ (bad = true ∨ v = 0) := by simpa using h
    simp only [run_seq, run_ops, run_opsNil, run_op0, run_cond, Ins.kind, IOp.apps, List.any_cons, List.any_nil, pev, Ins.calm, Ins.opds, sureL, evS, St.put, List.length_cons, List.length_nil, List.getD_cons_zero, List.getD_cons_succ, List.set_cons_zero, List.set_cons_succ, SV.res, SV.strip, SV.sure, SV.ld, binV, if_true, Bool.false_eq_true, if_false, true_and, Nat.zero_add, Nat.add_zero, Nat.reduceAdd, cond_false, Bool.and_self, Bool.true_and, Nat.reduceLeDiff, List.take, List.drop, Nat.reduceBEq, Bool.or_self, Option.map_some, Int.reduceNeg, and_self, aggS, allP]
    refine runC_dec (fun h2 => ?_) (fun h2 => ?_)
    · simp only [run_seq, run_ops, run_opsNil, run_ret, run_op0, Ins.kind, IOp.apps, List.any_cons, List.any_nil, pev, Ins.calm, Ins.opds, sureL, evS, St.put, List.set_cons_zero, List.set_cons_succ, SV.strip, SV.sure, if_true, true_and, cond_false, Bool.true_and, Nat.reduceBEq, Bool.or_self, Int.reduceNeg]
      simp only [List.append_nil, List.getD_cons_zero, List.getD_cons_succ, SV.res, true_and, Bool.true_and, fzL, List.foldl_nil, SV.ids, List.flatMap_cons, List.flatMap_nil, SV.pvS, Int.reduceNeg, resK, resSV, oneSV]
      refine eqInt ?_
      unfold nSign
      rw [if_neg h1, if_pos h2]
    · simp only [run_skip, run_eb, run_seq, run_ops, run_opsNil, run_ret, run_op0, Ins.kind, IOp.apps, List.any_cons, List.any_nil, pev, Ins.calm, Ins.opds, sureL, evS, St.put, List.set_cons_zero, List.set_cons_succ, SV.strip, SV.sure, if_true, true_and, cond_false, Bool.true_and, Nat.reduceBEq, Bool.or_self]
      simp only [List.append_nil, List.getD_cons_zero, List.getD_cons_succ, SV.res, true_and, Bool.true_and, fzL, List.foldl_nil, SV.ids, List.flatMap_cons, List.flatMap_nil, SV.pvS, resK, resSV, oneSV]
      refine eqInt ?_
      unfold nSign
      rw [if_neg h1, if_neg h2]

theorem cells40 : Try.prog.cellsOf 40 = 4 := by kernel_rfl
theorem agg40 : isAggT Try.prog 40 = true := by kernel_rfl

theorem fn_Given (G : Glob) (a : Nm) : FunEq Try.prog G 39 [a.pv] a.pv := by
  refine fun_of_vc live_coupletlaw03_Given Try.func39 rfl (by kernel_rfl) ok_coupletlaw03_Given (by kernel_rfl) Try.ntmps39 (run_of ?_)
  simp only [run_seq, run_ops, run_opsNil, run_ret, run_op0, run_box, run_alloc, run_st, Ins.kind, IOp.apps, List.any_cons, List.any_nil, pev, Ins.calm, Ins.opds, sureL, evS, St.put, List.map, List.map_cons, List.length_cons, List.length_nil, List.replicate, List.cons_append, List.nil_append, List.append_nil, List.getD_cons_zero, List.getD_cons_succ, List.set_cons_zero, List.set_cons_succ, SV.res, SV.strip, SV.sure, SV.cells, PV.cells, SV.scal, PV.scal, SV.ld, if_true, Bool.false_eq_true, if_false, true_and, and_true, Nat.reduceSub, Nat.zero_add, Nat.add_zero, Nat.reduceAdd, cond_true, cond_false, List.all_cons, Bool.and_self, Bool.and_true, Bool.true_and, Nat.reduceLeDiff, List.take, List.drop, Nat.reduceBEq, Bool.or_false, Bool.or_self, Option.map_some, spliceL, beq_self_eq_true, Nat.reduceEqDiff, List.all, and_self, fillL, aggS, allP, ir_coupletlaw03_Given, Try.results39, Nm.pv]
  simp only [List.length_cons, List.length_nil, List.append_nil, List.getD_cons_zero, List.getD_cons_succ, SV.res, SV.ld, if_true, Nat.zero_add, Nat.reduceAdd, Bool.and_self, Nat.reduceLeDiff, List.take, List.drop, Option.map_some, fzL, List.foldl_nil, SV.ids, List.flatMap_cons, List.flatMap_nil, SV.pvS, and_self, aggS, allP, resK, resSV, oneSV, cells40, agg40]

def meet (a b : Nm) : Bool := !a.bad && !b.bad && decide (max a.lo b.lo ≤ min a.hi b.hi)
theorem fn_Meet (G : Glob) (a b : Nm) : FunEq Try.prog G 48 [a.pv, b.pv] (.bool (meet a b)) := by
  refine fun_of_vc live_env_Meet Try.func48 rfl (by kernel_rfl) ok_env_Meet (by kernel_rfl) Try.ntmps48 (run_of ?_)
  simp only [run_seq, run_ops, run_opsNil, run_ret, run_op0, run_opG, run_pick, runP, run_box, Ins.kind, IOp.apps, List.any_cons, List.any_nil, gAct, pev, Ins.calm, Ins.opds, sureL, evS, St.put, List.map, List.map_cons, List.length_cons, List.length_nil, List.replicate, List.cons_append, List.nil_append, List.getD_cons_zero, List.getD_cons_succ, List.set_cons_zero, List.set_cons_succ, SV.res, SV.strip, SV.sure, SV.cells, PV.cells, SV.scal, PV.scal, SV.ld, binV, if_true, Bool.false_eq_true, if_false, SV.mix, true_and, and_true, Nat.reduceSub, Nat.zero_add, Nat.reduceAdd, implies_true, cond_true, cond_false, List.all_cons, Bool.and_self, Bool.and_true, Bool.true_and, Nat.reduceLeDiff, List.take, List.drop, Nat.reduceBEq, Bool.or_false, Bool.or_self, Option.map_some, Option.map_none, maxL, minL, beq_self_eq_true, List.all, imp_self, Bool.not_eq_true', Bool.and_eq_true, and_self, aggS, allP, Bool.cond_false_right, ir_env_Meet, Try.results48, Nm.pv]
  simp only [List.append_nil, List.getD_cons_zero, List.getD_cons_succ, SV.res, Bool.and_self, fzL, List.foldl_nil, SV.ids, List.flatMap_cons, List.flatMap_nil, SV.pvS, and_self, resK, resSV, oneSV, meet]
end Go.Proofs
