import Derived.Test.YtbfhholefjngpaaFxRun
import Derived.Laws.Bits64
import Derived.Test.YtbfhholefjngpaaWC1
import Derived.Test.YtbfhholefjngpaaWBitrow
import Derived.Test.YtbfhholefjngpaaWC5
set_option linter.unusedSimpArgs false
set_option linter.unusedVariables false
set_option maxRecDepth 100000
namespace Go.Proofs
open Go Go.Fx Go.Bitrow Go.Mdlaw
def ir_coupletref01_Right : IR := (.seq (.ops false [⟨(some 2), (.mv (.c (.bool false))), none⟩]) (.seq (.ops false [⟨(some 3), (.mv (.tmp 0)), none⟩, ⟨(some 4), (.bin .geq (.tmp 3) (.c (.int .i64 (-4611686018427387903)))), none⟩, ⟨(some 5), (.mv (.tmp 4)), none⟩, ⟨(some 6), (.mv (.tmp 0)), (some (5, true))⟩, ⟨(some 7), (.bin .leq (.tmp 6) (.c (.int .i64 (4611686018427387903)))), (some (5, true))⟩, ⟨(some 8), (.pick (.tmp 5) (.tmp 7) (.c (.bool false))), none⟩, ⟨(some 2), (.mv (.tmp 8)), none⟩]) .ret))
theorem ok_coupletref01_Right : compCode Try.prog (Try.f27.body.getD .skip) [] = some (ir_coupletref01_Right, []) := by kernel_rfl
def live_coupletref01_Right : List (List Nat) := []
def ir_coupletref01_size : IR := (.seq (.ops false [⟨(some 2), (.mv (.c (.int .i64 (0)))), none⟩]) (.seq (.seq (.ops false [⟨(some 3), (.mv (.tmp 0)), none⟩, ⟨(some 4), (.bin .lss (.tmp 3) (.c (.int .i64 (0)))), none⟩]) (.cond (.tmp 4) (.seq (.ops false [⟨(some 5), (.mv (.tmp 0)), none⟩, ⟨(some 6), (.bin .sub (.c (.int .i64 (0))) (.tmp 5)), none⟩, ⟨(some 2), (.mv (.tmp 6)), none⟩]) .ret) .skip)) (.seq (.ops false [⟨(some 7), (.mv (.tmp 0)), none⟩, ⟨(some 2), (.mv (.tmp 7)), none⟩]) .ret)))
theorem ok_coupletref01_size : compCode Try.prog (Try.f75.body.getD .skip) [] = some (ir_coupletref01_size, []) := by kernel_rfl
def live_coupletref01_size : List (List Nat) := []
def ir_coupletref01_Bits : IR := (.seq (.ops false [⟨(some 2), (.mv (.c (.isl true true .i64 []))), none⟩]) (.seq (.ops false [⟨(some 3), (.mv (.c (.isl true true .i64 []))), none⟩]) (.seq (.seq (.ops false [⟨(some 4), (.mv (.c (.int .i64 (0)))), none⟩]) (.block 0 (.loop [0, 3, 4] (.seq (.seq (.ops false [⟨(some 5), (.mv (.tmp 4)), none⟩, ⟨(some 6), (.bin .lss (.tmp 5) (.c (.int .i64 (130)))), none⟩]) (.cond (.tmp 6) .skip (.exit 0))) (.seq (.block 1 (.seq (.ops false [⟨(some 9), (.mv (.tmp 3)), none⟩, ⟨(some 10), (.mv (.tmp 0)), none⟩, ⟨(some 11), (.bin .rem (.tmp 10) (.c (.int .i64 (2)))), none⟩, ⟨(some 12), (.bsl 3 (some .i64) 1 [(.tmp 11)]), none⟩, ⟨(some 13), (.app 3 (some .i64) 1 8 (.tmp 9) (.tmp 12)), none⟩, ⟨(some 3), (.mv (.tmp 13)), none⟩]) (.ops false [⟨(some 14), (.mv (.tmp 0)), none⟩, ⟨(some 15), (.bin .quo (.tmp 14) (.c (.int .i64 (2)))), none⟩, ⟨(some 0), (.mv (.tmp 15)), none⟩]))) (.ops false [⟨(some 7), (.mv (.tmp 4)), none⟩, ⟨(some 8), (.bin .add (.tmp 7) (.c (.int .i64 (1)))), none⟩, ⟨(some 4), (.mv (.tmp 8)), none⟩])))))) (.seq (.ops false [⟨(some 16), (.mv (.tmp 3)), none⟩, ⟨(some 2), (.mv (.tmp 16)), none⟩]) .ret))))
theorem ok_coupletref01_Bits : compCode Try.prog (Try.f76.body.getD .skip) [[0, 3, 4]] = some (ir_coupletref01_Bits, []) := by kernel_rfl
def live_coupletref01_Bits : List (List Nat) := [[0, 3, 4]]
def ir_coupletref01_Up : IR := (.seq (.ops false [⟨(some 4), (.mv (.c (.isl true true .i64 []))), none⟩]) (.seq (.ops false [⟨(some 5), (.mv (.tmp 1)), none⟩, ⟨(some 6), (.bsl 3 (some .i64) 1 [(.tmp 5)]), none⟩, ⟨(some 7), (.mv (.tmp 0)), none⟩, ⟨(some 8), (.slc 1 (.tmp 7) none (some (.c (.int .i64 (129)))) none), none⟩, ⟨(some 9), (.app 3 (some .i64) 1 8 (.tmp 6) (.tmp 8)), none⟩, ⟨(some 4), (.mv (.tmp 9)), none⟩]) .ret))
theorem ok_coupletref01_Up : compCode Try.prog (Try.f77.body.getD .skip) [] = some (ir_coupletref01_Up, []) := by kernel_rfl
def live_coupletref01_Up : List (List Nat) := []
def ir_coupletref01_Sub : IR := (.seq (.ops false [⟨(some 4), (.mv (.c (.isl true true .i64 []))), none⟩]) (.seq (.ops false [⟨(some 5), (.mv (.c (.isl true true .i64 []))), none⟩]) (.seq (.ops false [⟨(some 6), (.mv (.c (.int .i64 (0)))), none⟩]) (.seq (.seq (.ops false [⟨(some 7), (.mv (.c (.int .i64 (0)))), none⟩]) (.block 0 (.loop [0, 1, 5, 6, 7] (.seq (.seq (.ops false [⟨(some 9), (.mv (.tmp 7)), none⟩, ⟨(some 10), (.bin .lss (.tmp 9) (.c (.int .i64 (130)))), none⟩]) (.cond (.tmp 10) .skip (.exit 0))) (.seq (.block 1 (.seq (.ops true [⟨(some 13), (.mv (.tmp 0)), none⟩, ⟨(some 14), (.mv (.tmp 7)), none⟩, ⟨(some 15), (.ixA 1 (.tmp 13) (.tmp 14)), none⟩, ⟨(some 16), (.ld false 1 (.tmp 15)), none⟩, ⟨(some 17), (.mv (.tmp 1)), none⟩, ⟨(some 18), (.mv (.tmp 7)), none⟩, ⟨(some 19), (.ixA 1 (.tmp 17) (.tmp 18)), none⟩, ⟨(some 20), (.ld false 1 (.tmp 19)), none⟩, ⟨(some 21), (.bin .sub (.tmp 16) (.tmp 20)), none⟩, ⟨(some 22), (.mv (.tmp 6)), none⟩, ⟨(some 23), (.bin .sub (.tmp 21) (.tmp 22)), none⟩, ⟨(some 24), (.bin .add (.tmp 23) (.c (.int .i64 (2)))), none⟩, ⟨(some 8), (.mv (.tmp 24)), none⟩]) (.seq (.ops false [⟨(some 25), (.mv (.tmp 5)), none⟩, ⟨(some 26), (.mv (.tmp 8)), none⟩, ⟨(some 27), (.bin .rem (.tmp 26) (.c (.int .i64 (2)))), none⟩, ⟨(some 28), (.bsl 3 (some .i64) 1 [(.tmp 27)]), none⟩, ⟨(some 29), (.app 3 (some .i64) 1 8 (.tmp 25) (.tmp 28)), none⟩, ⟨(some 5), (.mv (.tmp 29)), none⟩]) (.ops false [⟨(some 30), (.mv (.tmp 8)), none⟩, ⟨(some 31), (.bin .quo (.tmp 30) (.c (.int .i64 (2)))), none⟩, ⟨(some 32), (.bin .sub (.c (.int .i64 (1))) (.tmp 31)), none⟩, ⟨(some 6), (.mv (.tmp 32)), none⟩])))) (.ops false [⟨(some 11), (.mv (.tmp 7)), none⟩, ⟨(some 12), (.bin .add (.tmp 11) (.c (.int .i64 (1)))), none⟩, ⟨(some 7), (.mv (.tmp 12)), none⟩])))))) (.seq (.ops false [⟨(some 33), (.mv (.tmp 5)), none⟩, ⟨(some 4), (.mv (.tmp 33)), none⟩]) .ret)))))
theorem ok_coupletref01_Sub : compCode Try.prog (Try.f78.body.getD .skip) [[0, 1, 5, 6, 7]] = some (ir_coupletref01_Sub, []) := by kernel_rfl
def live_coupletref01_Sub : List (List Nat) := [[0, 1, 5, 6, 7]]
def ir_coupletref01_Add : IR := (.seq (.ops false [⟨(some 4), (.mv (.c (.isl true true .i64 []))), none⟩]) (.seq (.ops false [⟨(some 5), (.mv (.c (.isl true true .i64 []))), none⟩]) (.seq (.ops false [⟨(some 6), (.mv (.c (.int .i64 (0)))), none⟩]) (.seq (.seq (.ops false [⟨(some 7), (.mv (.c (.int .i64 (0)))), none⟩]) (.block 0 (.loop [0, 1, 5, 6, 7] (.seq (.seq (.ops false [⟨(some 9), (.mv (.tmp 7)), none⟩, ⟨(some 10), (.bin .lss (.tmp 9) (.c (.int .i64 (130)))), none⟩]) (.cond (.tmp 10) .skip (.exit 0))) (.seq (.block 1 (.seq (.ops true [⟨(some 13), (.mv (.tmp 0)), none⟩, ⟨(some 14), (.mv (.tmp 7)), none⟩, ⟨(some 15), (.ixA 1 (.tmp 13) (.tmp 14)), none⟩, ⟨(some 16), (.ld false 1 (.tmp 15)), none⟩, ⟨(some 17), (.mv (.tmp 1)), none⟩, ⟨(some 18), (.mv (.tmp 7)), none⟩, ⟨(some 19), (.ixA 1 (.tmp 17) (.tmp 18)), none⟩, ⟨(some 20), (.ld false 1 (.tmp 19)), none⟩, ⟨(some 21), (.bin .add (.tmp 16) (.tmp 20)), none⟩, ⟨(some 22), (.mv (.tmp 6)), none⟩, ⟨(some 23), (.bin .add (.tmp 21) (.tmp 22)), none⟩, ⟨(some 8), (.mv (.tmp 23)), none⟩]) (.seq (.ops false [⟨(some 24), (.mv (.tmp 5)), none⟩, ⟨(some 25), (.mv (.tmp 8)), none⟩, ⟨(some 26), (.bin .rem (.tmp 25) (.c (.int .i64 (2)))), none⟩, ⟨(some 27), (.bsl 3 (some .i64) 1 [(.tmp 26)]), none⟩, ⟨(some 28), (.app 3 (some .i64) 1 8 (.tmp 24) (.tmp 27)), none⟩, ⟨(some 5), (.mv (.tmp 28)), none⟩]) (.ops false [⟨(some 29), (.mv (.tmp 8)), none⟩, ⟨(some 30), (.bin .quo (.tmp 29) (.c (.int .i64 (2)))), none⟩, ⟨(some 6), (.mv (.tmp 30)), none⟩])))) (.ops false [⟨(some 11), (.mv (.tmp 7)), none⟩, ⟨(some 12), (.bin .add (.tmp 11) (.c (.int .i64 (1)))), none⟩, ⟨(some 7), (.mv (.tmp 12)), none⟩])))))) (.seq (.ops false [⟨(some 31), (.mv (.tmp 5)), none⟩, ⟨(some 4), (.mv (.tmp 31)), none⟩]) .ret)))))
theorem ok_coupletref01_Add : compCode Try.prog (Try.f79.body.getD .skip) [[0, 1, 5, 6, 7]] = some (ir_coupletref01_Add, []) := by kernel_rfl
def live_coupletref01_Add : List (List Nat) := [[0, 1, 5, 6, 7]]
def ir_coupletref01_Less : IR := (.seq (.ops false [⟨(some 4), (.mv (.c (.bool false))), none⟩]) (.seq (.seq (.ops false [⟨(some 5), (.mv (.c (.int .i64 (129)))), none⟩]) (.block 0 (.loop [0, 1, 5] (.seq (.seq (.ops false [⟨(some 6), (.mv (.tmp 5)), none⟩, ⟨(some 7), (.bin .geq (.tmp 6) (.c (.int .i64 (0)))), none⟩]) (.cond (.tmp 7) .skip (.exit 0))) (.seq (.block 1 (.seq (.ops true [⟨(some 10), (.mv (.tmp 0)), none⟩, ⟨(some 11), (.mv (.tmp 5)), none⟩, ⟨(some 12), (.ixA 1 (.tmp 10) (.tmp 11)), none⟩, ⟨(some 13), (.ld false 1 (.tmp 12)), none⟩, ⟨(some 14), (.mv (.tmp 1)), none⟩, ⟨(some 15), (.mv (.tmp 5)), none⟩, ⟨(some 16), (.ixA 1 (.tmp 14) (.tmp 15)), none⟩, ⟨(some 17), (.ld false 1 (.tmp 16)), none⟩, ⟨(some 18), (.bin .neq (.tmp 13) (.tmp 17)), none⟩]) (.cond (.tmp 18) (.seq (.ops true [⟨(some 19), (.mv (.tmp 0)), none⟩, ⟨(some 20), (.mv (.tmp 5)), none⟩, ⟨(some 21), (.ixA 1 (.tmp 19) (.tmp 20)), none⟩, ⟨(some 22), (.ld false 1 (.tmp 21)), none⟩, ⟨(some 23), (.mv (.tmp 1)), none⟩, ⟨(some 24), (.mv (.tmp 5)), none⟩, ⟨(some 25), (.ixA 1 (.tmp 23) (.tmp 24)), none⟩, ⟨(some 26), (.ld false 1 (.tmp 25)), none⟩, ⟨(some 27), (.bin .lss (.tmp 22) (.tmp 26)), none⟩, ⟨(some 4), (.mv (.tmp 27)), none⟩]) .ret) .skip))) (.ops false [⟨(some 8), (.mv (.tmp 5)), none⟩, ⟨(some 9), (.bin .sub (.tmp 8) (.c (.int .i64 (1)))), none⟩, ⟨(some 5), (.mv (.tmp 9)), none⟩])))))) (.seq (.ops false [⟨(some 4), (.mv (.c (.bool false))), none⟩]) .ret)))
theorem ok_coupletref01_Less : compCode Try.prog (Try.f34.body.getD .skip) [[0, 1, 5]] = some (ir_coupletref01_Less, []) := by kernel_rfl
def live_coupletref01_Less : List (List Nat) := [[0, 1, 5]]
def ir_coupletref01_Number : IR := (.seq (.ops false [⟨(some 2), (.mv (.c (.int .i64 (0)))), none⟩, ⟨(some 3), (.mv (.c (.bool false))), none⟩]) (.seq (.ops false [⟨(some 4), (.mv (.c (.int .i64 (0)))), none⟩]) (.seq (.seq (.ops false [⟨(some 5), (.mv (.c (.int .i64 (129)))), none⟩]) (.block 0 (.loop [0, 4, 5] (.seq (.seq (.ops false [⟨(some 6), (.mv (.tmp 5)), none⟩, ⟨(some 7), (.bin .geq (.tmp 6) (.c (.int .i64 (0)))), none⟩]) (.cond (.tmp 7) .skip (.exit 0))) (.seq (.block 1 (.seq (.seq (.ops false [⟨(some 10), (.mv (.tmp 0)), none⟩, ⟨(some 11), (.mv (.tmp 5)), none⟩, ⟨(some 12), (.ixA 1 (.tmp 10) (.tmp 11)), none⟩, ⟨(some 13), (.ld false 1 (.tmp 12)), none⟩, ⟨(some 14), (.bin .eql (.tmp 13) (.c (.int .i64 (1)))), none⟩, ⟨(some 15), (.mv (.tmp 14)), none⟩, ⟨(some 16), (.mv (.tmp 5)), (some (15, true))⟩, ⟨(some 17), (.bin .geq (.tmp 16) (.c (.int .i64 (62)))), (some (15, true))⟩, ⟨(some 18), (.pick (.tmp 15) (.tmp 17) (.c (.bool false))), none⟩]) (.cond (.tmp 18) (.seq (.ops false [⟨(some 2), (.mv (.c (.int .i64 (0)))), none⟩, ⟨(some 3), (.mv (.c (.bool false))), none⟩]) .ret) .skip)) (.seq (.ops false [⟨(some 19), (.mv (.tmp 5)), none⟩, ⟨(some 20), (.bin .lss (.tmp 19) (.c (.int .i64 (62)))), none⟩]) (.cond (.tmp 20) (.ops false [⟨(some 21), (.mv (.tmp 4)), none⟩, ⟨(some 22), (.bin .mul (.tmp 21) (.c (.int .i64 (2)))), none⟩, ⟨(some 23), (.mv (.tmp 0)), none⟩, ⟨(some 24), (.mv (.tmp 5)), none⟩, ⟨(some 25), (.ixA 1 (.tmp 23) (.tmp 24)), none⟩, ⟨(some 26), (.ld false 1 (.tmp 25)), none⟩, ⟨(some 27), (.bin .add (.tmp 22) (.tmp 26)), none⟩, ⟨(some 4), (.mv (.tmp 27)), none⟩]) .skip)))) (.ops false [⟨(some 8), (.mv (.tmp 5)), none⟩, ⟨(some 9), (.bin .sub (.tmp 8) (.c (.int .i64 (1)))), none⟩, ⟨(some 5), (.mv (.tmp 9)), none⟩])))))) (.seq (.ops false [⟨(some 28), (.mv (.tmp 4)), none⟩, ⟨(some 2), (.mv (.tmp 28)), none⟩, ⟨(some 3), (.mv (.c (.bool true))), none⟩]) .ret))))
theorem ok_coupletref01_Number : compCode Try.prog (Try.f80.body.getD .skip) [[0, 4, 5]] = some (ir_coupletref01_Number, []) := by kernel_rfl
def live_coupletref01_Number : List (List Nat) := [[0, 4, 5]]
theorem fn_ref_Right (G : Glob) (a : Int) : ∃ r : Bool, FunEq Try.prog G 27 [.int .i64 a] (.bool r) ∧ (r = true ↔ okW a) := by
  refine ⟨decide (okW a), ?_, decide_eq_true_iff⟩
  refine fun_of_vc live_coupletref01_Right Try.func27 rfl (by kernel_rfl) ok_coupletref01_Right (by kernel_rfl) Try.ntmps27 (run_of ?_)
  simp only [run_seq, run_ops, run_opsNil, run_ret, run_op0, run_opG, run_pick, runP, Ins.kind, IOp.apps, List.any_cons, List.any_nil, gAct, pev, Ins.calm, Ins.opds, sureL, evS, St.put, List.map, List.length_cons, List.length_nil, List.replicate, List.cons_append, List.nil_append, List.getD_cons_zero, List.getD_cons_succ, List.set_cons_zero, List.set_cons_succ, SV.res, SV.strip, SV.sure, binV, if_true, Bool.false_eq_true, if_false, SV.mix, true_and, and_true, Nat.reduceSub, Nat.zero_add, implies_true, cond_true, cond_false, Bool.and_self, Bool.and_true, Bool.true_and, Nat.reduceBEq, Bool.or_self, Int.reduceNeg, imp_self, and_self, Bool.cond_false_right, ir_coupletref01_Right, Try.results27]
  simp only [List.append_nil, List.getD_cons_zero, List.getD_cons_succ, SV.res, true_and, Bool.true_and, fzL, List.foldl_nil, SV.ids, List.flatMap_cons, List.flatMap_nil, SV.pvS, Int.reduceNeg, resK, resSV, oneSV]
  refine eqBool ?_
  unfold okW
  exact (Bool.decide_and _ _).symm
theorem fn_ref_size (G : Glob) (a : Int) (h : okW a) : FunEq Try.prog G 75 [.int .i64 a] (.int .i64 a.natAbs) := by
  unfold okW at h
  refine fun_of_vc live_coupletref01_size Try.func75 rfl (by kernel_rfl) ok_coupletref01_size (by kernel_rfl) Try.ntmps75 (run_of ?_)
  simp only [run_seq, run_ops, run_opsNil, run_op0, run_cond, Ins.kind, IOp.apps, List.any_cons, List.any_nil, pev, Ins.calm, Ins.opds, sureL, evS, St.put, List.map, List.length_cons, List.length_nil, List.replicate, List.cons_append, List.nil_append, List.getD_cons_zero, List.getD_cons_succ, List.set_cons_zero, List.set_cons_succ, SV.res, SV.strip, SV.sure, binV, if_true, true_and, Nat.reduceSub, Nat.zero_add, cond_false, Bool.and_self, Bool.true_and, Nat.reduceBEq, Bool.or_self, and_self, ir_coupletref01_size, Try.results75]
  refine runC_dec (fun h1 => ?_) (fun h1 => ?_)
  · simp only [run_seq, run_ops, run_opsNil, run_ret, run_op0, Ins.kind, IOp.apps, List.any_cons, List.any_nil, pev, Ins.calm, Ins.opds, sureL, evS, St.put, List.getD_cons_zero, List.getD_cons_succ, List.set_cons_zero, List.set_cons_succ, SV.res, SV.strip, SV.sure, binV, if_true, true_and, cond_false, Bool.and_self, Bool.true_and, Nat.reduceBEq, Bool.or_self, and_self, wrap_i64_id (show i64 (0 - a) by unfold i64; omega)]
    simp only [List.append_nil, List.getD_cons_zero, List.getD_cons_succ, SV.res, true_and, Bool.true_and, fzL, List.foldl_nil, SV.ids, List.flatMap_cons, List.flatMap_nil, SV.pvS, resK, resSV, oneSV]
    refine eqInt (by omega)
  · simp only [run_skip, run_seq, run_ops, run_opsNil, run_ret, run_op0, Ins.kind, IOp.apps, List.any_cons, List.any_nil, pev, Ins.calm, Ins.opds, sureL, evS, St.put, List.getD_cons_zero, List.getD_cons_succ, List.set_cons_zero, List.set_cons_succ, SV.res, SV.strip, SV.sure, if_true, true_and, cond_false, Bool.true_and, Nat.reduceBEq, Bool.or_self]
    simp only [List.append_nil, List.getD_cons_zero, List.getD_cons_succ, SV.res, true_and, Bool.true_and, fzL, List.foldl_nil, SV.ids, List.flatMap_cons, List.flatMap_nil, SV.pvS, resK, resSV, oneSV]
    refine eqInt (by omega)
def rowP (n : Nat) : PV := .isl false false .i64 (Bitrow.bits 130 n)
def outT (k n : Nat) : SV := match k with | 0 => .p (.isl true true .i64 []) | _ + 1 => .row 0
def outO (k n : Nat) : List OB := match k with | 0 => [] | k + 1 => [.irow 3 .i64 false false (Bitrow.bits (k + 1) n)]
theorem not2 : ((2 : Int) = 0) = False := by simp
theorem rem2 (a : Nat) : (a : Int).tmod 2 = ((a % 2 : Nat) : Int) := by
  rw [Int.tmod_eq_emod_of_nonneg (by omega)]
  omega
theorem quo2 (a : Nat) (h : a < 9223372036854775808) : IntKind.i64.wrap ((a : Int).tdiv 2) = ((a / 2 : Nat) : Int) := by
  rw [Int.tdiv_eq_ediv_of_nonneg (by omega)]
  refine (wrap_i64_id (by unfold i64; omega)).trans (by omega)
theorem inc (a : Nat) (h : a < 9223372036854775807) : IntKind.i64.wrap ((a : Int) + 1) = ((a + 1 : Nat) : Int) := by
  refine (wrap_i64_id (by unfold i64; omega)).trans (by omega)
theorem fn_Bits (G : Glob) (a : Nat) (h : a < 9223372036854775808) : FunEq Try.prog G 76 [.int .i64 a] (rowP a) := by
  refine fun_of_vc live_coupletref01_Bits Try.func76 rfl (by kernel_rfl) ok_coupletref01_Bits (by kernel_rfl) Try.ntmps76 (run_of ?_)
  simp only [run_seq, run_ops, run_opsNil, run_block, run_op0, Ins.kind, IOp.apps, List.any_cons, List.any_nil, pev, Ins.calm, Ins.opds, sureL, evS, St.put, List.map, List.length_cons, List.length_nil, List.replicate, List.cons_append, List.nil_append, List.set_cons_zero, List.set_cons_succ, SV.strip, SV.sure, if_true, true_and, Nat.reduceSub, Nat.zero_add, cond_false, Bool.true_and, Nat.reduceBEq, Bool.or_self, ir_coupletref01_Bits, Try.results76]
  refine run_loop (fun n S => ∃ k : Nat, k ≤ 130 ∧ n = 130 - k ∧ S = ⟨slots 17 0 [(0, .p (.int .i64 ((a / 2 ^ k : Nat) : Int))), (3, outT k a), (4, .p (.int .i64 k))], outO k a⟩) ?_ ?_
  · refine ⟨130, [], by simp, 0, by omega, rfl, ?_⟩
    rw [Nat.pow_zero, Nat.div_one]
    rfl
  rintro n S' ⟨k, hk, rfl, rfl⟩
  have hd : a / 2 ^ k ≤ a := Nat.div_le_self _ _
  have r2 := rem2 (a / 2 ^ k)
  have q2 := quo2 (a / 2 ^ k) (by omega)
  rw [← pow_div'] at q2
  have hs := bits_snoc k a
  match k with
  | 0 =>
    rw [Nat.pow_zero, Nat.div_one] at *
    simp only [run_nil, run_skip, run_eb, run_seq, run_ops, run_opsNil, run_block, run_op0, run_cond, runC_true, run_bsl, runB, run_appI, runAI, okB, Ins.kind, IOp.apps, List.any_cons, List.any_nil, pev, Ins.calm, Ins.opds, sureL, evS, St.put, List.map, List.length_cons, List.length_nil, List.cons_append, List.nil_append, List.append_nil, List.getD_cons_zero, List.getD_cons_succ, List.set_cons_zero, List.set_cons_succ, SV.res, SV.strip, SV.sure, binV, if_true, Bool.false_eq_true, if_false, true_and, Nat.reduceSub, Nat.zero_add, Nat.reduceAdd, cond_true, cond_false, Bool.and_self, Bool.true_and, Nat.reduceLeDiff, St.forget, forgetL, slots, List.contains_cons, List.contains_nil, Nat.reduceBEq, Bool.or_false, Bool.or_true, Bool.or_self, Option.map_some, fzL, List.foldl_nil, SV.ids, List.flatMap_cons, List.flatMap_nil, SV.pvS, SV.pvSL, SV.see, OB.pv, intsOf, beq_self_eq_true, Nat.reduceEqDiff, ne_eq, not_false_eq_true, Int.reduceLT, Int.cast_ofNat_Int, Nat.one_mul, and_self, Int.reduceAdd, SV.ren, SV.renL, List.isEmpty_cons, outT, outO, decide_true, not2, r2, q2]
    refine ⟨129, [1], by simp, by omega, 1, by omega, by omega, ?_⟩
    rfl
  | k + 1 =>
    simp only [run_seq, run_ops, run_opsNil, run_op0, run_cond, Ins.kind, IOp.apps, List.any_cons, List.any_nil, pev, Ins.calm, Ins.opds, sureL, evS, St.put, List.getD_cons_zero, List.getD_cons_succ, List.set_cons_zero, List.set_cons_succ, SV.res, SV.strip, SV.sure, binV, if_true, if_false, true_and, Nat.zero_add, Nat.reduceAdd, cond_false, Bool.and_self, Bool.true_and, St.forget, slots, Nat.reduceBEq, Bool.or_self, Nat.reduceEqDiff, and_self, outT, outO, inc (k + 1) (by omega)]
    refine runC_dec (fun h1 => ?_) (fun h1 => ?_)
    · simp only [run_nil, run_skip, run_eb, run_seq, run_ops, run_opsNil, run_block, run_op0, run_bsl, runB, run_appI, runAI, okB, Ins.kind, IOp.apps, List.any_cons, List.any_nil, pev, Ins.calm, Ins.opds, sureL, evS, St.put, List.map, List.length_cons, List.length_nil, List.cons_append, List.nil_append, List.append_nil, List.getD_cons_zero, List.getD_cons_succ, List.set_cons_zero, List.set_cons_succ, SV.res, SV.strip, SV.sure, binV, if_true, Bool.false_eq_true, if_false, true_and, Nat.zero_add, Nat.reduceAdd, cond_true, cond_false, Bool.and_self, Bool.true_and, Nat.reduceLeDiff, forgetL, List.contains_cons, List.contains_nil, Nat.reduceBEq, Bool.or_false, Bool.or_true, Bool.or_self, Option.map_some, fzL, List.foldl_nil, SV.ids, List.flatMap_cons, List.flatMap_nil, SV.pvS, SV.pvSL, SV.see, OB.pv, intsOf, beq_self_eq_true, ne_eq, not_false_eq_true, and_self, SV.ren, SV.renL, List.isEmpty_cons, not2, r2, q2, inc (k + 1) (by omega), bits_length]
      refine ⟨by omega, by omega, 130 - (k + 1 + 1), [2], by simp, by omega, k + 1 + 1, by omega, by omega, ?_⟩
      rw [hs]
      rfl
    · have : k = 129 := by omega
      subst this
      simp only [run_seq, run_ops, run_opsNil, run_ret, run_exit, runX_nil, runX_ir, runX_eb, run_op0, Ins.kind, IOp.apps, List.any_cons, List.any_nil, pev, Ins.calm, Ins.opds, sureL, evS, St.put, List.getD_cons_zero, List.getD_cons_succ, List.set_cons_zero, List.set_cons_succ, SV.res, SV.strip, SV.sure, if_true, true_and, Nat.reduceSub, Nat.reduceAdd, cond_false, Bool.true_and, Nat.reduceBEq, Bool.or_self, Int.reduceLT, Int.cast_ofNat_Int]
      simp only [List.append_nil, List.getD_cons_zero, List.getD_cons_succ, List.set_cons_zero, SV.res, Bool.and_self, fzL, fz1, List.foldl_cons, List.foldl_nil, SV.ids, List.flatMap_cons, List.flatMap_nil, SV.pvS, and_self, resK, resSV, oneSV, rowP]
theorem fn_Up (G : Glob) (a b : Nat) (h : b < 2) : FunEq Try.prog G 77 [rowP a, .int .i64 b] (rowP (2 * a + b)) := by
  refine fun_of_vc live_coupletref01_Up Try.func77 rfl (by kernel_rfl) ok_coupletref01_Up (by kernel_rfl) Try.ntmps77 (run_of ?_)
  simp only [run_seq, run_ops, run_opsNil, run_ret, run_op0, run_bsl, runB, run_appI, runAI, okB, Ins.kind, IOp.apps, List.any_cons, List.any_nil, pev, Ins.calm, Ins.opds, sureL, evS, St.put, List.map, List.length_cons, List.length_nil, List.replicate, List.cons_append, List.nil_append, List.append_nil, List.getD_cons_zero, List.getD_cons_succ, List.set_cons_zero, List.set_cons_succ, SV.res, SV.strip, SV.sure, if_true, Bool.false_eq_true, if_false, true_and, Nat.reduceSub, Nat.zero_add, Nat.reduceAdd, cond_true, cond_false, Bool.and_self, Bool.true_and, Nat.reduceLeDiff, Nat.reduceMul, List.drop, Nat.reduceBEq, Bool.or_false, Bool.or_true, Bool.or_self, SV.num, Option.map_some, Option.map_none, fzL, List.foldl_nil, SV.ids, List.flatMap_cons, List.flatMap_nil, SV.pvS, SV.pvSL, SV.see, bnds, slcOk, slcEx, cutL, intsOf, beq_self_eq_true, Option.isSome_some, Int.reduceToNat, Int.reduceLE, Int.cast_ofNat_Int, Nat.min_def, Int.toNat_zero, and_self, Int.zero_le_ofNat, Int.le_refl, Int.reduceSub, List.getD_nil, ir_coupletref01_Up, Try.results77, rowP, bits_length, List.length_take]
  refine ⟨by exact ⟨trivial, trivial⟩, ?_⟩
  simp only [List.append_nil, List.getD_cons_zero, List.getD_cons_succ, List.set_cons_zero, List.set_cons_succ, SV.res, true_and, Bool.true_and, fzL, fz1, List.foldl_cons, List.foldl_nil, SV.ids, List.flatMap_cons, List.flatMap_nil, SV.pvS, resK, resSV, oneSV, Bool.false_and]
  rw [bits_take (by decide), bits_up h]
theorem bit_add {x y c : Nat} (hx : x < 2) (hy : y < 2) (hc : c ≤ 1) : IntKind.i64.wrap (IntKind.i64.wrap ((x : Int) + (y : Int)) + (c : Int)) = ((x + y + c : Nat) : Int) := by
  rw [wrap_i64_id (a := (x : Int) + (y : Int)) (by unfold i64; omega), wrap_i64_id (by unfold i64; omega)]
  omega
theorem fn_Add (G : Glob) (a b : Nat) : FunEq Try.prog G 79 [rowP a, rowP b] (rowP (a + b)) := by
  refine fun_of_vc live_coupletref01_Add Try.func79 rfl (by kernel_rfl) ok_coupletref01_Add (by kernel_rfl) Try.ntmps79 (run_of ?_)
  simp only [run_seq, run_ops, run_opsNil, run_block, run_op0, Ins.kind, IOp.apps, List.any_cons, List.any_nil, pev, Ins.calm, Ins.opds, sureL, evS, St.put, List.map, List.length_cons, List.length_nil, List.replicate, List.cons_append, List.nil_append, List.set_cons_zero, List.set_cons_succ, SV.strip, SV.sure, if_true, true_and, Nat.reduceSub, Nat.zero_add, Nat.reduceAdd, cond_false, Bool.true_and, Nat.reduceBEq, Bool.or_self, ir_coupletref01_Add, Try.results79]
  refine run_loop (fun n S => ∃ k c : Nat, k ≤ 130 ∧ n = 130 - k ∧ (a + b) / 2 ^ k = a / 2 ^ k + b / 2 ^ k + c ∧ c ≤ 1 ∧ S = ⟨slots 32 0 [(0, .p (rowP a)), (1, .p (rowP b)), (5, outT k (a + b)), (6, .p (.int .i64 c)), (7, .p (.int .i64 k))], outO k (a + b)⟩) ?_ ?_
  · exact ⟨130, [], by simp, 0, 0, by omega, rfl, by simp, by omega, rfl⟩
  rintro n S' ⟨k, c, hk, rfl, hc, hc1, rfl⟩
  have hs := bits_snoc k (a + b)
  have hst := add_step hc
  rw [hst.2] at hs
  have hA : a / 2 ^ k % 2 < 2 := Nat.mod_lt _ (by decide)
  have hB : b / 2 ^ k % 2 < 2 := Nat.mod_lt _ (by decide)
  have w1 := bit_add hA hB hc1
  have r2 := rem2 (a / 2 ^ k % 2 + b / 2 ^ k % 2 + c)
  have q2 := quo2 (a / 2 ^ k % 2 + b / 2 ^ k % 2 + c) (by omega)
  match k with
  | 0 =>
    simp only [run_nil, run_skip, run_eb, run_seq, run_ops, run_opsNil, run_block, run_op0, run_cond, runC_true, run_bsl, runB, run_appI, runAI, okB, Ins.kind, IOp.apps, List.any_cons, List.any_nil, pev, Ins.calm, Ins.opds, sureL, evS, St.put, List.map, List.length_cons, List.length_nil, List.cons_append, List.nil_append, List.append_nil, List.getD_cons_zero, List.getD_cons_succ, List.set_cons_zero, List.set_cons_succ, SV.res, SV.strip, SV.sure, SV.ld, PV.ld, binV, if_true, Bool.false_eq_true, if_false, true_and, Nat.reduceSub, Nat.zero_add, Nat.reduceAdd, cond_true, cond_false, Bool.and_self, Bool.true_and, Nat.reduceLeDiff, Nat.reduceLT, St.forget, forgetL, slots, List.contains_cons, List.contains_nil, Nat.reduceBEq, Bool.or_false, Bool.or_true, Bool.or_self, Option.map_some, fzL, List.foldl_nil, SV.ids, List.flatMap_cons, List.flatMap_nil, SV.pvS, SV.pvSL, SV.see, OB.pv, intsOf, beq_self_eq_true, Nat.reduceEqDiff, ne_eq, not_false_eq_true, Int.reduceLT, Int.cast_ofNat_Int, Int.toNat_zero, Nat.one_mul, and_self, Int.le_refl, Int.reduceAdd, SV.ren, SV.renL, List.isEmpty_cons, outT, outO, decide_true, not2, rowP, bits_length, bits_get, w1, r2, q2]
    refine ⟨129, [1], by simp, by omega, 1, _, by omega, by omega, hst.1, by omega, ?_⟩
    simp only [outO, outT]
    rw [← hs]
    rfl
  | k + 1 =>
    simp only [run_seq, run_ops, run_opsNil, run_op0, run_cond, Ins.kind, IOp.apps, List.any_cons, List.any_nil, pev, Ins.calm, Ins.opds, sureL, evS, St.put, List.getD_cons_zero, List.getD_cons_succ, List.set_cons_zero, List.set_cons_succ, SV.res, SV.strip, SV.sure, binV, if_true, if_false, true_and, Nat.zero_add, Nat.reduceAdd, cond_false, Bool.and_self, Bool.true_and, St.forget, slots, Nat.reduceBEq, Bool.or_self, Nat.reduceEqDiff, and_self, outT, outO, rowP, inc (k + 1) (by omega)]
    refine runC_dec (fun h1 => ?_) (fun h1 => ?_)
    · simp only [run_nil, run_skip, run_eb, run_seq, run_ops, run_opsNil, run_block, run_op0, run_bsl, runB, run_appI, runAI, okB, Ins.kind, IOp.apps, List.any_cons, List.any_nil, pev, Ins.calm, Ins.opds, sureL, evS, St.put, List.map, List.length_cons, List.length_nil, List.cons_append, List.nil_append, List.append_nil, List.getD_cons_zero, List.getD_cons_succ, List.set_cons_zero, List.set_cons_succ, SV.res, SV.strip, SV.sure, SV.ld, PV.ld, binV, if_true, Bool.false_eq_true, if_false, true_and, Nat.zero_add, Nat.reduceAdd, cond_true, cond_false, Bool.and_self, Bool.true_and, Nat.reduceLeDiff, forgetL, List.contains_cons, List.contains_nil, Nat.reduceBEq, Bool.or_false, Bool.or_true, Bool.or_self, Option.map_some, fzL, List.foldl_nil, SV.ids, List.flatMap_cons, List.flatMap_nil, SV.pvS, SV.pvSL, SV.see, OB.pv, intsOf, beq_self_eq_true, ne_eq, not_false_eq_true, Int.cast_ofNat_Int, and_self, SV.ren, SV.renL, List.isEmpty_cons, not2, inc (k + 1) (by omega), bits_length, Int.toNat_natCast, bits_get (show k + 1 < 130 by omega), w1, r2, q2]
      refine ⟨by omega, by omega, by omega, by omega, by omega, by omega, 130 - (k + 1 + 1), [2], by simp, by omega, k + 1 + 1, _, by omega, by omega, hst.1, by omega, ?_⟩
      rw [hs]
      rfl
    · have : k = 129 := by omega
      subst this
      simp only [run_seq, run_ops, run_opsNil, run_ret, run_exit, runX_nil, runX_ir, runX_eb, run_op0, Ins.kind, IOp.apps, List.any_cons, List.any_nil, pev, Ins.calm, Ins.opds, sureL, evS, St.put, List.getD_cons_zero, List.getD_cons_succ, List.set_cons_zero, List.set_cons_succ, SV.res, SV.strip, SV.sure, if_true, true_and, Nat.reduceSub, Nat.reduceAdd, cond_false, Bool.true_and, Nat.reduceBEq, Bool.or_self, Int.reduceLT, Int.cast_ofNat_Int]
      simp only [List.append_nil, List.getD_cons_zero, List.getD_cons_succ, List.set_cons_zero, SV.res, Bool.and_self, fzL, fz1, List.foldl_cons, List.foldl_nil, SV.ids, List.flatMap_cons, List.flatMap_nil, SV.pvS, and_self, resK, resSV, oneSV]
theorem bit_sub {x y c : Nat} (hx : x < 2) (hy : y < 2) (hc : c ≤ 1) : IntKind.i64.wrap (IntKind.i64.wrap (IntKind.i64.wrap ((x : Int) - (y : Int)) - (c : Int)) + 2) = ((x + 2 - y - c : Nat) : Int) := by
  rw [wrap_i64_id (a := (x : Int) - (y : Int)) (by unfold i64; omega), wrap_i64_id (a := (x : Int) - (y : Int) - (c : Int)) (by unfold i64; omega), wrap_i64_id (by unfold i64; omega)]
  omega
theorem one_sub {x : Nat} (hx : x ≤ 1) : IntKind.i64.wrap (1 - (x : Int)) = ((1 - x : Nat) : Int) := by
  rw [wrap_i64_id (by unfold i64; omega)]
  omega
theorem fn_Sub (G : Glob) (a b : Nat) (h : b ≤ a) : FunEq Try.prog G 78 [rowP a, rowP b] (rowP (a - b)) := by
  refine fun_of_vc live_coupletref01_Sub Try.func78 rfl (by kernel_rfl) ok_coupletref01_Sub (by kernel_rfl) Try.ntmps78 (run_of ?_)
  simp only [run_seq, run_ops, run_opsNil, run_block, run_op0, Ins.kind, IOp.apps, List.any_cons, List.any_nil, pev, Ins.calm, Ins.opds, sureL, evS, St.put, List.map, List.length_cons, List.length_nil, List.replicate, List.cons_append, List.nil_append, List.set_cons_zero, List.set_cons_succ, SV.strip, SV.sure, if_true, true_and, Nat.reduceSub, Nat.zero_add, Nat.reduceAdd, cond_false, Bool.true_and, Nat.reduceBEq, Bool.or_self, ir_coupletref01_Sub, Try.results78]
  refine run_loop (fun n S => ∃ k c : Nat, k ≤ 130 ∧ n = 130 - k ∧ a / 2 ^ k = b / 2 ^ k + (a - b) / 2 ^ k + c ∧ c ≤ 1 ∧ S = ⟨slots 34 0 [(0, .p (rowP a)), (1, .p (rowP b)), (5, outT k (a - b)), (6, .p (.int .i64 c)), (7, .p (.int .i64 k))], outO k (a - b)⟩) ?_ ?_
  · exact ⟨130, [], by simp, 0, 0, by omega, rfl, by simp; omega, by omega, rfl⟩
  rintro n S' ⟨k, c, hk, rfl, hc, hc1, rfl⟩
  have hs := bits_snoc k (a - b)
  have hst := sub_step hc1 hc
  rw [hst.2] at hs
  have hA : a / 2 ^ k % 2 < 2 := Nat.mod_lt _ (by decide)
  have hB : b / 2 ^ k % 2 < 2 := Nat.mod_lt _ (by decide)
  have w1 := bit_sub hA hB hc1
  have r2 := rem2 (a / 2 ^ k % 2 + 2 - b / 2 ^ k % 2 - c)
  have q2 := quo2 (a / 2 ^ k % 2 + 2 - b / 2 ^ k % 2 - c) (by omega)
  have o1 := one_sub (x := (a / 2 ^ k % 2 + 2 - b / 2 ^ k % 2 - c) / 2) (by omega)
  match k with
  | 0 =>
    simp only [run_nil, run_skip, run_eb, run_seq, run_ops, run_opsNil, run_block, run_op0, run_cond, runC_true, run_bsl, runB, run_appI, runAI, okB, Ins.kind, IOp.apps, List.any_cons, List.any_nil, pev, Ins.calm, Ins.opds, sureL, evS, St.put, List.map, List.length_cons, List.length_nil, List.cons_append, List.nil_append, List.append_nil, List.getD_cons_zero, List.getD_cons_succ, List.set_cons_zero, List.set_cons_succ, SV.res, SV.strip, SV.sure, SV.ld, PV.ld, binV, if_true, Bool.false_eq_true, if_false, true_and, Nat.reduceSub, Nat.zero_add, Nat.reduceAdd, cond_true, cond_false, Bool.and_self, Bool.true_and, Nat.reduceLeDiff, Nat.reduceLT, St.forget, forgetL, slots, List.contains_cons, List.contains_nil, Nat.reduceBEq, Bool.or_false, Bool.or_true, Bool.or_self, Option.map_some, fzL, List.foldl_nil, SV.ids, List.flatMap_cons, List.flatMap_nil, SV.pvS, SV.pvSL, SV.see, OB.pv, intsOf, beq_self_eq_true, Nat.reduceEqDiff, ne_eq, not_false_eq_true, Int.reduceLT, Int.cast_ofNat_Int, Int.toNat_zero, Nat.one_mul, and_self, Int.le_refl, Int.reduceAdd, SV.ren, SV.renL, List.isEmpty_cons, outT, outO, decide_true, not2, rowP, bits_length, bits_get, w1, r2, q2, o1]
    refine ⟨129, [1], by simp, by omega, 1, _, by omega, by omega, hst.1, by omega, ?_⟩
    simp only [outO, outT]
    rw [← hs]
    rfl
  | k + 1 =>
    simp only [run_seq, run_ops, run_opsNil, run_op0, run_cond, Ins.kind, IOp.apps, List.any_cons, List.any_nil, pev, Ins.calm, Ins.opds, sureL, evS, St.put, List.getD_cons_zero, List.getD_cons_succ, List.set_cons_zero, List.set_cons_succ, SV.res, SV.strip, SV.sure, binV, if_true, if_false, true_and, Nat.zero_add, Nat.reduceAdd, cond_false, Bool.and_self, Bool.true_and, St.forget, slots, Nat.reduceBEq, Bool.or_self, Nat.reduceEqDiff, and_self, outT, outO, rowP, inc (k + 1) (by omega)]
    refine runC_dec (fun h1 => ?_) (fun h1 => ?_)
    · simp only [run_nil, run_skip, run_eb, run_seq, run_ops, run_opsNil, run_block, run_op0, run_bsl, runB, run_appI, runAI, okB, Ins.kind, IOp.apps, List.any_cons, List.any_nil, pev, Ins.calm, Ins.opds, sureL, evS, St.put, List.map, List.length_cons, List.length_nil, List.cons_append, List.nil_append, List.append_nil, List.getD_cons_zero, List.getD_cons_succ, List.set_cons_zero, List.set_cons_succ, SV.res, SV.strip, SV.sure, SV.ld, PV.ld, binV, if_true, Bool.false_eq_true, if_false, true_and, Nat.zero_add, Nat.reduceAdd, cond_true, cond_false, Bool.and_self, Bool.true_and, Nat.reduceLeDiff, forgetL, List.contains_cons, List.contains_nil, Nat.reduceBEq, Bool.or_false, Bool.or_true, Bool.or_self, Option.map_some, fzL, List.foldl_nil, SV.ids, List.flatMap_cons, List.flatMap_nil, SV.pvS, SV.pvSL, SV.see, OB.pv, intsOf, beq_self_eq_true, ne_eq, not_false_eq_true, Int.cast_ofNat_Int, and_self, SV.ren, SV.renL, List.isEmpty_cons, not2, inc (k + 1) (by omega), bits_length, Int.toNat_natCast, bits_get (show k + 1 < 130 by omega), w1, r2, q2, o1]
      refine ⟨by omega, by omega, by omega, by omega, by omega, by omega, 130 - (k + 1 + 1), [2], by simp, by omega, k + 1 + 1, _, by omega, by omega, hst.1, by omega, ?_⟩
      rw [hs]
      rfl
    · have : k = 129 := by omega
      subst this
      simp only [run_seq, run_ops, run_opsNil, run_ret, run_exit, runX_nil, runX_ir, runX_eb, run_op0, Ins.kind, IOp.apps, List.any_cons, List.any_nil, pev, Ins.calm, Ins.opds, sureL, evS, St.put, List.getD_cons_zero, List.getD_cons_succ, List.set_cons_zero, List.set_cons_succ, SV.res, SV.strip, SV.sure, if_true, true_and, Nat.reduceSub, Nat.reduceAdd, cond_false, Bool.true_and, Nat.reduceBEq, Bool.or_self, Int.reduceLT, Int.cast_ofNat_Int]
      simp only [List.append_nil, List.getD_cons_zero, List.getD_cons_succ, List.set_cons_zero, SV.res, Bool.and_self, fzL, fz1, List.foldl_cons, List.foldl_nil, SV.ids, List.flatMap_cons, List.flatMap_nil, SV.pvS, and_self, resK, resSV, oneSV]
theorem fn_Less (G : Glob) (a b : Nat) (ha : a < 2 ^ 130) (hb : b < 2 ^ 130) : FunEq Try.prog G 34 [rowP a, rowP b] (.bool (decide (a < b))) := by
  refine fun_of_vc live_coupletref01_Less Try.func34 rfl (by kernel_rfl) ok_coupletref01_Less (by kernel_rfl) Try.ntmps34 (run_of ?_)
  simp only [run_seq, run_ops, run_opsNil, run_block, run_op0, Ins.kind, IOp.apps, List.any_cons, List.any_nil, pev, Ins.calm, Ins.opds, sureL, evS, St.put, List.map, List.length_cons, List.length_nil, List.replicate, List.cons_append, List.nil_append, List.set_cons_zero, List.set_cons_succ, SV.strip, SV.sure, if_true, true_and, Nat.reduceSub, Nat.zero_add, Nat.reduceAdd, cond_false, Bool.true_and, Nat.reduceBEq, Bool.or_self, ir_coupletref01_Less, Try.results34]
  refine run_loop (fun n S => n ≤ 130 ∧ a / 2 ^ n = b / 2 ^ n ∧ S = ⟨slots 28 0 [(0, .p (rowP a)), (1, .p (rowP b)), (5, .p (.int .i64 ((n : Int) - 1)))], []⟩) ?_ ?_
  · exact ⟨130, [], by simp, by omega, by rw [Nat.div_eq_of_lt ha, Nat.div_eq_of_lt hb], rfl⟩
  rintro n S' ⟨hk, he, rfl⟩
  match n with
  | 0 =>
    rw [Nat.pow_zero, Nat.div_one, Nat.div_one] at he
    simp only [run_seq, run_ops, run_opsNil, run_op0, run_cond, Ins.kind, IOp.apps, List.any_cons, List.any_nil, pev, Ins.calm, Ins.opds, sureL, evS, St.put, List.getD_cons_zero, List.getD_cons_succ, List.set_cons_zero, List.set_cons_succ, SV.res, SV.strip, SV.sure, binV, if_true, if_false, true_and, Nat.zero_add, Nat.reduceAdd, cond_false, Bool.and_self, Bool.true_and, St.forget, slots, Nat.reduceBEq, Bool.or_self, Nat.reduceEqDiff, Int.reduceNeg, Int.cast_ofNat_Int, and_self, Int.reduceSub]
    refine runC_dec (fun h1 => absurd h1 (by omega)) (fun h1 => ?_)
    simp only [run_seq, run_ops, run_opsNil, run_ret, run_exit, runX_nil, runX_ir, runX_eb, run_op0, Ins.kind, IOp.apps, List.any_cons, List.any_nil, pev, Ins.calm, Ins.opds, sureL, evS, St.put, List.set_cons_zero, List.set_cons_succ, SV.strip, SV.sure, if_true, true_and, cond_false, Bool.true_and, Nat.reduceBEq, Bool.or_self, Int.reduceNeg]
    simp only [List.append_nil, List.getD_cons_zero, List.getD_cons_succ, SV.res, true_and, Bool.true_and, fzL, List.foldl_nil, SV.ids, List.flatMap_cons, List.flatMap_nil, SV.pvS, Int.reduceNeg, resK, resSV, oneSV]
    exact eqBool (decide_eq_false (by omega)).symm
  | k + 1 =>
    have hk1 : ((k + 1 : Nat) : Int) - 1 = (k : Int) := by omega
    have hA : a / 2 ^ k % 2 < 2 := Nat.mod_lt _ (by decide)
    have hB : b / 2 ^ k % 2 < 2 := Nat.mod_lt _ (by decide)
    have hd : IntKind.i64.wrap ((k : Int) - 1) = (k : Int) - 1 := wrap_i64_id (by unfold i64; omega)
    simp only [run_seq, run_ops, run_opsNil, run_op0, run_cond, Ins.kind, IOp.apps, List.any_cons, List.any_nil, pev, Ins.calm, Ins.opds, sureL, evS, St.put, List.getD_cons_zero, List.getD_cons_succ, List.set_cons_zero, List.set_cons_succ, SV.res, SV.strip, SV.sure, binV, if_true, if_false, true_and, Nat.zero_add, Nat.reduceAdd, cond_false, Bool.and_self, Bool.true_and, St.forget, slots, Nat.reduceBEq, Bool.or_self, Nat.reduceEqDiff, and_self, hk1, rowP, bits_get (show k < 130 by omega)]
    refine runC_dec (fun h1 => ?_) (fun h1 => absurd (by omega) h1)
    simp only [run_skip, run_seq, run_ops, run_opsNil, run_block, run_op0, run_cond, Ins.kind, IOp.apps, List.any_cons, List.any_nil, pev, Ins.calm, Ins.opds, sureL, evS, St.put, List.getD_cons_zero, List.getD_cons_succ, List.set_cons_zero, List.set_cons_succ, SV.res, SV.strip, SV.sure, SV.ld, PV.ld, binV, if_true, true_and, cond_true, cond_false, Bool.and_self, Bool.true_and, Nat.reduceBEq, Bool.or_self, Int.cast_ofNat_Int, and_self, bits_length, Int.toNat_natCast, bits_get (show k < 130 by omega)]
    refine ⟨by omega, by omega, by omega, by omega, ?_⟩
    refine runC_of (fun h2 => ?_) (fun h2 => ?_)
    · simp only [run_seq, run_ops, run_opsNil, run_ret, runX_ret, run_op0, Ins.kind, IOp.apps, List.any_cons, List.any_nil, pev, Ins.calm, Ins.opds, sureL, evS, St.put, List.getD_cons_zero, List.getD_cons_succ, List.set_cons_zero, List.set_cons_succ, SV.res, SV.strip, SV.sure, SV.ld, PV.ld, binV, if_true, true_and, cond_true, cond_false, Bool.and_self, Bool.true_and, Nat.reduceBEq, Bool.or_self, Int.cast_ofNat_Int, and_self, bits_length, Int.toNat_natCast, bits_get (show k < 130 by omega)]
      simp only [List.append_nil, List.getD_cons_zero, List.getD_cons_succ, SV.res, true_and, Bool.true_and, fzL, List.foldl_nil, SV.ids, List.flatMap_cons, List.flatMap_nil, SV.pvS, resK, resSV, oneSV]
      refine ⟨by omega, by omega, by omega, by omega, ?_⟩
      refine eqBool (decide_eq_decide.mpr ⟨fun h => lt_of_bit he (Int.ofNat_lt.mp h), fun h => ?_⟩)
      have h3 : ¬ b / 2 ^ k % 2 < a / 2 ^ k % 2 := fun h4 => absurd (lt_of_bit he.symm h4) (Nat.not_lt.mpr (Nat.le_of_lt h))
      have h4 : ¬ a / 2 ^ k % 2 = b / 2 ^ k % 2 := fun h => by rw [h] at h2; simp at h2
      exact Int.ofNat_lt.mpr (Nat.lt_of_le_of_ne (Nat.le_of_not_lt h3) h4)
    · simp only [run_nil, run_skip, run_eb, run_ops, run_opsNil, run_op0, Ins.kind, IOp.apps, List.any_cons, List.any_nil, pev, Ins.calm, Ins.opds, sureL, evS, St.put, List.getD_cons_zero, List.getD_cons_succ, List.set_cons_zero, List.set_cons_succ, SV.res, SV.strip, SV.sure, binV, if_true, Bool.false_eq_true, if_false, true_and, Nat.zero_add, Nat.reduceAdd, cond_false, Bool.and_self, Bool.true_and, forgetL, List.contains_cons, List.contains_nil, Nat.reduceBEq, Bool.or_false, Bool.or_true, Bool.or_self, beq_self_eq_true, and_self, SV.ren, SV.renL, bits_get (show k < 130 by omega), hd]
      have h4 : a / 2 ^ k % 2 = b / 2 ^ k % 2 := by
        generalize a / 2 ^ k % 2 = A at h2 ⊢
        generalize b / 2 ^ k % 2 = B at h2 ⊢
        simp at h2
        omega
      exact ⟨k, [], by simp, by omega, by omega, eq_of_bit he h4, rfl⟩
theorem fn_Number (G : Glob) (a : Nat) (ha : a < 2 ^ 130) : FunEq Try.prog G 80 [rowP a] (if a ≤ 4611686018427387903 then .tup [.int .i64 a, .bool true] else .tup [.int .i64 0, .bool false]) := by
  refine fun_of_vc live_coupletref01_Number Try.func80 rfl (by kernel_rfl) ok_coupletref01_Number (by kernel_rfl) Try.ntmps80 (run_of ?_)
  simp only [run_seq, run_ops, run_opsNil, run_block, run_op0, Ins.kind, IOp.apps, List.any_cons, List.any_nil, pev, Ins.calm, Ins.opds, sureL, evS, St.put, List.map, List.length_cons, List.length_nil, List.replicate, List.cons_append, List.nil_append, List.set_cons_zero, List.set_cons_succ, SV.strip, SV.sure, if_true, true_and, Nat.reduceSub, Nat.zero_add, cond_false, Bool.true_and, Nat.reduceBEq, Bool.or_self, ir_coupletref01_Number, Try.results80]
  refine run_loop (fun n S => n ≤ 130 ∧ (62 ≤ n → a / 2 ^ n = 0) ∧ (n ≤ 62 → a ≤ 4611686018427387903) ∧ S = ⟨slots 29 0 [(0, .p (rowP a)), (4, .p (.int .i64 (if n ≤ 62 then ((a / 2 ^ n : Nat) : Int) else 0))), (5, .p (.int .i64 ((n : Int) - 1)))], []⟩) ?_ ?_
  · exact ⟨130, [], by simp, by omega, fun _ => Nat.div_eq_of_lt ha, by omega, rfl⟩
  rintro n S' ⟨hk, he, hl, rfl⟩
  match n with
  | 0 =>
    rw [if_pos (hl (by omega)), if_pos (by omega), Nat.pow_zero, Nat.div_one]
    simp only [run_seq, run_ops, run_opsNil, run_op0, run_cond, Ins.kind, IOp.apps, List.any_cons, List.any_nil, pev, Ins.calm, Ins.opds, sureL, evS, St.put, List.getD_cons_zero, List.getD_cons_succ, List.set_cons_zero, List.set_cons_succ, SV.res, SV.strip, SV.sure, binV, if_true, if_false, true_and, Nat.zero_add, Nat.reduceAdd, cond_false, Bool.and_self, Bool.true_and, St.forget, slots, Nat.reduceBEq, Bool.or_self, Nat.reduceEqDiff, Int.reduceNeg, Int.cast_ofNat_Int, and_self, Int.reduceSub]
    refine runC_dec (fun h1 => absurd h1 (by omega)) (fun h1 => ?_)
    simp only [run_seq, run_ops, run_opsNil, run_ret, run_exit, runX_nil, runX_ir, runX_eb, run_op0, Ins.kind, IOp.apps, List.any_cons, List.any_nil, pev, Ins.calm, Ins.opds, sureL, evS, St.put, List.getD_cons_zero, List.getD_cons_succ, List.set_cons_zero, List.set_cons_succ, SV.res, SV.strip, SV.sure, if_true, true_and, cond_false, Bool.true_and, Nat.reduceBEq, Bool.or_self, Int.reduceNeg]
    simp only [List.append_nil, List.getD_cons_zero, List.getD_cons_succ, SV.res, Bool.and_self, Option.map_some, fzL, List.foldl_nil, SV.ids, List.flatMap_cons, List.flatMap_nil, SV.pvS, SV.pvSL, Int.reduceNeg, and_self, resK, resSV, oneSV]
  | k + 1 =>
    have hk1 : ((k + 1 : Nat) : Int) - 1 = (k : Int) := by omega
    have hA : a / 2 ^ k % 2 < 2 := Nat.mod_lt _ (by decide)
    have hd : IntKind.i64.wrap ((k : Int) - 1) = (k : Int) - 1 := wrap_i64_id (by unfold i64; omega)
    have hp := pow_div' a k
    obtain ⟨m, hm⟩ : ∃ m : Int, m = if k + 1 ≤ 62 then ((a / 2 ^ (k + 1) : Nat) : Int) else 0 := ⟨_, rfl⟩
    rw [← hm]
    simp only [run_seq, run_ops, run_opsNil, run_op0, run_cond, Ins.kind, IOp.apps, List.any_cons, List.any_nil, pev, Ins.calm, Ins.opds, sureL, evS, St.put, List.getD_cons_zero, List.getD_cons_succ, List.set_cons_zero, List.set_cons_succ, SV.res, SV.strip, SV.sure, binV, if_true, if_false, true_and, Nat.zero_add, Nat.reduceAdd, cond_false, Bool.and_self, Bool.true_and, St.forget, slots, Nat.reduceBEq, Bool.or_self, Nat.reduceEqDiff, and_self, hk1, rowP, bits_get (show k < 130 by omega)]
    refine runC_dec (fun h1 => ?_) (fun h1 => absurd (by omega) h1)
    simp only [run_skip, run_seq, run_ops, run_opsNil, run_block, run_op0, run_opG, run_cond, run_pick, runP, Ins.kind, IOp.apps, List.any_cons, List.any_nil, gAct, pev, Ins.calm, Ins.opds, sureL, evS, St.put, List.getD_cons_zero, List.getD_cons_succ, List.set_cons_zero, List.set_cons_succ, SV.res, SV.strip, SV.sure, SV.ld, PV.ld, binV, if_true, Bool.false_eq_true, if_false, SV.mix, true_and, and_true, implies_true, cond_true, cond_false, Bool.and_self, Bool.and_true, Bool.true_and, Nat.reduceBEq, Bool.or_self, Int.cast_ofNat_Int, imp_self, and_self, Bool.cond_false_right, bits_length, Int.toNat_natCast, bits_get (show k < 130 by omega)]
    refine ⟨by omega, by omega, ?_⟩
    obtain ⟨A, hAe⟩ : ∃ A, A = a / 2 ^ k % 2 := ⟨_, rfl⟩
    rw [← hAe] at hA ⊢
    refine runC_of (fun h2 => ?_) (fun h2 => ?_)
    · have h3 : A = 1 ∧ 62 ≤ k := by simp at h2; omega
      have h4 : 1 * 2 ^ k ≤ a := (Nat.le_div_iff_mul_le (Nat.two_pow_pos k)).mp (by rw [h3.1] at hAe; generalize a / 2 ^ k = X at *; omega)
      have h5 : 2 ^ 62 ≤ 2 ^ k := Nat.pow_le_pow_right (by decide) h3.2
      rw [if_neg (by omega)]
      simp only [run_seq, run_ops, run_opsNil, run_ret, runX_ret, run_op0, Ins.kind, IOp.apps, List.any_cons, List.any_nil, pev, Ins.calm, Ins.opds, sureL, evS, St.put, List.set_cons_zero, List.set_cons_succ, SV.strip, SV.sure, if_true, true_and, cond_false, Bool.true_and, Nat.reduceBEq, Bool.or_self]
      simp only [List.append_nil, List.getD_cons_zero, List.getD_cons_succ, SV.res, Bool.and_self, Option.map_some, fzL, List.foldl_nil, SV.ids, List.flatMap_cons, List.flatMap_nil, SV.pvS, SV.pvSL, and_self, resK, resSV, oneSV]
    · have h3 : A = 1 → k < 62 := fun h => by rw [h] at h2; simp at h2; omega
      simp only [run_skip, run_seq, run_ops, run_opsNil, run_op0, run_cond, Ins.kind, IOp.apps, List.any_cons, List.any_nil, pev, Ins.calm, Ins.opds, sureL, evS, St.put, List.getD_cons_zero, List.getD_cons_succ, List.set_cons_zero, List.set_cons_succ, SV.res, SV.strip, SV.sure, binV, if_true, true_and, cond_false, Bool.and_self, Bool.true_and, Nat.reduceBEq, Bool.or_self, and_self]
      refine runC_dec (fun h4 => ?_) (fun h4 => ?_)
      · have h5 : m = ((a / 2 ^ (k + 1) : Nat) : Int) := by rw [hm, if_pos (by omega)]
        have h6 : a / 2 ^ k ≤ 4611686018427387903 := Nat.le_trans (Nat.div_le_self _ _) (hl (by omega))
        have h7 : IntKind.i64.wrap (m * 2) = m * 2 := wrap_i64_id (by rw [h5, hp]; generalize a / 2 ^ k = X at *; unfold i64; omega)
        have h8 : IntKind.i64.wrap (m * 2 + (A : Int)) = ((a / 2 ^ k : Nat) : Int) := by
          rw [h5, hp, hAe]
          generalize a / 2 ^ k = X at *
          rw [wrap_i64_id (by unfold i64; omega)]
          omega
        simp only [run_nil, run_eb, run_ops, run_opsNil, run_op0, Ins.kind, IOp.apps, List.any_cons, List.any_nil, pev, Ins.calm, Ins.opds, sureL, evS, St.put, List.getD_cons_zero, List.getD_cons_succ, List.set_cons_zero, List.set_cons_succ, SV.res, SV.strip, SV.sure, SV.ld, PV.ld, binV, if_true, Bool.false_eq_true, if_false, true_and, Nat.zero_add, Nat.reduceAdd, cond_false, Bool.and_self, Bool.true_and, forgetL, List.contains_cons, List.contains_nil, Nat.reduceBEq, Bool.or_false, Bool.or_true, Bool.or_self, beq_self_eq_true, Int.cast_ofNat_Int, and_self, SV.ren, SV.renL, bits_length, Int.toNat_natCast, bits_get (show k < 130 by omega), hd, ← hAe, h7, h8]
        refine ⟨by omega, by omega, k, [], by simp, by omega, by omega, by omega, fun _ => hl (by omega), ?_⟩
        rw [if_pos (by omega)]
        rfl
      · have h5 : A = 0 := by omega
        have h6 : a / 2 ^ k = 0 := by have := he (by omega); rw [hp] at this; generalize a / 2 ^ k = X at *; omega
        have h7 : m = 0 := by rw [hm]; split <;> omega
        simp only [run_nil, run_skip, run_eb, run_ops, run_opsNil, run_op0, Ins.kind, IOp.apps, List.any_cons, List.any_nil, pev, Ins.calm, Ins.opds, sureL, evS, St.put, List.getD_cons_zero, List.getD_cons_succ, List.set_cons_zero, List.set_cons_succ, SV.res, SV.strip, SV.sure, binV, if_true, Bool.false_eq_true, if_false, true_and, Nat.zero_add, Nat.reduceAdd, cond_false, Bool.and_self, Bool.true_and, forgetL, List.contains_cons, List.contains_nil, Nat.reduceBEq, Bool.or_false, Bool.or_true, Bool.or_self, beq_self_eq_true, and_self, SV.ren, SV.renL, hd]
        refine ⟨k, [], by simp, by omega, by omega, fun _ => h6, fun h => ?_, ?_⟩
        · have h8 : k = 62 := by omega
          subst h8
          have := (Nat.div_lt_iff_lt_mul (by decide : 0 < 2 ^ 62)).mp (show a / 2 ^ 62 < 1 by omega)
          omega
        · rw [h6, h7]
          split <;> rfl
end Go.Proofs
