import Derived.Test.YtbfhholefjngpaaDoorFxRun
import Derived.Laws.Bits64
import Derived.Test.YtbfhholefjngpaaDoorWC5
import Derived.Test.YtbfhholefjngpaaDoorWRootlaw
set_option linter.unusedSimpArgs false
set_option linter.unusedVariables false
set_option maxRecDepth 100000
namespace Go.Proofs
open Go Go.Fx Go.Mdlaw Go.Cmplaw Go.Rootlaw

/-- couplet/wide.Root -/
def ir_wide_Root : IR := (.seq (.ops false [⟨(some 6), (.mv (.c (.int .i64 (0)))), none⟩, ⟨(some 7), (.mv (.c (.bool false))), none⟩]) (.seq (.seq (.ops false [⟨(some 14), (.mv (.tmp 0)), none⟩, ⟨(some 15), (.call (.func 44) [(.tmp 14)]), none⟩, ⟨(some 16), (.un .not (.tmp 15)), none⟩, ⟨(some 17), (.mv (.tmp 16)), none⟩, ⟨(some 18), (.mv (.tmp 1)), (some (17, false))⟩, ⟨(some 19), (.call (.func 44) [(.tmp 18)]), (some (17, false))⟩, ⟨(some 20), (.un .not (.tmp 19)), (some (17, false))⟩, ⟨(some 21), (.pick (.tmp 17) (.c (.bool true)) (.tmp 20)), none⟩, ⟨(some 22), (.mv (.tmp 21)), none⟩, ⟨(some 23), (.mv (.tmp 2)), (some (22, false))⟩, ⟨(some 24), (.call (.func 45) [(.tmp 23)]), (some (22, false))⟩, ⟨(some 25), (.un .not (.tmp 24)), (some (22, false))⟩, ⟨(some 26), (.pick (.tmp 22) (.c (.bool true)) (.tmp 25)), none⟩, ⟨(some 27), (.mv (.tmp 26)), none⟩, ⟨(some 28), (.mv (.tmp 0)), (some (27, false))⟩, ⟨(some 29), (.bin .neq (.tmp 28) (.c (.int .i64 (0)))), (some (27, false))⟩, ⟨(some 30), (.mv (.tmp 29)), (some (27, false))⟩, ⟨(some 31), (.mv (.tmp 1)), (some (30, true))⟩, ⟨(some 32), (.bin .neq (.tmp 31) (.c (.int .i64 (0)))), (some (30, true))⟩, ⟨(some 33), (.pick (.tmp 30) (.tmp 32) (.c (.bool false))), (some (27, false))⟩, ⟨(some 34), (.mv (.tmp 33)), (some (27, false))⟩, ⟨(some 35), (.mv (.tmp 0)), (some (34, true))⟩, ⟨(some 36), (.bin .lss (.tmp 35) (.c (.int .i64 (0)))), (some (34, true))⟩, ⟨(some 37), (.mv (.tmp 1)), (some (34, true))⟩, ⟨(some 38), (.bin .lss (.tmp 37) (.c (.int .i64 (0)))), (some (34, true))⟩, ⟨(some 39), (.binB true (.tmp 36) (.tmp 38)), (some (34, true))⟩, ⟨(some 40), (.pick (.tmp 34) (.tmp 39) (.c (.bool false))), (some (27, false))⟩, ⟨(some 41), (.pick (.tmp 27) (.c (.bool true)) (.tmp 40)), none⟩]) (.cond (.tmp 41) (.seq (.ops false [⟨(some 6), (.mv (.c (.int .i64 (0)))), none⟩, ⟨(some 7), (.mv (.c (.bool false))), none⟩]) .ret) .skip)) (.seq (.ops false [⟨(some 42), (.mv (.tmp 0)), none⟩, ⟨(some 43), (.call (.func 47) [(.tmp 42)]), none⟩, ⟨(some 44), (.mv (.tmp 1)), none⟩, ⟨(some 45), (.call (.func 47) [(.tmp 44)]), none⟩, ⟨(some 46), (.call (.func 46) [(.tmp 43), (.tmp 45)]), none⟩, ⟨(some 8), (.alloc 41 [(.int .u64 (0)), (.int .u64 (0))]), none⟩, ⟨none, (.st 2 (.tmp 8) (.tmp 46)), none⟩]) (.seq (.ops false [⟨(some 9), (.mv (.c (.int .u64 (0)))), none⟩]) (.seq (.seq (.ops false [⟨(some 47), (.mv (.c (.int .i64 (0)))), none⟩]) (.block 0 (.loop [2, 8, 9, 47] (.seq (.ops false [⟨(some 48), (.bin .lss (.tmp 47) (.c (.int .i64 (63)))), none⟩]) (.seq (.cond (.tmp 48) .skip (.exit 0)) (.seq (.block 1 (.seq (.ops false [⟨(some 49), (.mv (.tmp 47)), none⟩, ⟨(some 10), (.mv (.tmp 49)), none⟩]) (.seq (.ops false [⟨(some 50), (.mv (.tmp 9)), none⟩, ⟨(some 51), (.mv (.tmp 10)), none⟩, ⟨(some 52), (.bin .sub (.c (.int .i64 (62))) (.tmp 51)), none⟩, ⟨(some 53), (.bin .shl (.c (.int .u64 (1))) (.tmp 52)), none⟩, ⟨(some 54), (.bin .or (.tmp 50) (.tmp 53)), none⟩, ⟨(some 11), (.mv (.tmp 54)), none⟩]) (.seq (.ops true [⟨(some 55), (.ld true 2 (.tmp 8)), none⟩, ⟨(some 56), (.mv (.tmp 11)), none⟩, ⟨(some 57), (.mv (.tmp 11)), none⟩, ⟨(some 58), (.call (.func 46) [(.tmp 56), (.tmp 57)]), none⟩, ⟨(some 59), (.call (.func 64) [(.tmp 55), (.tmp 58)]), none⟩, ⟨(some 60), (.un .not (.tmp 59)), none⟩]) (.cond (.tmp 60) (.ops false [⟨(some 61), (.mv (.tmp 11)), none⟩, ⟨(some 9), (.mv (.tmp 61)), none⟩]) .skip))))) (.ops false [⟨(some 62), (.bin .add (.tmp 47) (.c (.int .i64 (1)))), none⟩, ⟨(some 47), (.mv (.tmp 62)), none⟩]))))))) (.seq (.ops true [⟨(some 63), (.mv (.tmp 9)), none⟩, ⟨(some 64), (.mv (.tmp 9)), none⟩, ⟨(some 65), (.call (.func 46) [(.tmp 63), (.tmp 64)]), none⟩, ⟨(some 66), (.ld true 2 (.tmp 8)), none⟩, ⟨(some 67), (.eqAgg false [(.int .u64), (.int .u64)] (.tmp 65) (.tmp 66)), none⟩, ⟨(some 12), (.mv (.tmp 67)), none⟩]) (.seq (.ops true [⟨(some 68), (.mv (.tmp 9)), none⟩, ⟨(some 69), (.mv (.tmp 9)), none⟩, ⟨(some 70), (.bin .add (.tmp 69) (.c (.int .u64 (1)))), none⟩, ⟨(some 71), (.call (.func 46) [(.tmp 68), (.tmp 70)]), none⟩, ⟨(some 72), (.ld true 2 (.tmp 8)), none⟩, ⟨(some 73), (.call (.func 64) [(.tmp 71), (.tmp 72)]), none⟩, ⟨(some 13), (.mv (.tmp 73)), none⟩]) (.seq (.seq (.ops false [⟨(some 74), (.mv (.tmp 12)), none⟩, ⟨(some 75), (.un .not (.tmp 74)), none⟩, ⟨(some 76), (.mv (.tmp 75)), none⟩, ⟨(some 77), (.mv (.tmp 2)), (some (76, true))⟩, ⟨(some 78), (.bin .eql (.tmp 77) (.c (.int .i64 (2)))), (some (76, true))⟩, ⟨(some 79), (.mv (.tmp 78)), (some (76, true))⟩, ⟨(some 80), (.mv (.tmp 2)), (some (79, false))⟩, ⟨(some 81), (.bin .eql (.tmp 80) (.c (.int .i64 (0)))), (some (79, false))⟩, ⟨(some 82), (.mv (.tmp 81)), (some (79, false))⟩, ⟨(some 83), (.mv (.tmp 13)), (some (82, true))⟩, ⟨(some 84), (.pick (.tmp 82) (.tmp 83) (.c (.bool false))), (some (79, false))⟩, ⟨(some 85), (.pick (.tmp 79) (.c (.bool true)) (.tmp 84)), (some (76, true))⟩, ⟨(some 86), (.pick (.tmp 76) (.tmp 85) (.c (.bool false))), none⟩]) (.cond (.tmp 86) (.ops false [⟨(some 87), (.mv (.tmp 9)), none⟩, ⟨(some 88), (.bin .add (.tmp 87) (.c (.int .u64 (1)))), none⟩, ⟨(some 9), (.mv (.tmp 88)), none⟩]) .skip)) (.seq (.ops false [⟨(some 89), (.mv (.tmp 9)), none⟩, ⟨(some 90), (.cvtI .i64 (.tmp 89)), none⟩, ⟨(some 6), (.mv (.tmp 90)), none⟩, ⟨(some 7), (.mv (.c (.bool true))), none⟩]) .ret)))))))))
theorem ok_wide_Root : compCode Tryd.prog (Tryd.f42.body.getD .skip) [[2, 8, 9, 47]] = some (ir_wide_Root, []) := by kernel_rfl
def live_wide_Root : List (List Nat) := [[2, 8, 9, 47]]


def okRt (a b m : Int) : Prop := okR a b ∧ 0 ≤ m ∧ m ≤ 2
instance (a b m : Int) : Decidable (okRt a b m) := by unfold okRt; infer_instance

def rt (a b m : Int) (r : Nat) : Int × Bool := if okRt a b m then (((r + (rup m r (a.natAbs * b.natAbs)).toNat : Nat) : Int), true) else (0, false)

theorem rt_test (a b : Int) : (a != 0 && b != 0 && !(decide (a < 0) == decide (b < 0))) = true ↔ ¬ 0 ≤ a * b := by
  have hs := sgn_mul a b
  generalize a * b = X at *
  by_cases ha : a < 0 <;> by_cases hb : b < 0 <;> simp [ha, hb] <;> omega

set_option maxHeartbeats 4000000 in
theorem fn_wide_Root (G : Glob) (a b m : Int) (R : Nat) (ha : i64 a) (hb : i64 b) (hm : i64 m) (h1 : R * R ≤ a.natAbs * b.natAbs) (h2 : a.natAbs * b.natAbs < (R + 1) * (R + 1)) : FunEq Tryd.prog G 42 [.int .i64 a, .int .i64 b, .int .i64 m] (.tup [.int .i64 (rt a b m R).1, .bool (rt a b m R).2]) := by
  obtain ⟨ra, ca, hra⟩ := fn_Right' G a
  obtain ⟨rb, cb, hrb⟩ := fn_Right' G b
  have cm := fn_wide_right G m
  obtain ⟨rm, hrm⟩ : ∃ x, x = decide (0 ≤ m ∧ m ≤ 2) := ⟨_, rfl⟩
  rw [← hrm] at cm
  have sa := fn_wide_size G a ha
  have sb := fn_wide_size G b hb
  have ht := rt_test a b
  refine fun_of_vc live_wide_Root Tryd.func42 rfl (by kernel_rfl) ok_wide_Root (by kernel_rfl) Tryd.ntmps42 (run_of ?_)
  simp only [run_seq, run_ops, run_opsNil, run_op0, run_opG, Ins.kind, IOp.apps, List.any_cons, List.any_nil, gAct, pev, Ins.calm, Ins.opds, sureL, evS, St.put, List.map, List.length_cons, List.length_nil, List.replicate, List.cons_append, List.nil_append, List.getD_cons_zero, List.getD_cons_succ, List.set_cons_zero, List.set_cons_succ, SV.res, SV.strip, SV.sure, if_true, Bool.false_eq_true, if_false, true_and, Nat.reduceSub, Nat.zero_add, Nat.reduceAdd, cond_false, Bool.and_self, Bool.true_and, Nat.reduceBEq, Bool.or_self, and_self, ir_wide_Root, Tryd.results42]
  refine run_call ca [] rfl (by exact ⟨trivial, trivial⟩) rfl rfl rfl trivial trivial ?_
  simp only [run_opsNil, run_op0, run_opG, run_cond, run_pick, run_pickG, runP, runPG, gAct, pev, Ins.calm, Ins.opds, sureL, evS, St.put, List.getD_cons_zero, List.getD_cons_succ, List.set_cons_zero, List.set_cons_succ, SV.res, SV.strip, SV.sure, binV, if_true, Bool.false_eq_true, if_false, SV.mix, true_and, and_true, implies_true, cond_true, cond_false, Bool.and_self, Bool.and_true, Bool.true_and, PV.flat, imp_self, Bool.not_eq_true', Bool.and_eq_true, and_self, List.getD_nil, Bool.cond_false_right, Bool.cond_true_left, Bool.not_not]
  refine run_callG (fun _ => cb) _ rfl (by exact fun h => ⟨trivial, h⟩) rfl rfl rfl trivial trivial ?_
  simp only [run_opsNil, run_op0, run_opG, run_cond, run_pick, run_pickG, runP, runPG, gAct, pev, Ins.calm, Ins.opds, sureL, evS, St.put, List.nil_append, List.append_nil, List.getD_cons_zero, List.getD_cons_succ, List.set_cons_zero, List.set_cons_succ, SV.res, SV.strip, SV.sure, binV, if_true, Bool.false_eq_true, if_false, SV.mix, true_and, and_true, implies_true, cond_true, cond_false, Bool.and_self, Bool.and_true, Bool.true_and, fzL, List.foldl_nil, SV.ids, boxIds, List.flatMap_cons, List.flatMap_nil, PV.flat, imp_self, Bool.not_eq_true', Bool.and_eq_true, and_self, List.getD_nil, Bool.cond_false_right, Bool.cond_true_left, Bool.not_not, Bool.not_or]
  refine ⟨by simp, ?_⟩
  refine run_callG (fun _ => cm) _ rfl (by exact fun h => ⟨trivial, h⟩) rfl rfl rfl trivial trivial ?_
  simp only [run_opsNil, run_op0, run_opG, run_cond, run_pick, run_pickG, runP, runPG, gAct, pev, Ins.calm, Ins.opds, sureL, evS, St.put, List.nil_append, List.append_nil, List.getD_cons_zero, List.getD_cons_succ, List.set_cons_zero, List.set_cons_succ, SV.res, SV.strip, SV.sure, binV, if_true, Bool.false_eq_true, if_false, SV.mix, true_and, and_true, implies_true, cond_true, cond_false, Bool.and_self, Bool.and_true, Bool.true_and, fzL, List.foldl_nil, SV.ids, boxIds, List.flatMap_cons, List.flatMap_nil, PV.flat, imp_self, Bool.and_eq_true, and_self, List.getD_nil, Bool.cond_false_right, Bool.cond_true_left, Bool.not_not, Bool.not_or]
  refine ⟨by simp, fun h => ⟨h, fun h2 => ⟨h, h2⟩⟩, fun h => ⟨h, fun h2 => ⟨h, h2⟩⟩, by simp [and_assoc], ?_⟩
  have hcond : (!ra || !rb || !rm || a != 0 && b != 0 && !decide (a < 0) == decide (b < 0)) = true ↔ ¬ okRt a b m := by
    rw [Bool.or_eq_true, ht, Bool.or_eq_true, Bool.or_eq_true]
    have e1 : (!ra) = true ↔ ¬ okW a := by rw [← hra]; cases ra <;> simp
    have e2 : (!rb) = true ↔ ¬ okW b := by rw [← hrb]; cases rb <;> simp
    have e3 : (!rm) = true ↔ ¬ (0 ≤ m ∧ m ≤ 2) := by rw [hrm, Bool.not_eq_true', decide_eq_false_iff_not]
    rw [e1, e2, e3]
    unfold okRt okR
    by_cases z1 : okW a <;> by_cases z2 : okW b <;> by_cases z3 : 0 ≤ a * b <;> by_cases z4 : 0 ≤ m <;> by_cases z5 : m ≤ 2 <;> simp [z1, z2, z3, z4, z5]
  refine runC_of (fun h => ?_) (fun h => ?_)
  · unfold rt
    rw [if_neg (hcond.mp h)]
    simp only [run_seq, run_ops, run_opsNil, run_ret, run_op0, Ins.kind, IOp.apps, List.any_cons, List.any_nil, pev, Ins.calm, Ins.opds, sureL, evS, St.put, List.set_cons_zero, List.set_cons_succ, SV.strip, SV.sure, if_true, true_and, cond_false, Bool.true_and, Nat.reduceBEq, Bool.or_self]
    simp only [List.append_nil, List.getD_cons_zero, List.getD_cons_succ, SV.res, Bool.and_self, Option.map_some, fzL, List.foldl_nil, SV.ids, List.flatMap_cons, List.flatMap_nil, SV.pvS, SV.pvSL, and_self, resK, resSV, oneSV]
  have hok : okRt a b m := Decidable.byContradiction fun hn => by rw [hcond.mpr hn] at h; cases h
  unfold rt
  rw [if_pos hok]
  obtain ⟨⟨oa, ob, oX⟩, m0, m2⟩ := hok
  unfold okW at oa ob
  have va : a.natAbs ≤ 4611686018427387903 := by omega
  have vb : b.natAbs ≤ 4611686018427387903 := by omega
  have hR := root_lt h1 (Nat.lt_succ_of_le va) (Nat.lt_succ_of_le vb)
  generalize hA : a.natAbs = A at *
  generalize hB : b.natAbs = B at *
  have hAB : A * B ≤ 4611686018427387903 * 4611686018427387903 := Nat.mul_le_mul va vb
  have ct := fn_wide_times G A B (by omega) (by omega)
  generalize hp : A * B = p at *
  simp only [run_skip, run_seq, run_ops, run_opsNil, run_block, run_op0, run_alloc, run_st, Ins.kind, IOp.apps, List.any_cons, List.any_nil, pev, Ins.calm, Ins.opds, sureL, evS, St.put, List.map, List.length_cons, List.length_nil, List.cons_append, List.nil_append, List.getD_cons_zero, List.getD_cons_succ, List.set_cons_zero, List.set_cons_succ, SV.res, SV.strip, SV.sure, SV.cells, SV.scal, PV.scal, if_true, Bool.false_eq_true, if_false, true_and, and_true, Nat.zero_add, Nat.reduceAdd, cond_true, cond_false, List.all_cons, Bool.and_self, Bool.and_true, Bool.true_and, Nat.reduceLeDiff, List.take, List.drop, Nat.reduceBEq, Bool.or_false, Bool.or_true, Bool.or_self, spliceL, beq_self_eq_true, Nat.reduceEqDiff, List.all, and_self]
  refine run_call sa _ rfl (by exact ⟨trivial, trivial⟩) rfl rfl rfl trivial trivial ?_
  simp only [run_seq, run_ops, run_opsNil, run_block, run_op0, run_alloc, run_st, Ins.kind, IOp.apps, List.any_cons, List.any_nil, pev, Ins.calm, Ins.opds, sureL, evS, St.put, List.map, List.length_cons, List.length_nil, List.cons_append, List.nil_append, List.append_nil, List.getD_cons_zero, List.getD_cons_succ, List.set_cons_zero, List.set_cons_succ, SV.res, SV.strip, SV.sure, SV.cells, SV.scal, PV.scal, if_true, Bool.false_eq_true, if_false, true_and, and_true, Nat.zero_add, Nat.reduceAdd, cond_false, List.all_cons, Bool.and_self, Bool.and_true, Bool.true_and, Nat.reduceLeDiff, List.take, List.drop, Nat.reduceBEq, Bool.or_self, fzL, List.foldl_nil, SV.ids, boxIds, List.flatMap_cons, List.flatMap_nil, PV.flat, spliceL, Nat.reduceEqDiff, List.all, and_self, List.getD_nil]
  refine run_call sb _ rfl (by exact ⟨trivial, trivial⟩) rfl rfl rfl trivial trivial ?_
  simp only [run_seq, run_ops, run_opsNil, run_block, run_op0, run_alloc, run_st, Ins.kind, IOp.apps, List.any_cons, List.any_nil, pev, Ins.calm, Ins.opds, sureL, evS, St.put, List.map, List.length_cons, List.length_nil, List.cons_append, List.nil_append, List.append_nil, List.getD_cons_zero, List.getD_cons_succ, List.set_cons_zero, List.set_cons_succ, SV.res, SV.strip, SV.sure, SV.cells, SV.scal, PV.scal, if_true, Bool.false_eq_true, if_false, true_and, and_true, Nat.zero_add, Nat.reduceAdd, cond_false, List.all_cons, Bool.and_self, Bool.and_true, Bool.true_and, Nat.reduceLeDiff, List.take, List.drop, Nat.reduceBEq, Bool.or_self, fzL, List.foldl_nil, SV.ids, boxIds, List.flatMap_cons, List.flatMap_nil, PV.flat, spliceL, Nat.reduceEqDiff, List.all, and_self, List.getD_nil]
  refine run_call ct _ rfl (by exact ⟨trivial, trivial, trivial⟩) rfl rfl rfl trivial trivial ?_
  simp only [run_seq, run_ops, run_opsNil, run_block, run_op0, run_alloc, run_st, Ins.kind, IOp.apps, List.any_cons, List.any_nil, pev, Ins.calm, Ins.opds, sureL, evS, St.put, List.map, List.map_cons, List.length_cons, List.length_nil, List.nil_append, List.append_nil, List.getD_cons_zero, List.getD_cons_succ, List.set_cons_zero, List.set_cons_succ, SV.res, SV.strip, SV.sure, SV.cells, PV.cells, SV.scal, PV.scal, if_true, Bool.false_eq_true, if_false, true_and, Nat.zero_add, Nat.reduceAdd, cond_false, List.all_cons, Bool.and_self, Bool.true_and, Nat.reduceLeDiff, List.take, List.drop, Nat.reduceBEq, Bool.or_self, fzL, List.foldl_nil, SV.ids, boxIds, List.flatMap_cons, List.flatMap_nil, PV.flat, PV.flatL, spliceL, List.all, and_self, List.getD_nil]
  refine run_loop (fun n S => ∃ k : Nat, k ≤ 63 ∧ n = 63 - k ∧ S = ⟨slots 91 0 [(2, .p (.int .i64 m)), (8, .ptr 0 0), (9, .p (.int .u64 ((R / 2 ^ n * 2 ^ n : Nat) : Int))), (47, .p (.int .i64 k))], [.box 41 [.p (.int .u64 ((p / 18446744073709551616 : Nat) : Int)), .p (.int .u64 ((p % 18446744073709551616 : Nat) : Int))]]⟩) ?_ ?_
  · have e0 : R / 2 ^ 63 = 0 := Nat.div_eq_of_lt (by omega)
    refine ⟨63, [0], by simp, 0, by omega, rfl, ?_⟩
    rw [e0]
    rfl
  rintro n S' ⟨k, hk, rfl, rfl⟩
  simp only [run_seq, run_ops, run_opsNil, run_op0, run_cond, Ins.kind, IOp.apps, List.any_cons, List.any_nil, pev, Ins.calm, Ins.opds, sureL, evS, St.put, List.getD_cons_zero, List.getD_cons_succ, List.set_cons_zero, List.set_cons_succ, SV.res, SV.strip, SV.sure, binV, if_true, if_false, true_and, Nat.zero_add, Nat.reduceAdd, cond_false, Bool.and_self, Bool.true_and, St.forget, slots, Nat.reduceBEq, Bool.or_self, Nat.reduceEqDiff, and_self, Nat.add_one_ne_zero]
  refine runC_dec (fun h3 => ?_) (fun h3 => ?_)
  · obtain ⟨j, hj⟩ : ∃ j, k + j = 62 := ⟨62 - k, by omega⟩
    rw [show 63 - k = j + 1 by omega] at *
    have f1 : IntKind.i64.wrap (62 - (k : Int)) = (j : Int) := by rw [wrap_i64_id (by unfold i64; omega)]; omega
    have f2 : (if j ≤ 64 then j else 64) = j := if_pos (by omega)
    have hpow : 2 ^ j ≤ 4611686018427387904 := Nat.pow_le_pow_right (by decide) (by omega : j ≤ 62)
    have pw : ∀ n : Nat, (2 : Int) ^ n = ((2 ^ n : Nat) : Int) := fun n => by rw [Int.natCast_pow]; rfl
    have f3 : IntKind.u64.wrap (1 * 2 ^ j) = ((2 ^ j : Nat) : Int) := by rw [IntKind.wrap_u64, Int.one_mul, pw]; generalize 2 ^ j = J at hpow ⊢; omega
    have hle : R / 2 ^ (j + 1) * 2 ^ (j + 1) ≤ R := Nat.div_mul_le_self _ _
    have f4 := bOr_add (R / 2 ^ (j + 1)) (2 ^ j) (j + 1) (by omega) (Nat.pow_lt_pow_right (by decide) (by omega))
    obtain ⟨x, hx⟩ : ∃ x, x = R / 2 ^ (j + 1) * 2 ^ (j + 1) + 2 ^ j := ⟨_, rfl⟩
    rw [← hx] at f4
    have cx := fn_wide_times G x x (by omega) (by omega)
    have cb := fn_wide_below G (p / 18446744073709551616 : Nat) (p % 18446744073709551616 : Nat) (x * x / 18446744073709551616 : Nat) (x * x % 18446744073709551616 : Nat)
    rw [below_lt] at cb
    have hlr := le_root h1 h2 x
    simp only [run_skip, run_seq, run_ops, run_opsNil, run_block, run_op0, run_cond, Ins.kind, IOp.apps, List.any_cons, List.any_nil, pev, Ins.calm, Ins.opds, sureL, evS, St.put, List.length_cons, List.length_nil, List.getD_cons_zero, List.getD_cons_succ, List.set_cons_zero, List.set_cons_succ, SV.res, SV.strip, SV.sure, SV.ld, binV, shV, if_true, Bool.false_eq_true, if_false, true_and, Nat.zero_add, Nat.reduceAdd, cond_true, cond_false, Bool.and_self, Bool.true_and, Nat.reduceLeDiff, List.take, List.drop, Nat.reduceBEq, Bool.or_self, Option.map_some, Nat.min_def, bits_u64, and_self, aggS, allP, f1, f2, f3, f4, Int.toNat_natCast]
    refine ⟨by omega, ?_⟩
    refine run_call cx _ rfl (by exact ⟨trivial, trivial, trivial⟩) rfl rfl rfl trivial (by first | trivial | rfl) ?_
    simp only [run_opsNil, run_op0, run_cond, pev, Ins.calm, Ins.opds, sureL, evS, St.put, List.append_nil, List.getD_cons_zero, List.getD_cons_succ, List.set_cons_zero, List.set_cons_succ, SV.res, SV.strip, SV.sure, if_true, Bool.false_eq_true, if_false, true_and, Bool.and_self, Bool.true_and, fzL, List.foldl_nil, SV.ids, boxIds, List.flatMap_cons, List.flatMap_nil, PV.flat, PV.flatL, and_self]
    refine run_call cb _ rfl (by exact ⟨trivial, trivial, trivial⟩) rfl rfl rfl trivial (by first | trivial | rfl) ?_
    simp only [run_opsNil, run_op0, run_cond, pev, Ins.calm, Ins.opds, sureL, evS, St.put, List.append_nil, List.getD_cons_zero, List.getD_cons_succ, List.set_cons_zero, List.set_cons_succ, SV.res, SV.strip, SV.sure, if_true, true_and, Bool.true_and, fzL, List.foldl_nil, SV.ids, boxIds, List.flatMap_cons, List.flatMap_nil, PV.flat]
    have f5 : IntKind.i64.wrap ((k : Int) + 1) = ((k + 1 : Nat) : Int) := by rw [wrap_i64_id (by unfold i64; omega)]; omega
    refine runC_of (fun h4 => ?_) (fun h4 => ?_)
    · have h5 : x ≤ R := hlr.mp (by simpa using h4)
      have h6 := root_high (by rw [← hx]; exact h5)
      rw [← hx] at h6
      simp only [run_nil, run_eb, run_ops, run_opsNil, run_op0, Ins.kind, IOp.apps, List.any_cons, List.any_nil, pev, Ins.calm, Ins.opds, sureL, evS, St.put, List.getD_cons_zero, List.getD_cons_succ, List.set_cons_zero, List.set_cons_succ, SV.res, SV.strip, SV.sure, binV, if_true, Bool.false_eq_true, if_false, true_and, Nat.zero_add, Nat.reduceAdd, cond_false, Bool.and_self, Bool.true_and, forgetL, List.contains_cons, List.contains_nil, Nat.reduceBEq, Bool.or_false, Bool.or_true, Bool.or_self, beq_self_eq_true, and_self, SV.ren, SV.renL, f5]
      refine ⟨j, [0], by simp, by omega, k + 1, by omega, by omega, ?_⟩
      rw [h6]
      rfl
    · have h5 : ¬ x ≤ R := fun h => by have := hlr.mpr h; simp at h4; omega
      have h6 := root_low (by rw [← hx]; exact h5)
      simp only [run_nil, run_skip, run_eb, run_ops, run_opsNil, run_op0, Ins.kind, IOp.apps, List.any_cons, List.any_nil, pev, Ins.calm, Ins.opds, sureL, evS, St.put, List.getD_cons_zero, List.getD_cons_succ, List.set_cons_zero, List.set_cons_succ, SV.res, SV.strip, SV.sure, binV, if_true, Bool.false_eq_true, if_false, true_and, Nat.zero_add, Nat.reduceAdd, cond_false, Bool.and_self, Bool.true_and, forgetL, List.contains_cons, List.contains_nil, Nat.reduceBEq, Bool.or_false, Bool.or_true, Bool.or_self, beq_self_eq_true, and_self, SV.ren, SV.renL, f5]
      refine ⟨j, [0], by simp, by omega, k + 1, by omega, by omega, ?_⟩
      rw [h6]
      rfl
  · have hk3 : k = 63 := by omega
    subst hk3
    rw [show 63 - 63 = 0 from rfl, Nat.pow_zero, Nat.div_one, Nat.mul_one]
    have cx := fn_wide_times G R R (by omega) (by omega)
    have cy := fn_wide_times G R (R + 1) (by omega) (by omega)
    have cb := fn_wide_below G (R * (R + 1) / 18446744073709551616 : Nat) (R * (R + 1) % 18446744073709551616 : Nat) (p / 18446744073709551616 : Nat) (p % 18446744073709551616 : Nat)
    rw [below_lt] at cb
    have f6 : IntKind.u64.wrap ((R : Int) + 1) = ((R + 1 : Nat) : Int) := by rw [IntKind.wrap_u64]; omega
    simp only [run_seq, run_ops, run_opsNil, run_exit, runX_nil, runX_ir, runX_eb, run_op0, run_opG, Ins.kind, IOp.apps, List.any_cons, List.any_nil, gAct, pev, Ins.calm, Ins.opds, sureL, evS, St.put, List.length_cons, List.length_nil, List.getD_cons_zero, List.getD_cons_succ, List.set_cons_zero, List.set_cons_succ, SV.res, SV.strip, SV.sure, SV.ld, binV, if_true, Bool.false_eq_true, if_false, true_and, Nat.zero_add, Nat.reduceAdd, cond_true, cond_false, Bool.and_self, Bool.true_and, Nat.reduceLeDiff, List.take, List.drop, Nat.reduceBEq, Bool.or_self, Option.map_some, SV.pvS, Int.reduceLT, Int.cast_ofNat_Int, and_self, aggS, allP]
    refine run_call cx _ rfl (by exact ⟨trivial, trivial, trivial⟩) rfl rfl rfl trivial (by first | trivial | rfl) ?_
    simp only [run_seq, run_ops, run_opsNil, run_op0, run_opG, run_cond, run_pick, run_pickG, runP, runPG, Ins.kind, IOp.apps, List.any_cons, List.any_nil, gAct, pev, Ins.calm, Ins.opds, sureL, evS, St.put, List.length_cons, List.length_nil, List.append_nil, List.getD_cons_zero, List.getD_cons_succ, List.set_cons_zero, List.set_cons_succ, SV.res, SV.strip, SV.sure, SV.ld, binV, if_true, Bool.false_eq_true, if_false, SV.mix, true_and, and_true, Nat.zero_add, Nat.reduceAdd, implies_true, cond_true, cond_false, Bool.and_self, Bool.and_true, Bool.true_and, Nat.reduceLeDiff, List.take, List.drop, Nat.reduceBEq, Bool.or_self, Option.map_some, fzL, List.foldl_nil, SV.ids, boxIds, List.flatMap_cons, List.flatMap_nil, SV.pvS, PV.flat, PV.flatL, imp_self, Bool.not_eq_true', Bool.and_eq_true, and_self, eqCells, aggS, allP, eq_pair, f6]
    refine run_call cy _ rfl (by exact ⟨trivial, trivial, trivial⟩) rfl rfl rfl trivial (by first | trivial | rfl) ?_
    simp only [run_seq, run_ops, run_opsNil, run_op0, run_opG, run_cond, run_pick, run_pickG, runP, runPG, Ins.kind, IOp.apps, List.any_cons, List.any_nil, gAct, pev, Ins.calm, Ins.opds, sureL, evS, St.put, List.length_cons, List.length_nil, List.append_nil, List.getD_cons_zero, List.getD_cons_succ, List.set_cons_zero, List.set_cons_succ, SV.res, SV.strip, SV.sure, SV.ld, binV, if_true, Bool.false_eq_true, if_false, SV.mix, true_and, and_true, Nat.zero_add, Nat.reduceAdd, implies_true, cond_true, cond_false, Bool.and_self, Bool.and_true, Bool.true_and, Nat.reduceLeDiff, List.take, List.drop, Nat.reduceBEq, Bool.or_self, Option.map_some, fzL, List.foldl_nil, SV.ids, boxIds, List.flatMap_cons, List.flatMap_nil, PV.flat, PV.flatL, imp_self, Bool.not_eq_true', Bool.and_eq_true, and_self, aggS, allP]
    refine run_call cb _ rfl (by exact ⟨trivial, trivial, trivial⟩) rfl rfl rfl trivial (by first | trivial | rfl) ?_
    simp only [run_seq, run_ops, run_opsNil, run_op0, run_opG, run_cond, run_pick, run_pickG, runP, runPG, Ins.kind, IOp.apps, List.any_cons, List.any_nil, gAct, pev, Ins.calm, Ins.opds, sureL, evS, St.put, List.append_nil, List.getD_cons_zero, List.getD_cons_succ, List.set_cons_zero, List.set_cons_succ, SV.res, SV.strip, SV.sure, binV, if_true, Bool.false_eq_true, if_false, SV.mix, true_and, and_true, implies_true, cond_true, cond_false, Bool.and_self, Bool.and_true, Bool.true_and, Nat.reduceBEq, Bool.or_self, fzL, List.foldl_nil, SV.ids, boxIds, List.flatMap_cons, List.flatMap_nil, PV.flat, imp_self, Bool.not_eq_true', Bool.and_eq_true, and_self, Bool.cond_false_right, Bool.cond_true_left]
    refine ⟨fun h => ⟨h, fun h2 => ⟨h, h2⟩⟩, fun h => ⟨h, fun h2 => ⟨h, h2⟩⟩, ?_⟩
    have hu : (!decide (R * R = p) && (m == 2 || m == 0 && decide (R * (R + 1) < p))) = rup m R p := by
      unfold rup
      rfl
    have f7 : ∀ Q : Nat, Q ≤ 4611686018427387905 → IntKind.i64.wrap (Q : Int) = (Q : Int) := fun Q h => wrap_i64_id (by unfold i64; omega)
    rw [hu]
    refine runC_of (fun h4 => ?_) (fun h4 => ?_)
    · rw [h4]
      simp only [run_seq, run_ops, run_opsNil, run_ret, run_op0, Ins.kind, IOp.apps, List.any_cons, List.any_nil, pev, Ins.calm, Ins.opds, sureL, evS, St.put, List.getD_cons_zero, List.getD_cons_succ, List.set_cons_zero, List.set_cons_succ, SV.res, SV.strip, SV.sure, binV, if_true, true_and, cond_false, Bool.and_self, Bool.true_and, Nat.reduceBEq, Bool.or_self, and_self, f6, f7 (R + 1) (by omega)]
      simp only [List.append_nil, List.getD_cons_zero, List.getD_cons_succ, SV.res, true_and, Bool.true_and, Option.map_some, fzL, List.foldl_nil, SV.ids, List.flatMap_cons, List.flatMap_nil, SV.pvS, SV.pvSL, resK, resSV, oneSV]
      rfl
    · rw [h4]
      simp only [run_skip, run_seq, run_ops, run_opsNil, run_ret, run_op0, Ins.kind, IOp.apps, List.any_cons, List.any_nil, pev, Ins.calm, Ins.opds, sureL, evS, St.put, List.getD_cons_zero, List.getD_cons_succ, List.set_cons_zero, List.set_cons_succ, SV.res, SV.strip, SV.sure, if_true, true_and, cond_false, Bool.true_and, Nat.reduceBEq, Bool.or_self, f7 R (by omega)]
      simp only [List.append_nil, List.getD_cons_zero, List.getD_cons_succ, SV.res, true_and, Bool.true_and, Option.map_some, fzL, List.foldl_nil, SV.ids, List.flatMap_cons, List.flatMap_nil, SV.pvS, SV.pvSL, resK, resSV, oneSV]
      rfl
end Go.Proofs
