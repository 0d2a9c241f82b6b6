import Derived.Test.YtbfhholefjngpaaFxCut
import Derived.Laws.Bits64
import Derived.Test.YtbfhholefjngpaaWC8
import Derived.Test.YtbfhholefjngpaaWC9
set_option linter.unusedSimpArgs false
set_option linter.unusedVariables false
set_option maxRecDepth 100000
namespace Go.Proofs
open Go Go.Fx Go.Bitrow Go.Mdlaw
def ir_coupletref01_MulDiv : IR := (.seq (.ops false [⟨(some 8), (.mv (.c (.int .i64 (0)))), none⟩, ⟨(some 9), (.mv (.c (.bool false))), none⟩]) (.seq (.seq (.ops false [⟨(some 22), (.mv (.tmp 0)), none⟩, ⟨(some 23), (.call (.func 27) [(.tmp 22)]), none⟩, ⟨(some 24), (.un .not (.tmp 23)), none⟩, ⟨(some 25), (.mv (.tmp 24)), none⟩, ⟨(some 26), (.mv (.tmp 1)), (some (25, false))⟩, ⟨(some 27), (.call (.func 27) [(.tmp 26)]), (some (25, false))⟩, ⟨(some 28), (.un .not (.tmp 27)), (some (25, false))⟩, ⟨(some 29), (.pick (.tmp 25) (.c (.bool true)) (.tmp 28)), none⟩, ⟨(some 30), (.mv (.tmp 29)), none⟩, ⟨(some 31), (.mv (.tmp 2)), (some (30, false))⟩, ⟨(some 32), (.call (.func 27) [(.tmp 31)]), (some (30, false))⟩, ⟨(some 33), (.un .not (.tmp 32)), (some (30, false))⟩, ⟨(some 34), (.pick (.tmp 30) (.c (.bool true)) (.tmp 33)), none⟩, ⟨(some 35), (.mv (.tmp 34)), none⟩, ⟨(some 36), (.mv (.tmp 2)), (some (35, false))⟩, ⟨(some 37), (.bin .eql (.tmp 36) (.c (.int .i64 (0)))), (some (35, false))⟩, ⟨(some 38), (.pick (.tmp 35) (.c (.bool true)) (.tmp 37)), none⟩, ⟨(some 39), (.mv (.tmp 38)), none⟩, ⟨(some 40), (.mv (.tmp 3)), (some (39, false))⟩, ⟨(some 41), (.bin .lss (.tmp 40) (.c (.int .i64 (0)))), (some (39, false))⟩, ⟨(some 42), (.pick (.tmp 39) (.c (.bool true)) (.tmp 41)), none⟩, ⟨(some 43), (.mv (.tmp 42)), none⟩, ⟨(some 44), (.mv (.tmp 3)), (some (43, false))⟩, ⟨(some 45), (.bin .gtr (.tmp 44) (.c (.int .i64 (2)))), (some (43, false))⟩, ⟨(some 46), (.pick (.tmp 43) (.c (.bool true)) (.tmp 45)), none⟩]) (.cond (.tmp 46) (.seq (.ops false [⟨(some 8), (.mv (.c (.int .i64 (0)))), none⟩, ⟨(some 9), (.mv (.c (.bool false))), none⟩]) .ret) .skip)) (.seq (.ops false [⟨(some 47), (.mv (.tmp 0)), none⟩, ⟨(some 48), (.call (.func 75) [(.tmp 47)]), none⟩, ⟨(some 49), (.mv (.tmp 1)), none⟩, ⟨(some 50), (.call (.func 75) [(.tmp 49)]), none⟩, ⟨(some 51), (.call (.func 33) [(.tmp 48), (.tmp 50)]), none⟩, ⟨(some 10), (.mv (.tmp 51)), none⟩]) (.seq (.ops false [⟨(some 52), (.mv (.tmp 2)), none⟩, ⟨(some 53), (.call (.func 75) [(.tmp 52)]), none⟩, ⟨(some 54), (.call (.func 76) [(.tmp 53)]), none⟩, ⟨(some 11), (.mv (.tmp 54)), none⟩]) (.seq (.ops false [⟨(some 55), (.call (.func 76) [(.c (.int .i64 (0)))]), none⟩, ⟨(some 12), (.mv (.tmp 55)), none⟩]) (.seq (.ops false [⟨(some 56), (.call (.func 76) [(.c (.int .i64 (0)))]), none⟩, ⟨(some 13), (.mv (.tmp 56)), none⟩]) (.seq (.seq (.ops false [⟨(some 14), (.mv (.c (.int .i64 (129)))), none⟩]) (.block 0 (.loop [0, 1, 2, 3, 10, 11, 12, 13, 14] (.seq (.seq (.ops false [⟨(some 57), (.mv (.tmp 14)), none⟩, ⟨(some 58), (.bin .geq (.tmp 57) (.c (.int .i64 (0)))), none⟩]) (.cond (.tmp 58) .skip (.exit 0))) (.seq (.block 1 (.seq (.ops false [⟨(some 61), (.mv (.tmp 13)), none⟩, ⟨(some 62), (.mv (.tmp 10)), none⟩, ⟨(some 63), (.mv (.tmp 14)), none⟩, ⟨(some 64), (.ixA 1 (.tmp 62) (.tmp 63)), none⟩, ⟨(some 65), (.ld false 1 (.tmp 64)), none⟩, ⟨(some 66), (.call (.func 77) [(.tmp 61), (.tmp 65)]), none⟩, ⟨(some 13), (.mv (.tmp 66)), none⟩]) (.seq (.ops false [⟨(some 15), (.mv (.c (.int .i64 (0)))), none⟩]) (.seq (.seq (.ops false [⟨(some 67), (.mv (.tmp 13)), none⟩, ⟨(some 68), (.mv (.tmp 11)), none⟩, ⟨(some 69), (.call (.func 34) [(.tmp 67), (.tmp 68)]), none⟩, ⟨(some 70), (.un .not (.tmp 69)), none⟩]) (.cond (.tmp 70) (.seq (.ops false [⟨(some 71), (.mv (.tmp 13)), none⟩, ⟨(some 72), (.mv (.tmp 11)), none⟩, ⟨(some 73), (.call (.func 78) [(.tmp 71), (.tmp 72)]), none⟩, ⟨(some 13), (.mv (.tmp 73)), none⟩]) (.ops false [⟨(some 15), (.mv (.c (.int .i64 (1)))), none⟩])) .skip)) (.ops false [⟨(some 74), (.mv (.tmp 12)), none⟩, ⟨(some 75), (.mv (.tmp 15)), none⟩, ⟨(some 76), (.call (.func 77) [(.tmp 74), (.tmp 75)]), none⟩, ⟨(some 12), (.mv (.tmp 76)), none⟩]))))) (.ops false [⟨(some 59), (.mv (.tmp 14)), none⟩, ⟨(some 60), (.bin .sub (.tmp 59) (.c (.int .i64 (1)))), none⟩, ⟨(some 14), (.mv (.tmp 60)), none⟩])))))) (.seq (.ops false [⟨(some 16), (.mv (.c (.int .i64 (0)))), none⟩]) (.seq (.seq (.ops false [⟨(some 77), (.mv (.tmp 0)), none⟩, ⟨(some 78), (.bin .lss (.tmp 77) (.c (.int .i64 (0)))), none⟩]) (.cond (.tmp 78) (.ops false [⟨(some 79), (.mv (.tmp 16)), none⟩, ⟨(some 80), (.bin .add (.tmp 79) (.c (.int .i64 (1)))), none⟩, ⟨(some 16), (.mv (.tmp 80)), none⟩]) .skip)) (.seq (.seq (.ops false [⟨(some 81), (.mv (.tmp 1)), none⟩, ⟨(some 82), (.bin .lss (.tmp 81) (.c (.int .i64 (0)))), none⟩]) (.cond (.tmp 82) (.ops false [⟨(some 83), (.mv (.tmp 16)), none⟩, ⟨(some 84), (.bin .add (.tmp 83) (.c (.int .i64 (1)))), none⟩, ⟨(some 16), (.mv (.tmp 84)), none⟩]) .skip)) (.seq (.seq (.ops false [⟨(some 85), (.mv (.tmp 2)), none⟩, ⟨(some 86), (.bin .lss (.tmp 85) (.c (.int .i64 (0)))), none⟩]) (.cond (.tmp 86) (.ops false [⟨(some 87), (.mv (.tmp 16)), none⟩, ⟨(some 88), (.bin .add (.tmp 87) (.c (.int .i64 (1)))), none⟩, ⟨(some 16), (.mv (.tmp 88)), none⟩]) .skip)) (.seq (.ops false [⟨(some 89), (.call (.func 76) [(.c (.int .i64 (0)))]), none⟩, ⟨(some 90), (.mv (.tmp 13)), none⟩, ⟨(some 91), (.call (.func 34) [(.tmp 89), (.tmp 90)]), none⟩, ⟨(some 17), (.mv (.tmp 91)), none⟩]) (.seq (.ops false [⟨(some 92), (.mv (.tmp 13)), none⟩, ⟨(some 93), (.call (.func 77) [(.tmp 92), (.c (.int .i64 (0)))]), none⟩, ⟨(some 18), (.mv (.tmp 93)), none⟩]) (.seq (.ops false [⟨(some 19), (.mv (.c (.bool false))), none⟩]) (.seq (.seq (.ops false [⟨(some 94), (.mv (.tmp 3)), none⟩, ⟨(some 95), (.bin .eql (.tmp 94) (.c (.int .i64 (0)))), none⟩]) (.cond (.tmp 95) (.ops false [⟨(some 96), (.mv (.tmp 11)), none⟩, ⟨(some 97), (.mv (.tmp 18)), none⟩, ⟨(some 98), (.call (.func 34) [(.tmp 96), (.tmp 97)]), none⟩, ⟨(some 99), (.mv (.tmp 98)), none⟩, ⟨(some 100), (.mv (.tmp 17)), (some (99, false))⟩, ⟨(some 101), (.mv (.tmp 100)), (some (99, false))⟩, ⟨(some 102), (.mv (.tmp 18)), (some (101, true))⟩, ⟨(some 103), (.mv (.tmp 11)), (some (101, true))⟩, ⟨(some 104), (.call (.func 34) [(.tmp 102), (.tmp 103)]), (some (101, true))⟩, ⟨(some 105), (.un .not (.tmp 104)), (some (101, true))⟩, ⟨(some 106), (.pick (.tmp 101) (.tmp 105) (.c (.bool false))), (some (99, false))⟩, ⟨(some 107), (.mv (.tmp 106)), (some (99, false))⟩, ⟨(some 108), (.mv (.tmp 12)), (some (107, true))⟩, ⟨(some 109), (.ixA 1 (.tmp 108) (.c (.int .i64 (0)))), (some (107, true))⟩, ⟨(some 110), (.ld false 1 (.tmp 109)), (some (107, true))⟩, ⟨(some 111), (.bin .eql (.tmp 110) (.c (.int .i64 (1)))), (some (107, true))⟩, ⟨(some 112), (.pick (.tmp 107) (.tmp 111) (.c (.bool false))), (some (99, false))⟩, ⟨(some 113), (.pick (.tmp 99) (.c (.bool true)) (.tmp 112)), none⟩, ⟨(some 19), (.mv (.tmp 113)), none⟩]) .skip)) (.seq (.seq (.ops false [⟨(some 114), (.mv (.tmp 3)), none⟩, ⟨(some 115), (.bin .eql (.tmp 114) (.c (.int .i64 (1)))), none⟩]) (.cond (.tmp 115) (.ops false [⟨(some 116), (.mv (.tmp 17)), none⟩, ⟨(some 117), (.mv (.tmp 116)), none⟩, ⟨(some 118), (.mv (.tmp 16)), (some (117, true))⟩, ⟨(some 119), (.bin .rem (.tmp 118) (.c (.int .i64 (2)))), (some (117, true))⟩, ⟨(some 120), (.bin .eql (.tmp 119) (.c (.int .i64 (1)))), (some (117, true))⟩, ⟨(some 121), (.pick (.tmp 117) (.tmp 120) (.c (.bool false))), none⟩, ⟨(some 19), (.mv (.tmp 121)), none⟩]) .skip)) (.seq (.seq (.ops false [⟨(some 122), (.mv (.tmp 3)), none⟩, ⟨(some 123), (.bin .eql (.tmp 122) (.c (.int .i64 (2)))), none⟩]) (.cond (.tmp 123) (.ops false [⟨(some 124), (.mv (.tmp 17)), none⟩, ⟨(some 125), (.mv (.tmp 124)), none⟩, ⟨(some 126), (.mv (.tmp 16)), (some (125, true))⟩, ⟨(some 127), (.bin .rem (.tmp 126) (.c (.int .i64 (2)))), (some (125, true))⟩, ⟨(some 128), (.bin .eql (.tmp 127) (.c (.int .i64 (0)))), (some (125, true))⟩, ⟨(some 129), (.pick (.tmp 125) (.tmp 128) (.c (.bool false))), none⟩, ⟨(some 19), (.mv (.tmp 129)), none⟩]) .skip)) (.seq (.seq (.ops false [⟨(some 130), (.mv (.tmp 19)), none⟩]) (.cond (.tmp 130) (.ops false [⟨(some 131), (.mv (.tmp 12)), none⟩, ⟨(some 132), (.call (.func 76) [(.c (.int .i64 (1)))]), none⟩, ⟨(some 133), (.call (.func 79) [(.tmp 131), (.tmp 132)]), none⟩, ⟨(some 12), (.mv (.tmp 133)), none⟩]) .skip)) (.seq (.ops false [⟨(some 135), (.mv (.tmp 12)), none⟩, ⟨(some 136), (.call (.func 80) [(.tmp 135)]), none⟩, ⟨(some 134), (.mv (.tmp 136)), none⟩, ⟨(some 137), (.ext (.tmp 134) 0), none⟩, ⟨(some 138), (.ext (.tmp 134) 1), none⟩, ⟨(some 20), (.mv (.tmp 137)), none⟩, ⟨(some 21), (.mv (.tmp 138)), none⟩]) (.seq (.seq (.ops false [⟨(some 139), (.mv (.tmp 21)), none⟩, ⟨(some 140), (.un .not (.tmp 139)), none⟩]) (.cond (.tmp 140) (.seq (.ops false [⟨(some 8), (.mv (.c (.int .i64 (0)))), none⟩, ⟨(some 9), (.mv (.c (.bool false))), none⟩]) .ret) .skip)) (.seq (.seq (.ops false [⟨(some 141), (.mv (.tmp 16)), none⟩, ⟨(some 142), (.bin .rem (.tmp 141) (.c (.int .i64 (2)))), none⟩, ⟨(some 143), (.bin .eql (.tmp 142) (.c (.int .i64 (1)))), none⟩]) (.cond (.tmp 143) (.seq (.ops false [⟨(some 144), (.mv (.tmp 20)), none⟩, ⟨(some 145), (.bin .sub (.c (.int .i64 (0))) (.tmp 144)), none⟩, ⟨(some 8), (.mv (.tmp 145)), none⟩, ⟨(some 9), (.mv (.c (.bool true))), none⟩]) .ret) .skip)) (.seq (.ops false [⟨(some 146), (.mv (.tmp 20)), none⟩, ⟨(some 8), (.mv (.tmp 146)), none⟩, ⟨(some 9), (.mv (.c (.bool true))), none⟩]) .ret))))))))))))))))))))))
theorem ok_coupletref01_MulDiv : compCode Try.prog (Try.f25.body.getD .skip) [[0, 1, 2, 3, 10, 11, 12, 13, 14]] = some (ir_coupletref01_MulDiv, []) := by kernel_rfl
def live_coupletref01_MulDiv : List (List Nat) := [[0, 1, 2, 3, 10, 11, 12, 13, 14]]
theorem rowP_flat (n : Nat) : (rowP n).flat = false := rfl
theorem w1 : IntKind.i64.wrap 1 = 1 := rfl
theorem w2 : IntKind.i64.wrap 2 = 2 := rfl
theorem w3 : IntKind.i64.wrap 3 = 3 := rfl
theorem k10 : ((1 : Int) == 0) = false := rfl
theorem k20 : ((2 : Int) == 0) = false := rfl
theorem k01 : ((0 : Int) == 1) = false := rfl
theorem k02 : ((0 : Int) == 2) = false := rfl
theorem k12 : ((1 : Int) == 2) = false := rfl
theorem k21 : ((2 : Int) == 1) = false := rfl
set_option maxHeartbeats 4000000 in
theorem fn_ref_MulDiv (G : Glob) (a b c m : Int) : FunEq Try.prog G 25 [.int .i64 a, .int .i64 b, .int .i64 c, .int .i64 m] (.tup [.int .i64 (md a b c m).1, .bool (md a b c m).2]) := by
  obtain ⟨ra, ca, hra⟩ := fn_ref_Right G a
  obtain ⟨rb, cb, hrb⟩ := fn_ref_Right G b
  obtain ⟨rc, cc, hrc⟩ := fn_ref_Right G c
  refine fun_of_does live_coupletref01_MulDiv Try.func25 rfl (by kernel_rfl) ok_coupletref01_MulDiv (by kernel_rfl) Try.ntmps25 ?_
  have hiff : ((!ra || !rb || !rc || c == 0 || decide (m < 0) || decide (m > 2)) = true) ↔ ¬ okM a b c m := by
    have e1 : (!ra) = true ↔ ¬ okW a := by rw [← hra]; cases ra <;> simp
    have e2 : (!rb) = true ↔ ¬ okW b := by rw [← hrb]; cases rb <;> simp
    have e3 : (!rc) = true ↔ ¬ okW c := by rw [← hrc]; cases rc <;> simp
    simp only [Bool.or_eq_true, e1, e2, e3, beq_iff_eq, decide_eq_true_eq, okM]
    by_cases z1 : okW a <;> by_cases z2 : okW b <;> by_cases z3 : okW c <;> simp [z1, z2, z3] <;> omega
  by_cases hok : okM a b c m
  case neg =>
    rw [md_neg hok]
    have hc := hiff.mpr hok
    refine does_of ?_
    simp only [run_seq, run_ops, run_opsNil, run_op0, run_opG, Ins.kind, IOp.apps, List.any_cons, List.any_nil, gAct, pev, Ins.calm, Ins.opds, sureL, evS, St.put, List.map, List.length_cons, List.length_nil, List.replicate, List.cons_append, List.nil_append, List.getD_cons_zero, List.getD_cons_succ, List.set_cons_zero, List.set_cons_succ, SV.res, SV.strip, SV.sure, if_true, Bool.false_eq_true, if_false, true_and, Nat.reduceSub, Nat.zero_add, Nat.reduceAdd, cond_false, Bool.and_self, Bool.true_and, Nat.reduceBEq, Bool.or_self, and_self, ir_coupletref01_MulDiv, Try.results25]
    refine run_call ca _ rfl (by exact ⟨trivial, trivial⟩) rfl rfl rfl trivial trivial ?_
    simp only [run_opsNil, run_op0, run_opG, run_cond, run_pick, runP, gAct, pev, Ins.calm, Ins.opds, sureL, evS, St.put, List.nil_append, List.append_nil, List.getD_cons_zero, List.getD_cons_succ, List.set_cons_zero, List.set_cons_succ, SV.res, SV.strip, SV.sure, binV, if_true, Bool.false_eq_true, if_false, SV.mix, true_and, and_true, implies_true, cond_false, Bool.and_self, Bool.and_true, Bool.true_and, fzL, List.foldl_nil, SV.ids, boxIds, List.flatMap_cons, List.flatMap_nil, PV.flat, imp_self, Bool.not_eq_true', and_self, List.getD_nil, Bool.cond_true_left, Bool.not_not]
    refine run_callG (fun _ => cb) _ rfl (by exact fun h => ⟨trivial, h⟩) rfl rfl rfl trivial trivial ?_
    simp only [run_opsNil, run_op0, run_opG, run_cond, run_pick, runP, gAct, pev, Ins.calm, Ins.opds, sureL, evS, St.put, List.nil_append, List.append_nil, List.getD_cons_zero, List.getD_cons_succ, List.set_cons_zero, List.set_cons_succ, SV.res, SV.strip, SV.sure, binV, if_true, Bool.false_eq_true, if_false, SV.mix, true_and, and_true, implies_true, cond_false, Bool.and_self, Bool.and_true, Bool.true_and, fzL, List.foldl_nil, SV.ids, boxIds, List.flatMap_cons, List.flatMap_nil, PV.flat, imp_self, Bool.not_eq_true', Bool.and_eq_true, and_self, List.getD_nil, Bool.cond_true_left, Bool.not_not, Bool.not_or]
    refine ⟨by simp, ?_⟩
    refine run_callG (fun _ => cc) _ rfl (by exact fun h => ⟨trivial, h⟩) rfl rfl rfl trivial trivial ?_
    simp only [run_seq, run_ops, run_opsNil, run_ret, run_op0, run_opG, run_cond, runC_true, run_pick, runP, Ins.kind, IOp.apps, List.any_cons, List.any_nil, gAct, pev, Ins.calm, Ins.opds, sureL, evS, St.put, List.nil_append, List.append_nil, List.getD_cons_zero, List.getD_cons_succ, List.set_cons_zero, List.set_cons_succ, SV.res, SV.strip, SV.sure, binV, if_true, Bool.false_eq_true, if_false, SV.mix, true_and, and_true, implies_true, cond_false, Bool.and_self, Bool.and_true, Bool.true_and, Nat.reduceBEq, Bool.or_self, fzL, List.foldl_nil, SV.ids, boxIds, List.flatMap_cons, List.flatMap_nil, PV.flat, imp_self, Bool.not_eq_true', Bool.and_eq_true, and_self, List.getD_nil, Bool.cond_true_left, Bool.not_not, Bool.not_or, hc]
    refine ⟨by simp, by simp, by simp, by simp, ?_⟩
    simp only [List.append_nil, List.getD_cons_zero, List.getD_cons_succ, SV.res, Bool.and_self, Option.map_some, fzL, List.foldl_nil, SV.ids, List.flatMap_cons, List.flatMap_nil, SV.pvS, SV.pvSL, and_self, resK, resSV, oneSV]
  have hcond : (!ra || !rb || !rc || c == 0 || decide (m < 0) || decide (m > 2)) = false := by
    cases h : (!ra || !rb || !rc || c == 0 || decide (m < 0) || decide (m > 2))
    · rfl
    · exact absurd hok (hiff.mp h)
  rw [md_pos hok]
  obtain ⟨oa, ob, oc, cz, m0, m2⟩ := hok
  have sa := fn_ref_size G a oa
  have sb := fn_ref_size G b ob
  have sc := fn_ref_size G c oc
  unfold okW at oa ob oc
  unfold core
  have va : a.natAbs ≤ 4611686018427387903 := by omega
  have vb : b.natAbs ≤ 4611686018427387903 := by omega
  have vc' : c.natAbs ≤ 4611686018427387903 := by omega
  have vd : 0 < c.natAbs := by omega
  generalize hA : a.natAbs = A at *
  generalize hB : b.natAbs = B at *
  generalize hD : c.natAbs = D at *
  have hAB : A * B ≤ 4611686018427387903 * 4611686018427387903 := Nat.mul_le_mul va vb
  have ct := fn_Times G A B (by omega) (by omega)
  have cd := fn_Bits G D (by omega)
  have c0 := fn_Bits G 0 (by omega)
  generalize hp : A * B = p at *
  have hp130 : p < 2 ^ 130 := by omega
  have hq0 : p / D ≤ p := Nat.div_le_self _ _
  have hr0 := Nat.mod_lt p vd
  have hdig := fun k => div_low (p := p) (d := D) (k := k) vd
  have hdig2 := fun k => div_high (p := p) (d := D) (k := k) vd
  have hremlt : ∀ k, p / 2 ^ k % D < D := fun k => Nat.mod_lt _ vd
  refine does_cut 7 [0, 1, 2, 3, 11, 12, 13] (fun S => S = ⟨slots 147 0 [(0, .p (.int .i64 a)), (1, .p (.int .i64 b)), (2, .p (.int .i64 c)), (3, .p (.int .i64 m)), (11, .p (rowP D)), (12, .p (rowP (p / D))), (13, .p (rowP (p % D)))], []⟩) (by decide +kernel) ?_ ?_
  · simp only [run_seq, run_ops, run_opsNil, run_op0, run_opG, Ins.kind, IOp.apps, List.any_cons, List.any_nil, gAct, pev, Ins.calm, Ins.opds, sureL, evS, St.put, List.map, List.length_cons, List.length_nil, List.replicate, List.cons_append, List.nil_append, List.getD_cons_zero, List.getD_cons_succ, List.set_cons_zero, List.set_cons_succ, SV.res, SV.strip, SV.sure, if_true, Bool.false_eq_true, if_false, true_and, Nat.reduceSub, Nat.zero_add, Nat.reduceAdd, cond_false, Bool.and_self, Bool.true_and, St.forget, slots, Nat.reduceBEq, Bool.or_self, Nat.reduceEqDiff, and_self, ir_coupletref01_MulDiv, IR.pre, Try.results25]
    refine run_call ca _ rfl (by exact ⟨trivial, trivial⟩) rfl rfl rfl trivial trivial ?_
    simp only [run_opsNil, run_op0, run_opG, run_cond, run_pick, runP, gAct, pev, Ins.calm, Ins.opds, sureL, evS, St.put, List.nil_append, List.append_nil, List.getD_cons_zero, List.getD_cons_succ, List.set_cons_zero, List.set_cons_succ, SV.res, SV.strip, SV.sure, binV, if_true, Bool.false_eq_true, if_false, SV.mix, true_and, and_true, implies_true, cond_false, Bool.and_self, Bool.and_true, Bool.true_and, fzL, List.foldl_nil, SV.ids, boxIds, List.flatMap_cons, List.flatMap_nil, PV.flat, imp_self, Bool.not_eq_true', and_self, List.getD_nil, Bool.cond_true_left, Bool.not_not]
    refine run_callG (fun _ => cb) _ rfl (by exact fun h => ⟨trivial, h⟩) rfl rfl rfl trivial trivial ?_
    simp only [run_opsNil, run_op0, run_opG, run_cond, run_pick, runP, gAct, pev, Ins.calm, Ins.opds, sureL, evS, St.put, List.nil_append, List.append_nil, List.getD_cons_zero, List.getD_cons_succ, List.set_cons_zero, List.set_cons_succ, SV.res, SV.strip, SV.sure, binV, if_true, Bool.false_eq_true, if_false, SV.mix, true_and, and_true, implies_true, cond_false, Bool.and_self, Bool.and_true, Bool.true_and, fzL, List.foldl_nil, SV.ids, boxIds, List.flatMap_cons, List.flatMap_nil, PV.flat, imp_self, Bool.not_eq_true', Bool.and_eq_true, and_self, List.getD_nil, Bool.cond_true_left, Bool.not_not, Bool.not_or]
    refine ⟨by simp, ?_⟩
    refine run_callG (fun _ => cc) _ rfl (by exact fun h => ⟨trivial, h⟩) rfl rfl rfl trivial trivial ?_
    simp only [run_skip, run_seq, run_ops, run_opsNil, run_block, run_op0, run_opG, run_cond, runC_false, run_pick, runP, Ins.kind, IOp.apps, List.any_cons, List.any_nil, gAct, pev, Ins.calm, Ins.opds, sureL, evS, St.put, List.nil_append, List.append_nil, List.getD_cons_zero, List.getD_cons_succ, List.set_cons_zero, List.set_cons_succ, SV.res, SV.strip, SV.sure, binV, if_true, Bool.false_eq_true, if_false, SV.mix, true_and, and_true, implies_true, cond_false, Bool.and_self, Bool.and_true, Bool.true_and, Nat.reduceBEq, Bool.or_self, fzL, List.foldl_nil, SV.ids, boxIds, List.flatMap_cons, List.flatMap_nil, PV.flat, imp_self, Bool.not_eq_true', Bool.and_eq_true, and_self, List.getD_nil, Bool.cond_true_left, Bool.not_not, Bool.not_or, hcond]
    refine ⟨by simp, by simp, by simp, by simp, ?_⟩
    refine run_call sa _ rfl (by exact ⟨trivial, trivial⟩) rfl rfl rfl trivial trivial ?_
    simp only [run_seq, run_ops, run_opsNil, run_block, run_op0, Ins.kind, IOp.apps, List.any_cons, List.any_nil, pev, Ins.calm, Ins.opds, sureL, evS, St.put, List.nil_append, List.append_nil, List.getD_cons_zero, List.getD_cons_succ, List.set_cons_zero, List.set_cons_succ, SV.res, SV.strip, SV.sure, if_true, Bool.false_eq_true, if_false, true_and, cond_false, Bool.and_self, Bool.true_and, Nat.reduceBEq, Bool.or_self, fzL, List.foldl_nil, SV.ids, boxIds, List.flatMap_cons, List.flatMap_nil, PV.flat, and_self, List.getD_nil]
    refine run_call sb _ rfl (by exact ⟨trivial, trivial⟩) rfl rfl rfl trivial trivial ?_
    simp only [run_seq, run_ops, run_opsNil, run_block, run_op0, Ins.kind, IOp.apps, List.any_cons, List.any_nil, pev, Ins.calm, Ins.opds, sureL, evS, St.put, List.nil_append, List.append_nil, List.getD_cons_zero, List.getD_cons_succ, List.set_cons_zero, List.set_cons_succ, SV.res, SV.strip, SV.sure, if_true, Bool.false_eq_true, if_false, true_and, cond_false, Bool.and_self, Bool.true_and, Nat.reduceBEq, Bool.or_self, fzL, List.foldl_nil, SV.ids, boxIds, List.flatMap_cons, List.flatMap_nil, PV.flat, and_self, List.getD_nil]
    refine run_call ct _ rfl (by exact ⟨trivial, trivial, trivial⟩) rfl rfl rfl trivial trivial ?_
    simp only [run_seq, run_ops, run_opsNil, run_block, run_op0, Ins.kind, IOp.apps, List.any_cons, List.any_nil, pev, Ins.calm, Ins.opds, sureL, evS, St.put, List.nil_append, List.append_nil, List.getD_cons_zero, List.getD_cons_succ, List.set_cons_zero, List.set_cons_succ, SV.res, SV.strip, SV.sure, if_true, Bool.false_eq_true, if_false, true_and, cond_false, Bool.and_self, Bool.true_and, Nat.reduceBEq, Bool.or_self, fzL, List.foldl_nil, SV.ids, boxIds, List.flatMap_cons, List.flatMap_nil, and_self, List.getD_nil]
    refine run_call sc _ rfl (by exact ⟨trivial, trivial⟩) rfl rfl rfl trivial trivial ?_
    simp only [run_seq, run_ops, run_opsNil, run_block, run_op0, Ins.kind, IOp.apps, List.any_cons, List.any_nil, pev, Ins.calm, Ins.opds, sureL, evS, St.put, List.append_nil, List.getD_cons_zero, List.getD_cons_succ, List.set_cons_zero, List.set_cons_succ, SV.res, SV.strip, SV.sure, if_true, Bool.false_eq_true, if_false, true_and, cond_false, Bool.and_self, Bool.true_and, Nat.reduceBEq, Bool.or_self, fzL, List.foldl_nil, SV.ids, boxIds, List.flatMap_cons, List.flatMap_nil, PV.flat, and_self]
    refine run_call cd _ rfl (by exact ⟨trivial, trivial⟩) rfl rfl rfl trivial trivial ?_
    simp only [run_seq, run_ops, run_opsNil, run_block, run_op0, Ins.kind, IOp.apps, List.any_cons, List.any_nil, pev, Ins.calm, Ins.opds, sureL, evS, St.put, List.append_nil, List.getD_cons_zero, List.getD_cons_succ, List.set_cons_zero, List.set_cons_succ, SV.res, SV.strip, SV.sure, if_true, Bool.false_eq_true, if_false, true_and, cond_false, Bool.and_self, Bool.true_and, Nat.reduceBEq, Bool.or_self, fzL, List.foldl_nil, SV.ids, boxIds, List.flatMap_cons, List.flatMap_nil, and_self]
    refine run_call c0 _ rfl (by exact ⟨trivial, trivial⟩) rfl rfl rfl trivial trivial ?_
    simp only [run_seq, run_ops, run_opsNil, run_block, run_op0, Ins.kind, IOp.apps, List.any_cons, List.any_nil, pev, Ins.calm, Ins.opds, sureL, evS, St.put, List.append_nil, List.getD_cons_zero, List.getD_cons_succ, List.set_cons_zero, List.set_cons_succ, SV.res, SV.strip, SV.sure, if_true, Bool.false_eq_true, if_false, true_and, cond_false, Bool.and_self, Bool.true_and, Nat.reduceBEq, Bool.or_self, fzL, List.foldl_nil, SV.ids, boxIds, List.flatMap_cons, List.flatMap_nil, and_self]
    refine run_call c0 _ rfl (by exact ⟨trivial, trivial⟩) rfl rfl rfl trivial trivial ?_
    simp only [run_seq, run_ops, run_opsNil, run_block, run_op0, Ins.kind, IOp.apps, List.any_cons, List.any_nil, pev, Ins.calm, Ins.opds, sureL, evS, St.put, List.append_nil, List.getD_cons_zero, List.getD_cons_succ, List.set_cons_zero, List.set_cons_succ, SV.res, SV.strip, SV.sure, if_true, true_and, cond_false, Bool.true_and, Nat.reduceBEq, Bool.or_self, fzL, List.foldl_nil, SV.ids, boxIds, List.flatMap_cons, List.flatMap_nil]
    refine run_loop (fun n S => n ≤ 130 ∧ S = ⟨slots 147 0 [(0, .p (.int .i64 a)), (1, .p (.int .i64 b)), (2, .p (.int .i64 c)), (3, .p (.int .i64 m)), (10, .p (rowP p)), (11, .p (rowP D)), (12, .p (rowP (p / 2 ^ n / D))), (13, .p (rowP (p / 2 ^ n % D))), (14, .p (.int .i64 ((n : Int) - 1)))], []⟩) ?_ ?_
    · refine ⟨130, [], by simp, by omega, ?_⟩
      rw [Nat.div_eq_of_lt hp130, Nat.zero_div, Nat.zero_mod]
      rfl
    rintro n S' ⟨hk, rfl⟩
    match n with
    | 0 =>
      rw [Nat.pow_zero, Nat.div_one]
      simp only [run_seq, run_ops, run_opsNil, run_op0, run_cond, Ins.kind, IOp.apps, List.any_cons, List.any_nil, pev, Ins.calm, Ins.opds, sureL, evS, St.put, List.getD_cons_zero, List.getD_cons_succ, List.set_cons_zero, List.set_cons_succ, SV.res, SV.strip, SV.sure, binV, if_true, if_false, true_and, Nat.zero_add, Nat.reduceAdd, cond_false, Bool.and_self, Bool.true_and, St.forget, slots, Nat.reduceBEq, Bool.or_self, Nat.reduceEqDiff, Int.reduceNeg, Int.cast_ofNat_Int, and_self, Int.reduceSub]
      refine runC_dec (fun h1 => absurd h1 (by omega)) (fun h1 => ?_)
      simp only [run_nil, run_exit, runX_nil, runX_ir, runX_eb, if_true, Bool.false_eq_true, if_false, Nat.zero_add, Nat.reduceAdd, forgetL, List.contains_cons, List.contains_nil, Nat.reduceBEq, Bool.or_false, Bool.or_true, Bool.or_self, beq_self_eq_true, Int.reduceNeg, SV.ren, SV.renL]
      exact ⟨[], by simp, rfl⟩
    | k + 1 =>
      have hk1 : ((k + 1 : Nat) : Int) - 1 = (k : Int) := by omega
      have hbit : p / 2 ^ k % 2 < 2 := Nat.mod_lt _ (by decide)
      have hd : IntKind.i64.wrap ((k : Int) - 1) = (k : Int) - 1 := wrap_i64_id (by unfold i64; omega)
      have hrl := hremlt (k + 1)
      have cu := fn_Up G (p / 2 ^ (k + 1) % D) (p / 2 ^ k % 2) hbit
      have l1 := hdig k
      have l2 := hdig2 k
      obtain ⟨r2, hr2⟩ : ∃ x, x = 2 * (p / 2 ^ (k + 1) % D) + p / 2 ^ k % 2 := ⟨_, rfl⟩
      rw [← hr2] at cu l1 l2
      have cl := fn_Less G r2 D (by omega) (by omega)
      have cq0 := fn_Up G (p / 2 ^ (k + 1) / D) 0 (by omega)
      have cq1 := fn_Up G (p / 2 ^ (k + 1) / D) 1 (by omega)
      simp only [run_seq, run_ops, run_opsNil, run_op0, run_cond, Ins.kind, IOp.apps, List.any_cons, List.any_nil, pev, Ins.calm, Ins.opds, sureL, evS, St.put, List.getD_cons_zero, List.getD_cons_succ, List.set_cons_zero, List.set_cons_succ, SV.res, SV.strip, SV.sure, binV, if_true, if_false, true_and, Nat.zero_add, Nat.reduceAdd, cond_false, Bool.and_self, Bool.true_and, St.forget, slots, Nat.reduceBEq, Bool.or_self, Nat.reduceEqDiff, and_self, hk1]
      refine runC_dec (fun h1 => ?_) (fun h1 => absurd (by omega) h1)
      simp only [run_skip, run_seq, run_ops, run_opsNil, run_block, run_op0, run_cond, Ins.kind, IOp.apps, List.any_cons, List.any_nil, pev, Ins.calm, Ins.opds, sureL, evS, St.put, List.getD_cons_zero, List.getD_cons_succ, List.set_cons_zero, List.set_cons_succ, SV.res, SV.strip, SV.sure, SV.ld, PV.ld, if_true, Bool.false_eq_true, if_false, true_and, cond_false, Bool.and_self, Bool.true_and, Nat.reduceBEq, Bool.or_self, Int.cast_ofNat_Int, and_self, show rowP p = .isl false false .i64 (Bitrow.bits 130 p) from rfl, bits_length, Int.toNat_natCast, bits_get (show k < 130 by omega)]
      refine ⟨by omega, by omega, ?_⟩
      refine run_call cu _ rfl (by exact ⟨trivial, trivial, trivial⟩) rfl rfl rfl trivial trivial ?_
      simp only [run_seq, run_ops, run_opsNil, run_op0, run_cond, Ins.kind, IOp.apps, List.any_cons, List.any_nil, pev, Ins.calm, Ins.opds, sureL, evS, St.put, List.nil_append, List.append_nil, List.getD_cons_zero, List.getD_cons_succ, List.set_cons_zero, List.set_cons_succ, SV.res, SV.strip, SV.sure, if_true, Bool.false_eq_true, if_false, true_and, cond_false, Bool.and_self, Bool.true_and, Nat.reduceBEq, Bool.or_self, fzL, List.foldl_nil, SV.ids, boxIds, List.flatMap_cons, List.flatMap_nil, and_self, List.getD_nil]
      refine run_call cl _ rfl (by exact ⟨trivial, trivial, trivial⟩) rfl rfl rfl trivial trivial ?_
      simp only [run_opsNil, run_op0, run_cond, pev, Ins.calm, Ins.opds, sureL, evS, St.put, List.append_nil, List.getD_cons_zero, List.getD_cons_succ, List.set_cons_zero, List.set_cons_succ, SV.res, SV.strip, SV.sure, if_true, true_and, Bool.true_and, fzL, List.foldl_nil, SV.ids, boxIds, List.flatMap_cons, List.flatMap_nil, PV.flat]
      refine runC_of (fun h2 => ?_) (fun h2 => ?_)
      · have h3 : D ≤ r2 := by simp at h2; omega
        obtain ⟨z1, z2⟩ := l2 h3
        have cs := fn_Sub G r2 D h3
        rw [← z2] at cs
        rw [← z1] at cq1
        simp only [run_nil, run_eb, run_seq, run_ops, run_opsNil, run_op0, Ins.kind, IOp.apps, List.any_cons, List.any_nil, pev, Ins.calm, Ins.opds, sureL, evS, St.put, List.getD_cons_zero, List.getD_cons_succ, List.set_cons_zero, List.set_cons_succ, SV.res, SV.strip, SV.sure, binV, if_true, Bool.false_eq_true, if_false, true_and, Nat.zero_add, Nat.reduceAdd, cond_false, Bool.and_self, Bool.true_and, forgetL, List.contains_cons, List.contains_nil, Nat.reduceBEq, Bool.or_false, Bool.or_true, Bool.or_self, beq_self_eq_true, and_self, SV.ren, SV.renL]
        refine run_call cs _ rfl (by exact ⟨trivial, trivial, trivial⟩) rfl rfl rfl trivial trivial ?_
        simp only [run_nil, run_eb, run_ops, run_opsNil, run_op0, Ins.kind, IOp.apps, List.any_cons, List.any_nil, pev, Ins.calm, Ins.opds, sureL, evS, St.put, List.append_nil, List.getD_cons_zero, List.getD_cons_succ, List.set_cons_zero, List.set_cons_succ, SV.res, SV.strip, SV.sure, binV, if_true, Bool.false_eq_true, if_false, true_and, Nat.zero_add, Nat.reduceAdd, cond_false, Bool.and_self, Bool.true_and, forgetL, List.contains_cons, List.contains_nil, Nat.reduceBEq, Bool.or_false, Bool.or_true, Bool.or_self, fzL, List.foldl_nil, SV.ids, boxIds, List.flatMap_cons, List.flatMap_nil, beq_self_eq_true, and_self, SV.ren, SV.renL]
        refine run_call cq1 _ rfl (by exact ⟨trivial, trivial, trivial⟩) rfl rfl rfl trivial trivial ?_
        simp only [run_nil, run_eb, run_ops, run_opsNil, run_op0, Ins.kind, IOp.apps, List.any_cons, List.any_nil, pev, Ins.calm, Ins.opds, sureL, evS, St.put, List.append_nil, List.getD_cons_zero, List.getD_cons_succ, List.set_cons_zero, List.set_cons_succ, SV.res, SV.strip, SV.sure, binV, if_true, Bool.false_eq_true, if_false, true_and, Nat.zero_add, Nat.reduceAdd, cond_false, Bool.and_self, Bool.true_and, forgetL, List.contains_cons, List.contains_nil, Nat.reduceBEq, Bool.or_false, Bool.or_true, Bool.or_self, fzL, List.foldl_nil, SV.ids, boxIds, List.flatMap_cons, List.flatMap_nil, beq_self_eq_true, and_self, SV.ren, SV.renL, hd]
        exact ⟨k, [], by simp, by omega, by omega, rfl⟩
      · have h3 : r2 < D := by simp at h2; omega
        obtain ⟨z1, z2⟩ := l1 h3
        rw [Nat.add_zero, ← z1] at cq0
        rw [← z2]
        simp only [run_nil, run_skip, run_eb, run_ops, run_opsNil, run_op0, Ins.kind, IOp.apps, List.any_cons, List.any_nil, pev, Ins.calm, Ins.opds, sureL, evS, St.put, List.getD_cons_zero, List.getD_cons_succ, List.set_cons_zero, List.set_cons_succ, SV.res, SV.strip, SV.sure, binV, if_true, Bool.false_eq_true, if_false, true_and, Nat.zero_add, Nat.reduceAdd, cond_false, Bool.and_self, Bool.true_and, forgetL, List.contains_cons, List.contains_nil, Nat.reduceBEq, Bool.or_false, Bool.or_true, Bool.or_self, beq_self_eq_true, and_self, SV.ren, SV.renL]
        refine run_call cq0 _ rfl (by exact ⟨trivial, trivial, trivial⟩) rfl rfl rfl trivial trivial ?_
        simp only [run_nil, run_eb, run_ops, run_opsNil, run_op0, Ins.kind, IOp.apps, List.any_cons, List.any_nil, pev, Ins.calm, Ins.opds, sureL, evS, St.put, List.append_nil, List.getD_cons_zero, List.getD_cons_succ, List.set_cons_zero, List.set_cons_succ, SV.res, SV.strip, SV.sure, binV, if_true, Bool.false_eq_true, if_false, true_and, Nat.zero_add, Nat.add_zero, Nat.reduceAdd, cond_false, Bool.and_self, Bool.true_and, forgetL, List.contains_cons, List.contains_nil, Nat.reduceBEq, Bool.or_false, Bool.or_true, Bool.or_self, fzL, List.foldl_nil, SV.ids, boxIds, List.flatMap_cons, List.flatMap_nil, beq_self_eq_true, and_self, SV.ren, SV.renL, hd]
        exact ⟨k, [], by simp, by omega, by omega, rfl⟩
  rintro S' rfl
  obtain ⟨mi, hmi⟩ : ∃ x : Int, x = (if a < 0 then 1 else 0) + (if b < 0 then 1 else 0) + (if c < 0 then 1 else 0) := ⟨_, rfl⟩
  have hmi3 : 0 ≤ mi ∧ mi ≤ 3 := by rw [hmi]; split <;> split <;> split <;> omega
  have hneg : neg3 a b c = decide (mi % 2 = 1) := by
    rw [hmi]
    unfold neg3
    by_cases h0 : a < 0 <;> by_cases h1 : b < 0 <;> by_cases h2 : c < 0 <;> simp [h0, h1, h2]
  refine does_cut 4 [3, 11, 12, 13, 16] (fun S => S = ⟨slots 147 0 [(3, .p (.int .i64 m)), (11, .p (rowP D)), (12, .p (rowP (p / D))), (13, .p (rowP (p % D))), (16, .p (.int .i64 mi))], []⟩) (by decide +kernel) ?_ ?_
  · simp only [run_seq, run_ops, run_opsNil, run_op0, run_cond, Ins.kind, IOp.apps, List.any_cons, List.any_nil, pev, Ins.calm, Ins.opds, sureL, evS, St.put, List.getD_cons_zero, List.getD_cons_succ, List.set_cons_zero, List.set_cons_succ, SV.res, SV.strip, SV.sure, binV, if_true, if_false, true_and, Nat.zero_add, Nat.reduceAdd, cond_false, Bool.and_self, Bool.true_and, St.forget, slots, Nat.reduceBEq, Bool.or_self, Nat.reduceEqDiff, and_self, Nat.add_one_ne_zero, ir_coupletref01_MulDiv, IR.pre, IR.post]
    refine runC_dec (fun h0 => ?_) (fun h0 => ?_)
    · simp only [run_seq, run_ops, run_opsNil, run_op0, run_cond, Ins.kind, IOp.apps, List.any_cons, List.any_nil, pev, Ins.calm, Ins.opds, sureL, evS, St.put, List.getD_cons_zero, List.getD_cons_succ, List.set_cons_zero, List.set_cons_succ, SV.res, SV.strip, SV.sure, binV, if_true, true_and, cond_false, Bool.and_self, Bool.true_and, Nat.reduceBEq, Bool.or_self, and_self, Int.reduceAdd, w1]
      refine runC_dec (fun h1 => ?_) (fun h1 => ?_)
      · simp only [run_seq, run_ops, run_opsNil, run_op0, run_cond, Ins.kind, IOp.apps, List.any_cons, List.any_nil, pev, Ins.calm, Ins.opds, sureL, evS, St.put, List.getD_cons_zero, List.getD_cons_succ, List.set_cons_zero, List.set_cons_succ, SV.res, SV.strip, SV.sure, binV, if_true, true_and, cond_false, Bool.and_self, Bool.true_and, Nat.reduceBEq, Bool.or_self, and_self, Int.reduceAdd, w2]
        refine runC_dec (fun h2 => ?_) (fun h2 => ?_)
        · simp only [run_nil, run_ops, run_opsNil, run_op0, Ins.kind, IOp.apps, List.any_cons, List.any_nil, pev, Ins.calm, Ins.opds, sureL, evS, St.put, List.getD_cons_zero, List.getD_cons_succ, List.set_cons_zero, List.set_cons_succ, SV.res, SV.strip, SV.sure, binV, if_true, Bool.false_eq_true, if_false, true_and, Nat.zero_add, Nat.reduceAdd, cond_false, Bool.and_self, Bool.true_and, forgetL, List.contains_cons, List.contains_nil, Nat.reduceBEq, Bool.or_false, Bool.or_true, Bool.or_self, beq_self_eq_true, and_self, Int.reduceAdd, SV.ren, SV.renL, w3]
          refine ⟨[], by simp, ?_⟩
          rw [show mi = 3 by rw [hmi]; simp only [if_pos h0, if_pos h1, if_pos h2]; rfl]
          rfl
        · simp only [run_nil, run_skip, if_true, Bool.false_eq_true, if_false, Nat.zero_add, Nat.reduceAdd, forgetL, List.contains_cons, List.contains_nil, Nat.reduceBEq, Bool.or_false, Bool.or_true, Bool.or_self, beq_self_eq_true, SV.ren, SV.renL]
          refine ⟨[], by simp, ?_⟩
          rw [show mi = 2 by rw [hmi]; simp only [if_pos h0, if_pos h1, if_neg h2]; rfl]
          rfl
      · simp only [run_skip, run_seq, run_ops, run_opsNil, run_op0, run_cond, Ins.kind, IOp.apps, List.any_cons, List.any_nil, pev, Ins.calm, Ins.opds, sureL, evS, St.put, List.getD_cons_zero, List.getD_cons_succ, List.set_cons_zero, List.set_cons_succ, SV.res, SV.strip, SV.sure, binV, if_true, true_and, cond_false, Bool.and_self, Bool.true_and, Nat.reduceBEq, Bool.or_self, and_self]
        refine runC_dec (fun h2 => ?_) (fun h2 => ?_)
        · simp only [run_nil, run_ops, run_opsNil, run_op0, Ins.kind, IOp.apps, List.any_cons, List.any_nil, pev, Ins.calm, Ins.opds, sureL, evS, St.put, List.getD_cons_zero, List.getD_cons_succ, List.set_cons_zero, List.set_cons_succ, SV.res, SV.strip, SV.sure, binV, if_true, Bool.false_eq_true, if_false, true_and, Nat.zero_add, Nat.reduceAdd, cond_false, Bool.and_self, Bool.true_and, forgetL, List.contains_cons, List.contains_nil, Nat.reduceBEq, Bool.or_false, Bool.or_true, Bool.or_self, beq_self_eq_true, and_self, Int.reduceAdd, SV.ren, SV.renL, w2]
          refine ⟨[], by simp, ?_⟩
          rw [show mi = 2 by rw [hmi]; simp only [if_pos h0, if_neg h1, if_pos h2]; rfl]
          rfl
        · simp only [run_nil, run_skip, if_true, Bool.false_eq_true, if_false, Nat.zero_add, Nat.reduceAdd, forgetL, List.contains_cons, List.contains_nil, Nat.reduceBEq, Bool.or_false, Bool.or_true, Bool.or_self, beq_self_eq_true, SV.ren, SV.renL]
          refine ⟨[], by simp, ?_⟩
          rw [show mi = 1 by rw [hmi]; simp only [if_pos h0, if_neg h1, if_neg h2]; rfl]
          rfl
    · simp only [run_skip, run_seq, run_ops, run_opsNil, run_op0, run_cond, Ins.kind, IOp.apps, List.any_cons, List.any_nil, pev, Ins.calm, Ins.opds, sureL, evS, St.put, List.getD_cons_zero, List.getD_cons_succ, List.set_cons_zero, List.set_cons_succ, SV.res, SV.strip, SV.sure, binV, if_true, true_and, cond_false, Bool.and_self, Bool.true_and, Nat.reduceBEq, Bool.or_self, and_self]
      refine runC_dec (fun h1 => ?_) (fun h1 => ?_)
      · simp only [run_seq, run_ops, run_opsNil, run_op0, run_cond, Ins.kind, IOp.apps, List.any_cons, List.any_nil, pev, Ins.calm, Ins.opds, sureL, evS, St.put, List.getD_cons_zero, List.getD_cons_succ, List.set_cons_zero, List.set_cons_succ, SV.res, SV.strip, SV.sure, binV, if_true, true_and, cond_false, Bool.and_self, Bool.true_and, Nat.reduceBEq, Bool.or_self, and_self, Int.reduceAdd, w1]
        refine runC_dec (fun h2 => ?_) (fun h2 => ?_)
        · simp only [run_nil, run_ops, run_opsNil, run_op0, Ins.kind, IOp.apps, List.any_cons, List.any_nil, pev, Ins.calm, Ins.opds, sureL, evS, St.put, List.getD_cons_zero, List.getD_cons_succ, List.set_cons_zero, List.set_cons_succ, SV.res, SV.strip, SV.sure, binV, if_true, Bool.false_eq_true, if_false, true_and, Nat.zero_add, Nat.reduceAdd, cond_false, Bool.and_self, Bool.true_and, forgetL, List.contains_cons, List.contains_nil, Nat.reduceBEq, Bool.or_false, Bool.or_true, Bool.or_self, beq_self_eq_true, and_self, Int.reduceAdd, SV.ren, SV.renL, w2]
          refine ⟨[], by simp, ?_⟩
          rw [show mi = 2 by rw [hmi]; simp only [if_neg h0, if_pos h1, if_pos h2]; rfl]
          rfl
        · simp only [run_nil, run_skip, if_true, Bool.false_eq_true, if_false, Nat.zero_add, Nat.reduceAdd, forgetL, List.contains_cons, List.contains_nil, Nat.reduceBEq, Bool.or_false, Bool.or_true, Bool.or_self, beq_self_eq_true, SV.ren, SV.renL]
          refine ⟨[], by simp, ?_⟩
          rw [show mi = 1 by rw [hmi]; simp only [if_neg h0, if_pos h1, if_neg h2]; rfl]
          rfl
      · simp only [run_skip, run_seq, run_ops, run_opsNil, run_op0, run_cond, Ins.kind, IOp.apps, List.any_cons, List.any_nil, pev, Ins.calm, Ins.opds, sureL, evS, St.put, List.getD_cons_zero, List.getD_cons_succ, List.set_cons_zero, List.set_cons_succ, SV.res, SV.strip, SV.sure, binV, if_true, true_and, cond_false, Bool.and_self, Bool.true_and, Nat.reduceBEq, Bool.or_self, and_self]
        refine runC_dec (fun h2 => ?_) (fun h2 => ?_)
        · simp only [run_nil, run_ops, run_opsNil, run_op0, Ins.kind, IOp.apps, List.any_cons, List.any_nil, pev, Ins.calm, Ins.opds, sureL, evS, St.put, List.getD_cons_zero, List.getD_cons_succ, List.set_cons_zero, List.set_cons_succ, SV.res, SV.strip, SV.sure, binV, if_true, Bool.false_eq_true, if_false, true_and, Nat.zero_add, Nat.reduceAdd, cond_false, Bool.and_self, Bool.true_and, forgetL, List.contains_cons, List.contains_nil, Nat.reduceBEq, Bool.or_false, Bool.or_true, Bool.or_self, beq_self_eq_true, and_self, Int.reduceAdd, SV.ren, SV.renL, w1]
          refine ⟨[], by simp, ?_⟩
          rw [show mi = 1 by rw [hmi]; simp only [if_neg h0, if_neg h1, if_pos h2]; rfl]
          rfl
        · simp only [run_nil, run_skip, if_true, Bool.false_eq_true, if_false, Nat.zero_add, Nat.reduceAdd, forgetL, List.contains_cons, List.contains_nil, Nat.reduceBEq, Bool.or_false, Bool.or_true, Bool.or_self, beq_self_eq_true, SV.ren, SV.renL]
          refine ⟨[], by simp, ?_⟩
          rw [show mi = 0 by rw [hmi]; simp only [if_neg h0, if_neg h1, if_neg h2]; rfl]
          rfl
  rintro S' rfl
  generalize hqe : p / D = q at *
  generalize hre : p % D = r at *
  obtain ⟨mo, hmo⟩ : ∃ x, x = more m (neg3 a b c) q r D := ⟨_, rfl⟩
  rw [← hmo]
  have cl0 := fn_Less G 0 r (by omega) (by omega)
  have cu := fn_Up G r 0 (by omega)
  have cl1 := fn_Less G D (2 * r + 0) (by omega) (by omega)
  have cl2 := fn_Less G (2 * r + 0) D (by omega) (by omega)
  have hmr : mi.tmod 2 = mi % 2 := Int.tmod_eq_emod_of_nonneg hmi3.1
  refine does_cut 6 [12, 16, 19] (fun S => S = ⟨slots 147 0 [(12, .p (rowP q)), (16, .p (.int .i64 mi)), (19, .p (.bool mo))], []⟩) (by decide +kernel) ?_ ?_
  · have hm3 : m = 0 ∨ m = 1 ∨ m = 2 := by omega
    simp only [run_seq, run_ops, run_opsNil, run_op0, run_cond, Ins.kind, IOp.apps, List.any_cons, List.any_nil, pev, Ins.calm, Ins.opds, sureL, evS, St.put, List.getD_cons_zero, List.getD_cons_succ, List.set_cons_zero, List.set_cons_succ, SV.res, SV.strip, SV.sure, binV, if_true, Bool.false_eq_true, if_false, true_and, Nat.zero_add, Nat.reduceAdd, cond_false, Bool.and_self, Bool.true_and, St.forget, slots, Nat.reduceBEq, Bool.or_self, Nat.reduceEqDiff, and_self, Nat.add_one_ne_zero, ir_coupletref01_MulDiv, IR.pre, IR.post]
    refine run_call c0 _ rfl (by exact ⟨trivial, trivial⟩) rfl rfl rfl trivial trivial ?_
    simp only [run_seq, run_ops, run_opsNil, run_op0, run_cond, Ins.kind, IOp.apps, List.any_cons, List.any_nil, pev, Ins.calm, Ins.opds, sureL, evS, St.put, List.nil_append, List.append_nil, List.getD_cons_zero, List.getD_cons_succ, List.set_cons_zero, List.set_cons_succ, SV.res, SV.strip, SV.sure, binV, if_true, Bool.false_eq_true, if_false, true_and, cond_false, Bool.and_self, Bool.true_and, Nat.reduceBEq, Bool.or_self, fzL, List.foldl_nil, SV.ids, boxIds, List.flatMap_cons, List.flatMap_nil, and_self, List.getD_nil]
    refine run_call cl0 _ rfl (by exact ⟨trivial, trivial, trivial⟩) rfl rfl rfl trivial trivial ?_
    simp only [run_seq, run_ops, run_opsNil, run_op0, run_cond, Ins.kind, IOp.apps, List.any_cons, List.any_nil, pev, Ins.calm, Ins.opds, sureL, evS, St.put, List.append_nil, List.getD_cons_zero, List.getD_cons_succ, List.set_cons_zero, List.set_cons_succ, SV.res, SV.strip, SV.sure, binV, if_true, Bool.false_eq_true, if_false, true_and, cond_false, Bool.and_self, Bool.true_and, Nat.reduceBEq, Bool.or_self, fzL, List.foldl_nil, SV.ids, boxIds, List.flatMap_cons, List.flatMap_nil, PV.flat, and_self]
    refine run_call cu _ rfl (by exact ⟨trivial, trivial, trivial⟩) rfl rfl rfl trivial trivial ?_
    rcases hm3 with rfl | rfl | rfl
    · simp only [run_seq, run_ops, run_opsNil, run_op0, run_opG, run_cond, runC_true, Ins.kind, IOp.apps, List.any_cons, List.any_nil, gAct, pev, Ins.calm, Ins.opds, sureL, evS, St.put, List.append_nil, List.getD_cons_zero, List.getD_cons_succ, List.set_cons_zero, List.set_cons_succ, SV.res, SV.strip, SV.sure, binV, if_true, Bool.false_eq_true, if_false, true_and, Nat.add_zero, cond_false, Bool.and_self, Bool.true_and, Nat.reduceBEq, Bool.or_self, fzL, List.foldl_nil, SV.ids, boxIds, List.flatMap_cons, List.flatMap_nil, beq_self_eq_true, and_self]
      refine run_call cl1 _ rfl (by exact ⟨trivial, trivial, trivial⟩) rfl rfl rfl trivial trivial ?_
      simp only [run_seq, run_ops, run_opsNil, run_op0, run_opG, run_cond, run_pick, run_pickG, runP, runPG, Ins.kind, IOp.apps, List.any_cons, List.any_nil, gAct, pev, Ins.calm, Ins.opds, sureL, evS, St.put, List.append_nil, List.getD_cons_zero, List.getD_cons_succ, List.set_cons_zero, List.set_cons_succ, SV.res, SV.strip, SV.sure, PV.cells, SV.ld, PV.ld, binV, if_true, Bool.false_eq_true, if_false, SV.mix, true_and, and_true, Nat.add_zero, implies_true, cond_true, cond_false, Bool.and_self, Bool.and_true, Bool.true_and, Nat.reduceBEq, Bool.or_self, fzL, List.foldl_nil, SV.ids, boxIds, List.flatMap_cons, List.flatMap_nil, PV.flat, imp_self, Bool.not_eq_true', Bool.and_eq_true, and_self, aggS]
      refine run_callG (fun _ => cl2) _ rfl (by exact fun h => ⟨trivial, h, h⟩) rfl rfl rfl trivial trivial ?_
      simp only [run_nil, run_skip, run_seq, run_ops, run_opsNil, run_op0, run_opG, run_cond, runC_false, run_pick, run_pickG, runP, runPG, Ins.kind, IOp.apps, List.any_cons, List.any_nil, gAct, pev, Ins.calm, Ins.opds, sureL, evS, St.put, List.nil_append, List.append_nil, List.getD_cons_zero, List.getD_cons_succ, List.set_cons_zero, List.set_cons_succ, SV.res, SV.strip, SV.sure, SV.ld, PV.ld, binV, if_true, Bool.false_eq_true, if_false, SV.mix, true_and, and_true, Nat.zero_add, Nat.add_zero, Nat.reduceAdd, implies_true, cond_true, cond_false, Bool.and_self, Bool.and_true, Bool.true_and, Nat.reduceLT, forgetL, List.contains_cons, List.contains_nil, Nat.reduceBEq, Bool.or_false, Bool.or_true, Bool.or_self, fzL, List.foldl_nil, SV.ids, boxIds, List.flatMap_cons, List.flatMap_nil, PV.flat, beq_self_eq_true, Int.reduceLT, Int.cast_ofNat_Int, imp_self, Bool.not_eq_true', Bool.and_eq_true, Int.toNat_zero, and_self, Int.le_refl, List.getD_nil, SV.ren, SV.renL, Bool.cond_false_right, Bool.cond_true_left, show rowP q = .isl false false .i64 (Bitrow.bits 130 q) from rfl, bits_length, bits_get (show 0 < 130 by omega), k01, k02, rowP_flat, Nat.pow_zero, Nat.div_one]
      refine ⟨fun h => ⟨h, fun h2 => ⟨h, h2⟩⟩, fun h => ⟨h, fun h2 => ⟨h, h2⟩⟩, [], by simp, ?_⟩
      have hE : (decide (D < 2 * r) || decide (0 < r) && !decide (2 * r < D) && ((q % 2 : Nat) : Int) == 1) = mo := by
        rw [hmo]
        unfold more
        split
        · rename_i h; subst h; simp
        · rename_i h
          rw [if_pos rfl, Bool.eq_iff_iff]
          simp
          omega
      rw [hE]
      rfl
    · simp only [run_nil, run_skip, run_seq, run_ops, run_opsNil, run_op0, run_opG, run_cond, runC_true, runC_false, run_pick, runP, Ins.kind, IOp.apps, List.any_cons, List.any_nil, gAct, pev, Ins.calm, Ins.opds, sureL, evS, St.put, List.nil_append, List.append_nil, List.getD_cons_zero, List.getD_cons_succ, List.set_cons_zero, List.set_cons_succ, SV.res, SV.strip, SV.sure, binV, if_true, Bool.false_eq_true, if_false, SV.mix, true_and, and_true, Nat.zero_add, Nat.add_zero, Nat.reduceAdd, implies_true, cond_true, cond_false, Bool.and_self, Bool.and_true, Bool.true_and, forgetL, List.contains_cons, List.contains_nil, Nat.reduceBEq, Bool.or_false, Bool.or_true, Bool.or_self, fzL, List.foldl_nil, SV.ids, boxIds, List.flatMap_cons, List.flatMap_nil, beq_self_eq_true, ne_eq, not_false_eq_true, imp_self, and_self, List.getD_nil, SV.ren, SV.renL, Bool.cond_false_right, k10, k12, not2, hmr, rowP_flat]
      refine ⟨[], by simp, ?_⟩
      have hE : (decide (0 < r) && mi % 2 == 1) = mo := by
        rw [hmo]
        unfold more
        split
        · rename_i h; subst h; simp
        · rename_i h
          rw [if_neg (by decide), hneg, Bool.eq_iff_iff]
          simp
          omega
      rw [hE]
      rfl
    · simp only [run_nil, run_skip, run_seq, run_ops, run_opsNil, run_op0, run_opG, run_cond, runC_true, runC_false, run_pick, runP, Ins.kind, IOp.apps, List.any_cons, List.any_nil, gAct, pev, Ins.calm, Ins.opds, sureL, evS, St.put, List.nil_append, List.append_nil, List.getD_cons_zero, List.getD_cons_succ, List.set_cons_zero, List.set_cons_succ, SV.res, SV.strip, SV.sure, binV, if_true, Bool.false_eq_true, if_false, SV.mix, true_and, and_true, Nat.zero_add, Nat.add_zero, Nat.reduceAdd, implies_true, cond_true, cond_false, Bool.and_self, Bool.and_true, Bool.true_and, forgetL, List.contains_cons, List.contains_nil, Nat.reduceBEq, Bool.or_false, Bool.or_true, Bool.or_self, fzL, List.foldl_nil, SV.ids, boxIds, List.flatMap_cons, List.flatMap_nil, beq_self_eq_true, ne_eq, not_false_eq_true, imp_self, and_self, List.getD_nil, SV.ren, SV.renL, Bool.cond_false_right, k20, k21, not2, hmr, rowP_flat]
      refine ⟨[], by simp, ?_⟩
      have hE : (decide (0 < r) && mi % 2 == 0) = mo := by
        rw [hmo]
        unfold more
        split
        · rename_i h; subst h; simp
        · rename_i h
          rw [if_neg (by decide), hneg, Bool.eq_iff_iff]
          simp
          omega
      rw [hE]
      rfl
  rintro S' rfl
  have hmo1 : mo.toNat ≤ 1 := Bool.toNat_le _
  refine does_cut 1 [12, 16] (fun S => S = ⟨slots 147 0 [(12, .p (rowP (q + mo.toNat))), (16, .p (.int .i64 mi))], []⟩) (by decide +kernel) ?_ ?_
  · have c1 := fn_Bits G 1 (by omega)
    have cs := fn_Add G q 1
    cases mo
    · simp only [run_nil, run_skip, run_seq, run_ops, run_opsNil, run_op0, run_cond, runC_false, Ins.kind, IOp.apps, List.any_cons, List.any_nil, pev, Ins.calm, Ins.opds, sureL, evS, St.put, List.getD_cons_zero, List.getD_cons_succ, List.set_cons_zero, List.set_cons_succ, SV.res, SV.strip, SV.sure, if_true, Bool.false_eq_true, if_false, true_and, Nat.zero_add, Nat.reduceAdd, cond_false, Bool.true_and, St.forget, forgetL, slots, List.contains_cons, List.contains_nil, Nat.reduceBEq, Bool.or_false, Bool.or_true, Bool.or_self, beq_self_eq_true, Nat.reduceEqDiff, Nat.add_one_ne_zero, SV.ren, SV.renL, ir_coupletref01_MulDiv, IR.pre, IR.post]
      exact ⟨[], by simp, rfl⟩
    · simp only [run_nil, run_seq, run_ops, run_opsNil, run_op0, run_cond, runC_true, Ins.kind, IOp.apps, List.any_cons, List.any_nil, pev, Ins.calm, Ins.opds, sureL, evS, St.put, List.getD_cons_zero, List.getD_cons_succ, List.set_cons_zero, List.set_cons_succ, SV.res, SV.strip, SV.sure, if_true, Bool.false_eq_true, if_false, true_and, Nat.zero_add, Nat.reduceAdd, cond_false, Bool.and_self, Bool.true_and, St.forget, forgetL, slots, List.contains_cons, List.contains_nil, Nat.reduceBEq, Bool.or_false, Bool.or_true, Bool.or_self, beq_self_eq_true, Nat.reduceEqDiff, and_self, Nat.add_one_ne_zero, SV.ren, SV.renL, ir_coupletref01_MulDiv, IR.pre, IR.post]
      refine run_call c1 _ rfl (by exact ⟨trivial, trivial⟩) rfl rfl rfl trivial trivial ?_
      simp only [run_nil, run_opsNil, run_op0, pev, Ins.calm, Ins.opds, sureL, evS, St.put, List.nil_append, List.append_nil, List.getD_cons_zero, List.getD_cons_succ, List.set_cons_zero, List.set_cons_succ, SV.res, SV.strip, SV.sure, if_true, Bool.false_eq_true, if_false, true_and, Nat.zero_add, Nat.reduceAdd, Bool.and_self, Bool.true_and, forgetL, List.contains_cons, List.contains_nil, Nat.reduceBEq, Bool.or_false, Bool.or_true, Bool.or_self, fzL, List.foldl_nil, SV.ids, boxIds, List.flatMap_cons, List.flatMap_nil, beq_self_eq_true, and_self, List.getD_nil, SV.ren, SV.renL]
      refine run_call cs _ rfl (by exact ⟨trivial, trivial, trivial⟩) rfl rfl rfl trivial trivial ?_
      simp only [run_nil, run_opsNil, run_op0, pev, Ins.calm, Ins.opds, sureL, evS, St.put, List.append_nil, List.getD_cons_zero, List.getD_cons_succ, List.set_cons_zero, List.set_cons_succ, SV.res, SV.strip, SV.sure, if_true, Bool.false_eq_true, if_false, true_and, Nat.zero_add, Nat.reduceAdd, Bool.true_and, forgetL, List.contains_cons, List.contains_nil, Nat.reduceBEq, Bool.or_false, Bool.or_true, Bool.or_self, fzL, List.foldl_nil, SV.ids, boxIds, List.flatMap_cons, List.flatMap_nil, beq_self_eq_true, SV.ren, SV.renL]
      exact ⟨[], by simp, rfl⟩
  rintro S' rfl
  have cn := fn_Number G (q + mo.toNat) (by omega)
  rw [hneg]
  generalize q + mo.toNat = Q at *
  refine does_of ?_
  by_cases hfit : Q ≤ 4611686018427387903
  · rw [if_pos hfit] at cn
    rw [fit_le hfit]
    have k3 : IntKind.i64.wrap (0 - (Q : Int)) = -(Q : Int) := (wrap_i64_id (by unfold i64; omega)).trans (Int.zero_sub _)
    simp only [run_seq, run_ops, run_opsNil, run_op0, run_cond, Ins.kind, IOp.apps, List.any_cons, List.any_nil, pev, Ins.calm, Ins.opds, sureL, evS, St.put, List.getD_cons_zero, List.getD_cons_succ, List.set_cons_zero, List.set_cons_succ, SV.res, SV.strip, SV.sure, if_true, Bool.false_eq_true, if_false, true_and, Nat.zero_add, Nat.reduceAdd, cond_false, Bool.and_self, Bool.true_and, slots, Nat.reduceBEq, Bool.or_self, Nat.reduceEqDiff, and_self, Nat.add_one_ne_zero, ir_coupletref01_MulDiv, IR.post]
    refine run_call cn _ rfl (by exact ⟨trivial, trivial⟩) rfl rfl rfl trivial trivial ?_
    simp only [run_skip, run_seq, run_ops, run_opsNil, run_op0, run_cond, runC_false, Ins.kind, IOp.apps, List.any_cons, List.any_nil, pev, Ins.calm, Ins.opds, sureL, evS, St.put, List.length_cons, List.length_nil, List.nil_append, List.append_nil, List.getD_cons_zero, List.getD_cons_succ, List.set_cons_zero, List.set_cons_succ, SV.res, SV.strip, SV.sure, binV, if_true, true_and, Nat.zero_add, Nat.reduceAdd, cond_false, Bool.and_self, Bool.true_and, Nat.reduceLT, Nat.reduceBEq, Bool.or_self, fzL, List.foldl_nil, SV.ids, boxIds, List.flatMap_cons, List.flatMap_nil, PV.flat, PV.flatL, Bool.not_true, ne_eq, not_false_eq_true, and_self, List.getD_nil, not2, hmr]
    refine runC_of (fun h => ?_) (fun h => ?_)
    · have h2 : mi % 2 = 1 := by simpa using h
      rw [decide_eq_true h2]
      simp only [run_seq, run_ops, run_opsNil, run_ret, run_op0, Ins.kind, IOp.apps, List.any_cons, List.any_nil, pev, Ins.calm, Ins.opds, sureL, evS, St.put, List.getD_cons_zero, List.getD_cons_succ, List.set_cons_zero, List.set_cons_succ, SV.res, SV.strip, SV.sure, binV, if_true, true_and, cond_false, Bool.and_self, Bool.true_and, Nat.reduceBEq, Bool.or_self, and_self, k3]
      simp only [List.append_nil, List.getD_cons_zero, List.getD_cons_succ, SV.res, Bool.and_self, Option.map_some, fzL, List.foldl_nil, SV.ids, List.flatMap_cons, List.flatMap_nil, SV.pvS, SV.pvSL, and_self, resK, resSV, oneSV, Try.results25]
    · have h2 : ¬ mi % 2 = 1 := by simpa using h
      rw [decide_eq_false h2]
      simp only [run_skip, run_seq, run_ops, run_opsNil, run_ret, run_op0, Ins.kind, IOp.apps, List.any_cons, List.any_nil, pev, Ins.calm, Ins.opds, sureL, evS, St.put, List.getD_cons_zero, List.getD_cons_succ, List.set_cons_zero, List.set_cons_succ, SV.res, SV.strip, SV.sure, if_true, Bool.false_eq_true, if_false, true_and, cond_false, Bool.true_and, Nat.reduceBEq, Bool.or_self]
      simp only [List.append_nil, List.getD_cons_zero, List.getD_cons_succ, SV.res, Bool.and_self, Option.map_some, fzL, List.foldl_nil, SV.ids, List.flatMap_cons, List.flatMap_nil, SV.pvS, SV.pvSL, and_self, resK, resSV, oneSV, Try.results25]
  · rw [if_neg hfit] at cn
    rw [fit_gt (by omega)]
    simp only [run_seq, run_ops, run_opsNil, run_op0, run_cond, Ins.kind, IOp.apps, List.any_cons, List.any_nil, pev, Ins.calm, Ins.opds, sureL, evS, St.put, List.getD_cons_zero, List.getD_cons_succ, List.set_cons_zero, List.set_cons_succ, SV.res, SV.strip, SV.sure, if_true, Bool.false_eq_true, if_false, true_and, Nat.zero_add, Nat.reduceAdd, cond_false, Bool.and_self, Bool.true_and, slots, Nat.reduceBEq, Bool.or_self, Nat.reduceEqDiff, and_self, Nat.add_one_ne_zero, ir_coupletref01_MulDiv, IR.post]
    refine run_call cn _ rfl (by exact ⟨trivial, trivial⟩) rfl rfl rfl trivial trivial ?_
    simp only [run_seq, run_ops, run_opsNil, run_ret, run_op0, run_cond, runC_true, Ins.kind, IOp.apps, List.any_cons, List.any_nil, pev, Ins.calm, Ins.opds, sureL, evS, St.put, List.length_cons, List.length_nil, List.nil_append, List.append_nil, List.getD_cons_zero, List.getD_cons_succ, List.set_cons_zero, List.set_cons_succ, SV.res, SV.strip, SV.sure, if_true, true_and, Nat.zero_add, Nat.reduceAdd, cond_false, Bool.and_self, Bool.true_and, Nat.reduceLT, Nat.reduceBEq, Bool.or_self, fzL, List.foldl_nil, SV.ids, boxIds, List.flatMap_cons, List.flatMap_nil, PV.flat, PV.flatL, Bool.not_false, and_self, List.getD_nil]
    simp only [List.append_nil, List.getD_cons_zero, List.getD_cons_succ, SV.res, Bool.and_self, Option.map_some, fzL, List.foldl_nil, SV.ids, List.flatMap_cons, List.flatMap_nil, SV.pvS, SV.pvSL, and_self, resK, resSV, oneSV, Try.results25]
end Go.Proofs
