import Derived.Test.YtbfhholefjngpaaFxRun
import Derived.Laws.Bits64
import Derived.Test.YtbfhholefjngpaaWC8
import Derived.Test.YtbfhholefjngpaaWC5
import Derived.Test.YtbfhholefjngpaaWE1
set_option linter.unusedSimpArgs false
set_option linter.unusedVariables false
set_option maxRecDepth 100000
namespace Go.Proofs
open Go Go.Fx Go.Bitrow Go.Mdlaw Go.Cmplaw Go.Rootlaw
def ir_coupletref01_Times : IR := (.seq (.ops false [⟨(some 4), (.mv (.c (.isl true true .i64 []))), none⟩]) (.seq (.ops false [⟨(some 9), (.call (.func 76) [(.c (.int .i64 (0)))]), none⟩, ⟨(some 5), (.mv (.tmp 9)), none⟩]) (.seq (.ops false [⟨(some 10), (.mv (.tmp 0)), none⟩, ⟨(some 11), (.call (.func 76) [(.tmp 10)]), none⟩, ⟨(some 6), (.mv (.tmp 11)), none⟩]) (.seq (.ops false [⟨(some 12), (.mv (.tmp 1)), none⟩, ⟨(some 13), (.call (.func 76) [(.tmp 12)]), none⟩, ⟨(some 7), (.mv (.tmp 13)), none⟩]) (.seq (.seq (.ops false [⟨(some 8), (.mv (.c (.int .i64 (0)))), none⟩]) (.block 0 (.loop [5, 6, 7, 8] (.seq (.seq (.ops false [⟨(some 14), (.mv (.tmp 8)), none⟩, ⟨(some 15), (.bin .lss (.tmp 14) (.c (.int .i64 (63)))), none⟩]) (.cond (.tmp 15) .skip (.exit 0))) (.seq (.block 1 (.seq (.seq (.ops false [⟨(some 18), (.mv (.tmp 7)), none⟩, ⟨(some 19), (.mv (.tmp 8)), none⟩, ⟨(some 20), (.ixA 1 (.tmp 18) (.tmp 19)), none⟩, ⟨(some 21), (.ld false 1 (.tmp 20)), none⟩, ⟨(some 22), (.bin .eql (.tmp 21) (.c (.int .i64 (1)))), none⟩]) (.cond (.tmp 22) (.ops false [⟨(some 23), (.mv (.tmp 5)), none⟩, ⟨(some 24), (.mv (.tmp 6)), none⟩, ⟨(some 25), (.call (.func 79) [(.tmp 23), (.tmp 24)]), none⟩, ⟨(some 5), (.mv (.tmp 25)), none⟩]) .skip)) (.ops false [⟨(some 26), (.mv (.tmp 6)), none⟩, ⟨(some 27), (.call (.func 77) [(.tmp 26), (.c (.int .i64 (0)))]), none⟩, ⟨(some 6), (.mv (.tmp 27)), none⟩]))) (.ops false [⟨(some 16), (.mv (.tmp 8)), none⟩, ⟨(some 17), (.bin .add (.tmp 16) (.c (.int .i64 (1)))), none⟩, ⟨(some 8), (.mv (.tmp 17)), none⟩])))))) (.seq (.ops false [⟨(some 28), (.mv (.tmp 5)), none⟩, ⟨(some 4), (.mv (.tmp 28)), none⟩]) .ret))))))
theorem ok_coupletref01_Times : compCode Try.prog (Try.f33.body.getD .skip) [[5, 6, 7, 8]] = some (ir_coupletref01_Times, []) := by kernel_rfl
def live_coupletref01_Times : List (List Nat) := [[5, 6, 7, 8]]
def ir_coupletref01_Root : IR := (.seq (.ops false [⟨(some 4), (.mv (.c (.int .i64 (0)))), none⟩, ⟨(some 5), (.mv (.c (.bool false))), none⟩]) (.seq (.ops false [⟨(some 10), (.mv (.tmp 0)), none⟩, ⟨(some 11), (.call (.func 75) [(.tmp 10)]), none⟩, ⟨(some 12), (.mv (.tmp 1)), none⟩, ⟨(some 13), (.call (.func 75) [(.tmp 12)]), none⟩, ⟨(some 14), (.call (.func 33) [(.tmp 11), (.tmp 13)]), none⟩, ⟨(some 6), (.mv (.tmp 14)), none⟩]) (.seq (.ops false [⟨(some 7), (.mv (.c (.int .i64 (0)))), none⟩]) (.seq (.ops false [⟨(some 8), (.mv (.c (.int .i64 (4611686018427387904)))), none⟩]) (.seq (.block 0 (.loop [6, 7, 8] (.seq (.seq (.ops false [⟨(some 15), (.mv (.tmp 8)), none⟩, ⟨(some 16), (.bin .gtr (.tmp 15) (.c (.int .i64 (0)))), none⟩]) (.cond (.tmp 16) .skip (.exit 0))) (.block 1 (.seq (.ops false [⟨(some 17), (.mv (.tmp 7)), none⟩, ⟨(some 18), (.mv (.tmp 8)), none⟩, ⟨(some 19), (.bin .add (.tmp 17) (.tmp 18)), none⟩, ⟨(some 9), (.mv (.tmp 19)), none⟩]) (.seq (.seq (.ops false [⟨(some 20), (.mv (.tmp 6)), none⟩, ⟨(some 21), (.mv (.tmp 9)), none⟩, ⟨(some 22), (.mv (.tmp 9)), none⟩, ⟨(some 23), (.call (.func 33) [(.tmp 21), (.tmp 22)]), none⟩, ⟨(some 24), (.call (.func 34) [(.tmp 20), (.tmp 23)]), none⟩, ⟨(some 25), (.un .not (.tmp 24)), none⟩]) (.cond (.tmp 25) (.ops false [⟨(some 26), (.mv (.tmp 9)), none⟩, ⟨(some 7), (.mv (.tmp 26)), none⟩]) .skip)) (.ops false [⟨(some 27), (.mv (.tmp 8)), none⟩, ⟨(some 28), (.bin .quo (.tmp 27) (.c (.int .i64 (2)))), none⟩, ⟨(some 8), (.mv (.tmp 28)), none⟩]))))))) (.seq (.ops false [⟨(some 29), (.mv (.tmp 7)), none⟩, ⟨(some 30), (.mv (.tmp 7)), none⟩, ⟨(some 31), (.mv (.tmp 7)), none⟩, ⟨(some 32), (.call (.func 33) [(.tmp 30), (.tmp 31)]), none⟩, ⟨(some 33), (.mv (.tmp 6)), none⟩, ⟨(some 34), (.call (.func 34) [(.tmp 32), (.tmp 33)]), none⟩, ⟨(some 35), (.un .not (.tmp 34)), none⟩, ⟨(some 4), (.mv (.tmp 29)), none⟩, ⟨(some 5), (.mv (.tmp 35)), none⟩]) .ret))))))
theorem ok_coupletref01_Root : compCode Try.prog (Try.f32.body.getD .skip) [[6, 7, 8]] = some (ir_coupletref01_Root, []) := by kernel_rfl
def live_coupletref01_Root : List (List Nat) := [[6, 7, 8]]
theorem fn_Times (G : Glob) (a b : Nat) (ha : a < 9223372036854775808) (hb : b < 9223372036854775808) : FunEq Try.prog G 33 [.int .i64 a, .int .i64 b] (rowP (a * b)) := by
  have c0 := fn_Bits G 0 (by omega)
  have ca := fn_Bits G a ha
  have cb := fn_Bits G b hb
  refine fun_of_vc live_coupletref01_Times Try.func33 rfl (by kernel_rfl) ok_coupletref01_Times (by kernel_rfl) Try.ntmps33 (run_of ?_)
  simp only [run_seq, run_ops, run_opsNil, run_block, run_op0, Ins.kind, IOp.apps, List.any_cons, List.any_nil, pev, Ins.calm, Ins.opds, sureL, evS, St.put, List.map, List.length_cons, List.length_nil, List.replicate, List.cons_append, List.nil_append, List.getD_cons_zero, List.getD_cons_succ, List.set_cons_zero, List.set_cons_succ, SV.res, SV.strip, SV.sure, if_true, Bool.false_eq_true, if_false, true_and, Nat.reduceSub, Nat.zero_add, Nat.reduceAdd, cond_false, Bool.and_self, Bool.true_and, Nat.reduceBEq, Bool.or_self, and_self, ir_coupletref01_Times, Try.results33]
  refine run_call c0 _ rfl (by exact ⟨trivial, trivial⟩) rfl rfl rfl trivial trivial ?_
  simp only [run_seq, run_ops, run_opsNil, run_block, run_op0, Ins.kind, IOp.apps, List.any_cons, List.any_nil, pev, Ins.calm, Ins.opds, sureL, evS, St.put, List.nil_append, List.append_nil, List.getD_cons_zero, List.getD_cons_succ, List.set_cons_zero, List.set_cons_succ, SV.res, SV.strip, SV.sure, if_true, Bool.false_eq_true, if_false, true_and, cond_false, Bool.and_self, Bool.true_and, Nat.reduceBEq, Bool.or_self, fzL, List.foldl_nil, SV.ids, boxIds, List.flatMap_cons, List.flatMap_nil, and_self, List.getD_nil]
  refine run_call ca _ rfl (by exact ⟨trivial, trivial⟩) rfl rfl rfl trivial trivial ?_
  simp only [run_seq, run_ops, run_opsNil, run_block, run_op0, Ins.kind, IOp.apps, List.any_cons, List.any_nil, pev, Ins.calm, Ins.opds, sureL, evS, St.put, List.append_nil, List.getD_cons_zero, List.getD_cons_succ, List.set_cons_zero, List.set_cons_succ, SV.res, SV.strip, SV.sure, if_true, Bool.false_eq_true, if_false, true_and, cond_false, Bool.and_self, Bool.true_and, Nat.reduceBEq, Bool.or_self, fzL, List.foldl_nil, SV.ids, boxIds, List.flatMap_cons, List.flatMap_nil, and_self]
  refine run_call cb _ rfl (by exact ⟨trivial, trivial⟩) rfl rfl rfl trivial trivial ?_
  simp only [run_seq, run_ops, run_opsNil, run_block, run_op0, Ins.kind, IOp.apps, List.any_cons, List.any_nil, pev, Ins.calm, Ins.opds, sureL, evS, St.put, List.append_nil, List.getD_cons_zero, List.getD_cons_succ, List.set_cons_zero, List.set_cons_succ, SV.res, SV.strip, SV.sure, if_true, true_and, cond_false, Bool.true_and, Nat.reduceBEq, Bool.or_self, fzL, List.foldl_nil, SV.ids, boxIds, List.flatMap_cons, List.flatMap_nil]
  refine run_loop (fun n S => ∃ k : Nat, k ≤ 63 ∧ n = 63 - k ∧ S = ⟨slots 29 0 [(5, .p (rowP (a * (b % 2 ^ k)))), (6, .p (rowP (a * 2 ^ k))), (7, .p (rowP b)), (8, .p (.int .i64 k))], []⟩) ?_ ?_
  · refine ⟨63, [], by simp, 0, by omega, rfl, ?_⟩
    rw [Nat.pow_zero, Nat.mod_one, Nat.mul_zero, Nat.mul_one]
    rfl
  rintro n S' ⟨k, hk, rfl, rfl⟩
  simp only [run_seq, run_ops, run_opsNil, run_op0, run_cond, Ins.kind, IOp.apps, List.any_cons, List.any_nil, pev, Ins.calm, Ins.opds, sureL, evS, St.put, List.getD_cons_zero, List.getD_cons_succ, List.set_cons_zero, List.set_cons_succ, SV.res, SV.strip, SV.sure, binV, if_true, if_false, true_and, Nat.zero_add, Nat.reduceAdd, cond_false, Bool.and_self, Bool.true_and, St.forget, slots, Nat.reduceBEq, Bool.or_self, Nat.reduceEqDiff, and_self, Nat.add_one_ne_zero]
  refine runC_dec (fun h1 => ?_) (fun h1 => ?_)
  · have hB : b / 2 ^ k % 2 < 2 := Nat.mod_lt _ (by decide)
    have hms := mod_step b k
    have cu := fn_Up G (a * 2 ^ k) 0 (by omega)
    rw [show 2 * (a * 2 ^ k) + 0 = a * 2 ^ (k + 1) by rw [Nat.pow_succ, Nat.add_zero, Nat.mul_comm 2, Nat.mul_assoc]] at cu
    have cs := fn_Add G (a * (b % 2 ^ k)) (a * 2 ^ k)
    simp only [run_skip, run_seq, run_ops, run_opsNil, run_block, run_op0, run_cond, Ins.kind, IOp.apps, List.any_cons, List.any_nil, pev, Ins.calm, Ins.opds, sureL, evS, St.put, List.getD_cons_zero, List.getD_cons_succ, List.set_cons_zero, List.set_cons_succ, SV.res, SV.strip, SV.sure, SV.ld, PV.ld, binV, if_true, true_and, cond_false, Bool.and_self, Bool.true_and, Nat.reduceBEq, Bool.or_self, Int.cast_ofNat_Int, and_self, show rowP b = .isl false false .i64 (Bitrow.bits 130 b) from rfl, bits_length, Int.toNat_natCast, bits_get (show k < 130 by omega)]
    refine ⟨by omega, by omega, ?_⟩
    refine runC_of (fun h2 => ?_) (fun h2 => ?_)
    · have h3 : b / 2 ^ k % 2 = 1 := by
        generalize b / 2 ^ k % 2 = X at *
        simp at h2
        omega
      rw [h3, Nat.mul_one] at hms
      rw [← Nat.mul_add, ← hms] at cs
      simp only [run_nil, run_eb, run_ops, run_opsNil, run_op0, Ins.kind, IOp.apps, List.any_cons, List.any_nil, pev, Ins.calm, Ins.opds, sureL, evS, St.put, List.getD_cons_zero, List.getD_cons_succ, List.set_cons_zero, List.set_cons_succ, SV.res, SV.strip, SV.sure, binV, if_true, Bool.false_eq_true, if_false, true_and, Nat.zero_add, Nat.reduceAdd, cond_false, Bool.and_self, Bool.true_and, forgetL, List.contains_cons, List.contains_nil, Nat.reduceBEq, Bool.or_false, Bool.or_true, Bool.or_self, beq_self_eq_true, and_self, SV.ren, SV.renL]
      refine run_call cs _ rfl (by exact ⟨trivial, trivial, trivial⟩) rfl rfl rfl trivial trivial ?_
      simp only [run_nil, run_eb, run_ops, run_opsNil, run_op0, Ins.kind, IOp.apps, List.any_cons, List.any_nil, pev, Ins.calm, Ins.opds, sureL, evS, St.put, List.nil_append, List.append_nil, List.getD_cons_zero, List.getD_cons_succ, List.set_cons_zero, List.set_cons_succ, SV.res, SV.strip, SV.sure, binV, if_true, Bool.false_eq_true, if_false, true_and, Nat.zero_add, Nat.reduceAdd, cond_false, Bool.and_self, Bool.true_and, forgetL, List.contains_cons, List.contains_nil, Nat.reduceBEq, Bool.or_false, Bool.or_true, Bool.or_self, fzL, List.foldl_nil, SV.ids, boxIds, List.flatMap_cons, List.flatMap_nil, beq_self_eq_true, and_self, List.getD_nil, SV.ren, SV.renL]
      refine run_call cu _ rfl (by exact ⟨trivial, trivial, trivial⟩) rfl rfl rfl trivial trivial ?_
      simp only [run_nil, run_eb, run_ops, run_opsNil, run_op0, Ins.kind, IOp.apps, List.any_cons, List.any_nil, pev, Ins.calm, Ins.opds, sureL, evS, St.put, List.append_nil, List.getD_cons_zero, List.getD_cons_succ, List.set_cons_zero, List.set_cons_succ, SV.res, SV.strip, SV.sure, binV, if_true, Bool.false_eq_true, if_false, true_and, Nat.zero_add, Nat.reduceAdd, cond_false, Bool.and_self, Bool.true_and, forgetL, List.contains_cons, List.contains_nil, Nat.reduceBEq, Bool.or_false, Bool.or_true, Bool.or_self, fzL, List.foldl_nil, SV.ids, boxIds, List.flatMap_cons, List.flatMap_nil, beq_self_eq_true, and_self, SV.ren, SV.renL, inc k (by omega)]
      exact ⟨63 - (k + 1), [], by simp, by omega, k + 1, by omega, rfl, rfl⟩
    · have h3 : b / 2 ^ k % 2 = 0 := by
        generalize b / 2 ^ k % 2 = X at *
        simp at h2
        omega
      have h4 : b % 2 ^ (k + 1) = b % 2 ^ k := by rw [hms, h3]; rfl
      simp only [run_nil, run_skip, run_eb, run_ops, run_opsNil, run_op0, Ins.kind, IOp.apps, List.any_cons, List.any_nil, pev, Ins.calm, Ins.opds, sureL, evS, St.put, List.getD_cons_zero, List.getD_cons_succ, List.set_cons_zero, List.set_cons_succ, SV.res, SV.strip, SV.sure, binV, if_true, Bool.false_eq_true, if_false, true_and, Nat.zero_add, Nat.reduceAdd, cond_false, Bool.and_self, Bool.true_and, forgetL, List.contains_cons, List.contains_nil, Nat.reduceBEq, Bool.or_false, Bool.or_true, Bool.or_self, beq_self_eq_true, and_self, SV.ren, SV.renL]
      refine run_call cu _ rfl (by exact ⟨trivial, trivial, trivial⟩) rfl rfl rfl trivial trivial ?_
      simp only [run_nil, run_eb, run_ops, run_opsNil, run_op0, Ins.kind, IOp.apps, List.any_cons, List.any_nil, pev, Ins.calm, Ins.opds, sureL, evS, St.put, List.nil_append, List.append_nil, List.getD_cons_zero, List.getD_cons_succ, List.set_cons_zero, List.set_cons_succ, SV.res, SV.strip, SV.sure, binV, if_true, Bool.false_eq_true, if_false, true_and, Nat.zero_add, Nat.reduceAdd, cond_false, Bool.and_self, Bool.true_and, forgetL, List.contains_cons, List.contains_nil, Nat.reduceBEq, Bool.or_false, Bool.or_true, Bool.or_self, fzL, List.foldl_nil, SV.ids, boxIds, List.flatMap_cons, List.flatMap_nil, beq_self_eq_true, and_self, List.getD_nil, SV.ren, SV.renL, inc k (by omega)]
      refine ⟨63 - (k + 1), [], by simp, by omega, k + 1, by omega, rfl, ?_⟩
      rw [h4]
      rfl
  · have h2 : k = 63 := by omega
    subst h2
    rw [Nat.mod_eq_of_lt (show b < 2 ^ 63 by omega)]
    simp only [run_seq, run_ops, run_opsNil, run_ret, run_exit, runX_nil, runX_ir, runX_eb, run_op0, Ins.kind, IOp.apps, List.any_cons, List.any_nil, pev, Ins.calm, Ins.opds, sureL, evS, St.put, List.getD_cons_zero, List.getD_cons_succ, List.set_cons_zero, List.set_cons_succ, SV.res, SV.strip, SV.sure, if_true, true_and, Nat.reduceSub, cond_false, Bool.true_and, Nat.reduceBEq, Bool.or_self, Int.reduceLT, Int.cast_ofNat_Int]
    simp only [List.append_nil, List.getD_cons_zero, List.getD_cons_succ, SV.res, Bool.and_self, fzL, List.foldl_nil, SV.ids, List.flatMap_cons, List.flatMap_nil, SV.pvS, and_self, resK, resSV, oneSV, rowP]
theorem fn_ref_Root (G : Glob) (a b : Int) (R : Nat) (oa : okW a) (ob : okW b) (h1 : R * R ≤ a.natAbs * b.natAbs) (h2 : a.natAbs * b.natAbs < (R + 1) * (R + 1)) : FunEq Try.prog G 32 [.int .i64 a, .int .i64 b] (.tup [.int .i64 R, .bool (!decide (R * R < a.natAbs * b.natAbs))]) := by
  have sa := fn_ref_size G a oa
  have sb := fn_ref_size G b ob
  unfold okW at oa ob
  have va : a.natAbs ≤ 4611686018427387903 := by omega
  have vb : b.natAbs ≤ 4611686018427387903 := by omega
  have hR := root_lt h1 (Nat.lt_succ_of_le va) (Nat.lt_succ_of_le vb)
  generalize hA : a.natAbs = A at *
  generalize hB : b.natAbs = B at *
  have hAB : A * B ≤ 4611686018427387903 * 4611686018427387903 := Nat.mul_le_mul va vb
  have ct := fn_Times G A B (by omega) (by omega)
  generalize hp : A * B = p at *
  have pb : p < 2 ^ 130 := by omega
  refine fun_of_vc live_coupletref01_Root Try.func32 rfl (by kernel_rfl) ok_coupletref01_Root (by kernel_rfl) Try.ntmps32 (run_of ?_)
  simp only [run_seq, run_ops, run_opsNil, run_block, run_op0, Ins.kind, IOp.apps, List.any_cons, List.any_nil, pev, Ins.calm, Ins.opds, sureL, evS, St.put, List.map, List.length_cons, List.length_nil, List.replicate, List.cons_append, List.nil_append, List.getD_cons_zero, List.getD_cons_succ, List.set_cons_zero, List.set_cons_succ, SV.res, SV.strip, SV.sure, if_true, Bool.false_eq_true, if_false, true_and, Nat.reduceSub, Nat.zero_add, Nat.reduceAdd, cond_false, Bool.and_self, Bool.true_and, Nat.reduceBEq, Bool.or_self, and_self, ir_coupletref01_Root, Try.results32]
  refine run_call sa _ rfl (by exact ⟨trivial, trivial⟩) rfl rfl rfl trivial trivial ?_
  simp only [run_seq, run_ops, run_opsNil, run_block, run_op0, Ins.kind, IOp.apps, List.any_cons, List.any_nil, pev, Ins.calm, Ins.opds, sureL, evS, St.put, List.nil_append, List.append_nil, List.getD_cons_zero, List.getD_cons_succ, List.set_cons_zero, List.set_cons_succ, SV.res, SV.strip, SV.sure, if_true, Bool.false_eq_true, if_false, true_and, cond_false, Bool.and_self, Bool.true_and, Nat.reduceBEq, Bool.or_self, fzL, List.foldl_nil, SV.ids, boxIds, List.flatMap_cons, List.flatMap_nil, PV.flat, and_self, List.getD_nil]
  refine run_call sb _ rfl (by exact ⟨trivial, trivial⟩) rfl rfl rfl trivial trivial ?_
  simp only [run_seq, run_ops, run_opsNil, run_block, run_op0, Ins.kind, IOp.apps, List.any_cons, List.any_nil, pev, Ins.calm, Ins.opds, sureL, evS, St.put, List.nil_append, List.append_nil, List.getD_cons_zero, List.getD_cons_succ, List.set_cons_zero, List.set_cons_succ, SV.res, SV.strip, SV.sure, if_true, Bool.false_eq_true, if_false, true_and, cond_false, Bool.and_self, Bool.true_and, Nat.reduceBEq, Bool.or_self, fzL, List.foldl_nil, SV.ids, boxIds, List.flatMap_cons, List.flatMap_nil, PV.flat, and_self, List.getD_nil]
  refine run_call ct _ rfl (by exact ⟨trivial, trivial, trivial⟩) rfl rfl rfl trivial trivial ?_
  simp only [run_seq, run_ops, run_opsNil, run_block, run_op0, Ins.kind, IOp.apps, List.any_cons, List.any_nil, pev, Ins.calm, Ins.opds, sureL, evS, St.put, List.nil_append, List.append_nil, List.getD_cons_zero, List.getD_cons_succ, List.set_cons_zero, List.set_cons_succ, SV.res, SV.strip, SV.sure, if_true, true_and, cond_false, Bool.true_and, Nat.reduceBEq, Bool.or_self, fzL, List.foldl_nil, SV.ids, boxIds, List.flatMap_cons, List.flatMap_nil, List.getD_nil]
  refine run_loop (fun n S => n ≤ 63 ∧ S = ⟨slots 36 0 [(6, .p (rowP p)), (7, .p (.int .i64 ((R / 2 ^ n * 2 ^ n : Nat) : Int))), (8, .p (.int .i64 ((2 ^ n / 2 : Nat) : Int)))], []⟩) ?_ ?_
  · have e0 : R / 2 ^ 63 = 0 := Nat.div_eq_of_lt (by omega)
    refine ⟨63, [], by simp, by omega, ?_⟩
    rw [e0]
    rfl
  rintro n S' ⟨hn, rfl⟩
  match n with
  | 0 =>
    rw [Nat.pow_zero, Nat.div_one, Nat.mul_one]
    have hRR : R * R < 2 ^ 130 := by omega
    have cq := fn_Times G R R (by omega) (by omega)
    have cl := fn_Less G (R * R) p hRR pb
    simp only [run_seq, run_ops, run_opsNil, run_op0, run_cond, Ins.kind, IOp.apps, List.any_cons, List.any_nil, pev, Ins.calm, Ins.opds, sureL, evS, St.put, List.getD_cons_zero, List.getD_cons_succ, List.set_cons_zero, List.set_cons_succ, SV.res, SV.strip, SV.sure, binV, if_true, if_false, true_and, Nat.zero_add, Nat.reduceAdd, cond_false, Bool.and_self, Bool.true_and, St.forget, slots, Nat.reduceBEq, Bool.or_self, Nat.reduceEqDiff, and_self, Nat.add_one_ne_zero]
    refine runC_dec (fun h => absurd h (by omega)) (fun h => ?_)
    simp only [run_seq, run_ops, run_opsNil, run_ret, run_exit, runX_nil, runX_ir, runX_eb, run_op0, Ins.kind, IOp.apps, List.any_cons, List.any_nil, pev, Ins.calm, Ins.opds, sureL, evS, St.put, List.getD_cons_zero, List.getD_cons_succ, List.set_cons_zero, List.set_cons_succ, SV.res, SV.strip, SV.sure, if_true, Bool.false_eq_true, if_false, true_and, cond_false, Bool.and_self, Bool.true_and, Nat.reduceBEq, Bool.or_self, and_self]
    refine run_call cq _ rfl (by exact ⟨trivial, trivial, trivial⟩) rfl rfl rfl trivial trivial ?_
    simp only [run_opsNil, run_ret, run_op0, pev, Ins.calm, Ins.opds, sureL, evS, St.put, List.nil_append, List.append_nil, List.getD_cons_zero, List.getD_cons_succ, List.set_cons_zero, List.set_cons_succ, SV.res, SV.strip, SV.sure, if_true, Bool.false_eq_true, if_false, true_and, Bool.and_self, Bool.true_and, fzL, List.foldl_nil, SV.ids, boxIds, List.flatMap_cons, List.flatMap_nil, and_self, List.getD_nil]
    refine run_call cl _ rfl (by exact ⟨trivial, trivial, trivial⟩) rfl rfl rfl trivial trivial ?_
    simp only [run_opsNil, run_ret, run_op0, pev, Ins.calm, Ins.opds, sureL, evS, St.put, List.append_nil, List.getD_cons_zero, List.getD_cons_succ, List.set_cons_zero, List.set_cons_succ, SV.res, SV.strip, SV.sure, if_true, true_and, Bool.true_and, fzL, List.foldl_nil, SV.ids, boxIds, List.flatMap_cons, List.flatMap_nil, PV.flat]
    simp only [List.append_nil, List.getD_cons_zero, List.getD_cons_succ, SV.res, Bool.and_self, Option.map_some, fzL, List.foldl_nil, SV.ids, List.flatMap_cons, List.flatMap_nil, SV.pvS, SV.pvSL, and_self, resK, resSV, oneSV]
  | i + 1 =>
    have hp2 : 2 ^ (i + 1) / 2 = 2 ^ i := by rw [Nat.pow_succ, Nat.mul_div_cancel _ (by decide)]
    have hpow : 2 ^ i ≤ 4611686018427387904 := Nat.pow_le_pow_right (by decide) (by omega : i ≤ 62)
    have hpos : 0 < 2 ^ i := Nat.two_pow_pos i
    have hle : R / 2 ^ (i + 1) * 2 ^ (i + 1) ≤ R := Nat.div_mul_le_self _ _
    rw [hp2]
    obtain ⟨x, hx⟩ : ∃ x, x = R / 2 ^ (i + 1) * 2 ^ (i + 1) + 2 ^ i := ⟨_, rfl⟩
    have hx63 : x < 9223372036854775808 := by omega
    have hadd : IntKind.i64.wrap (((R / 2 ^ (i + 1) * 2 ^ (i + 1) : Nat) : Int) + ((2 ^ i : Nat) : Int)) = (x : Int) := by
      rw [wrap_i64_id (by unfold i64; omega), hx]
      exact (Int.natCast_add _ _).symm
    have hxx : x * x ≤ 9223372036854775807 * 9223372036854775807 := Nat.mul_le_mul (by omega) (by omega)
    have cq := fn_Times G x x hx63 hx63
    have cl := fn_Less G p (x * x) pb (by omega)
    have hlr := le_root h1 h2 x
    have hq := quo2 (2 ^ i) (by omega)
    simp only [run_seq, run_ops, run_opsNil, run_op0, run_cond, Ins.kind, IOp.apps, List.any_cons, List.any_nil, pev, Ins.calm, Ins.opds, sureL, evS, St.put, List.getD_cons_zero, List.getD_cons_succ, List.set_cons_zero, List.set_cons_succ, SV.res, SV.strip, SV.sure, binV, if_true, if_false, true_and, Nat.zero_add, Nat.reduceAdd, cond_false, Bool.and_self, Bool.true_and, St.forget, slots, Nat.reduceBEq, Bool.or_self, Nat.reduceEqDiff, and_self, Nat.add_one_ne_zero]
    refine runC_dec (fun h => ?_) (fun h => absurd (by omega) h)
    simp only [run_skip, run_seq, run_ops, run_opsNil, run_block, run_op0, run_cond, Ins.kind, IOp.apps, List.any_cons, List.any_nil, pev, Ins.calm, Ins.opds, sureL, evS, St.put, List.getD_cons_zero, List.getD_cons_succ, List.set_cons_zero, List.set_cons_succ, SV.res, SV.strip, SV.sure, binV, if_true, Bool.false_eq_true, if_false, true_and, cond_false, Bool.and_self, Bool.true_and, Nat.reduceBEq, Bool.or_self, and_self, hadd]
    refine run_call cq _ rfl (by exact ⟨trivial, trivial, trivial⟩) rfl rfl rfl trivial trivial ?_
    simp only [run_opsNil, run_op0, run_cond, pev, Ins.calm, Ins.opds, sureL, evS, St.put, List.nil_append, List.append_nil, List.getD_cons_zero, List.getD_cons_succ, List.set_cons_zero, List.set_cons_succ, SV.res, SV.strip, SV.sure, if_true, Bool.false_eq_true, if_false, true_and, Bool.and_self, Bool.true_and, fzL, List.foldl_nil, SV.ids, boxIds, List.flatMap_cons, List.flatMap_nil, and_self, List.getD_nil]
    refine run_call cl _ rfl (by exact ⟨trivial, trivial, trivial⟩) rfl rfl rfl trivial trivial ?_
    simp only [run_opsNil, run_op0, run_cond, pev, Ins.calm, Ins.opds, sureL, evS, St.put, List.append_nil, List.getD_cons_zero, List.getD_cons_succ, List.set_cons_zero, List.set_cons_succ, SV.res, SV.strip, SV.sure, if_true, true_and, Bool.true_and, fzL, List.foldl_nil, SV.ids, boxIds, List.flatMap_cons, List.flatMap_nil, PV.flat]
    refine runC_of (fun h4 => ?_) (fun h4 => ?_)
    · have h5 : x ≤ R := hlr.mp (by simpa using h4)
      have h6 := root_high (by rw [← hx]; exact h5)
      rw [← hx] at h6
      simp only [run_nil, run_eb, run_ops, run_opsNil, run_op0, Ins.kind, IOp.apps, List.any_cons, List.any_nil, pev, Ins.calm, Ins.opds, sureL, evS, St.put, List.getD_cons_zero, List.getD_cons_succ, List.set_cons_zero, List.set_cons_succ, SV.res, SV.strip, SV.sure, binV, if_true, Bool.false_eq_true, if_false, true_and, Nat.zero_add, Nat.reduceAdd, cond_false, Bool.and_self, Bool.true_and, forgetL, List.contains_cons, List.contains_nil, Nat.reduceBEq, Bool.or_false, Bool.or_true, Bool.or_self, beq_self_eq_true, ne_eq, not_false_eq_true, and_self, SV.ren, SV.renL, hq, not2]
      refine ⟨i, [], by simp, by omega, by omega, ?_⟩
      rw [h6]
      rfl
    · have h5 : ¬ x ≤ R := fun h => by have := hlr.mpr h; simp at h4; omega
      have h6 := root_low (by rw [← hx]; exact h5)
      simp only [run_nil, run_skip, run_eb, run_ops, run_opsNil, run_op0, Ins.kind, IOp.apps, List.any_cons, List.any_nil, pev, Ins.calm, Ins.opds, sureL, evS, St.put, List.getD_cons_zero, List.getD_cons_succ, List.set_cons_zero, List.set_cons_succ, SV.res, SV.strip, SV.sure, binV, if_true, Bool.false_eq_true, if_false, true_and, Nat.zero_add, Nat.reduceAdd, cond_false, Bool.and_self, Bool.true_and, forgetL, List.contains_cons, List.contains_nil, Nat.reduceBEq, Bool.or_false, Bool.or_true, Bool.or_self, beq_self_eq_true, ne_eq, not_false_eq_true, and_self, SV.ren, SV.renL, hq, not2]
      refine ⟨i, [], by simp, by omega, by omega, ?_⟩
      rw [h6]
      rfl
end Go.Proofs
