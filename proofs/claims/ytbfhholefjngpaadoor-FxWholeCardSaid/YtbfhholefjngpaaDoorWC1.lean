import Derived.Test.YtbfhholefjngpaaDoorFxRun
import Derived.Lib.Mul64
import Derived.Laws.Bits64
import Derived.Test.YtbfhholefjngpaaDoorChecked
set_option linter.unusedSimpArgs false
set_option linter.unusedVariables false
set_option maxRecDepth 100000
namespace Go.Proofs
open Go Go.Fx

/-- couplet/wide.Right -/
def ir_wide_Right : IR := (.seq (.ops false [⟨(some 2), (.mv (.c (.bool false))), none⟩]) (.seq (.ops false [⟨(some 3), (.mv (.tmp 0)), none⟩, ⟨(some 4), (.bin .geq (.tmp 3) (.c (.int .i64 (-4611686018427387903)))), none⟩, ⟨(some 5), (.mv (.tmp 4)), none⟩, ⟨(some 6), (.mv (.tmp 0)), (some (5, true))⟩, ⟨(some 7), (.bin .leq (.tmp 6) (.c (.int .i64 (4611686018427387903)))), (some (5, true))⟩, ⟨(some 8), (.pick (.tmp 5) (.tmp 7) (.c (.bool false))), none⟩, ⟨(some 2), (.mv (.tmp 8)), none⟩]) .ret))
theorem ok_wide_Right : compCode Tryd.prog (Tryd.f44.body.getD .skip) [] = some (ir_wide_Right, []) := by kernel_rfl
def live_wide_Right : List (List Nat) := []

/-- couplet/wide.size -/
def ir_wide_size : IR := (.seq (.ops false [⟨(some 2), (.mv (.c (.int .u64 (0)))), none⟩]) (.seq (.ops false [⟨(some 3), (.mv (.tmp 0)), none⟩, ⟨(some 4), (.mv (.tmp 0)), none⟩, ⟨(some 5), (.un .neg (.tmp 4)), none⟩, ⟨(some 6), (.maxs [(.tmp 3), (.tmp 5)]), none⟩, ⟨(some 7), (.cvtI .u64 (.tmp 6)), none⟩, ⟨(some 2), (.mv (.tmp 7)), none⟩]) .ret))
theorem ok_wide_size : compCode Tryd.prog (Tryd.f47.body.getD .skip) [] = some (ir_wide_size, []) := by kernel_rfl
def live_wide_size : List (List Nat) := []

/-- couplet/wide.below -/
def ir_wide_below : IR := (.seq (.ops false [⟨(some 2), (.box 41 (.tmp 0)), none⟩, ⟨(some 3), (.box 41 (.tmp 1)), none⟩, ⟨(some 4), (.mv (.c (.bool false))), none⟩]) (.seq (.ops false [⟨(some 5), (.ixArr 1 2 (.tmp 2) (.c (.int .i64 (0)))), none⟩, ⟨(some 6), (.ld false 1 (.tmp 5)), none⟩, ⟨(some 7), (.ixArr 1 2 (.tmp 3) (.c (.int .i64 (0)))), none⟩, ⟨(some 8), (.ld false 1 (.tmp 7)), none⟩, ⟨(some 9), (.bin .lss (.tmp 6) (.tmp 8)), none⟩, ⟨(some 10), (.mv (.tmp 9)), none⟩, ⟨(some 11), (.ixArr 1 2 (.tmp 2) (.c (.int .i64 (0)))), (some (10, false))⟩, ⟨(some 12), (.ld false 1 (.tmp 11)), (some (10, false))⟩, ⟨(some 13), (.ixArr 1 2 (.tmp 3) (.c (.int .i64 (0)))), (some (10, false))⟩, ⟨(some 14), (.ld false 1 (.tmp 13)), (some (10, false))⟩, ⟨(some 15), (.bin .eql (.tmp 12) (.tmp 14)), (some (10, false))⟩, ⟨(some 16), (.mv (.tmp 15)), (some (10, false))⟩, ⟨(some 17), (.ixArr 1 2 (.tmp 2) (.c (.int .i64 (1)))), (some (16, true))⟩, ⟨(some 18), (.ld false 1 (.tmp 17)), (some (16, true))⟩, ⟨(some 19), (.ixArr 1 2 (.tmp 3) (.c (.int .i64 (1)))), (some (16, true))⟩, ⟨(some 20), (.ld false 1 (.tmp 19)), (some (16, true))⟩, ⟨(some 21), (.bin .lss (.tmp 18) (.tmp 20)), (some (16, true))⟩, ⟨(some 22), (.pick (.tmp 16) (.tmp 21) (.c (.bool false))), (some (10, false))⟩, ⟨(some 23), (.pick (.tmp 10) (.c (.bool true)) (.tmp 22)), none⟩, ⟨(some 4), (.mv (.tmp 23)), none⟩]) .ret))
theorem ok_wide_below : compCode Tryd.prog (Tryd.f64.body.getD .skip) [] = some (ir_wide_below, []) := by kernel_rfl
def live_wide_below : List (List Nat) := []

/-- couplet/wide.times -/
def ir_wide_times : IR := (.seq (.ops false [⟨(some 4), (.alloc 41 [(.int .u64 (0)), (.int .u64 (0))]), none⟩]) (.seq (.ops false [⟨(some 8), (.mv (.tmp 0)), none⟩, ⟨(some 9), (.mv (.tmp 1)), none⟩, ⟨(some 10), (.call (.func 65) [(.tmp 8), (.tmp 9)]), none⟩, ⟨(some 7), (.mv (.tmp 10)), none⟩, ⟨(some 11), (.ext (.tmp 7) 0), none⟩, ⟨(some 12), (.ext (.tmp 7) 1), none⟩, ⟨(some 5), (.mv (.tmp 11)), none⟩, ⟨(some 6), (.mv (.tmp 12)), none⟩]) (.seq (.ops false [⟨(some 13), (.mv (.tmp 5)), none⟩, ⟨(some 14), (.mv (.tmp 6)), none⟩, ⟨(some 15), (.build [(.int .u64 (0)), (.int .u64 (0))] [(0, (1, (.tmp 13))), (1, (1, (.tmp 14)))]), none⟩, ⟨none, (.st 2 (.tmp 4) (.tmp 15)), none⟩]) .ret)))
theorem ok_wide_times : compCode Tryd.prog (Tryd.f46.body.getD .skip) [] = some (ir_wide_times, []) := by kernel_rfl
def live_wide_times : List (List Nat) := []

/-- math/bits.Mul64 -/
def ir_math_bits_Mul64 : IR := (.seq (.ops false [⟨(some 4), (.mv (.c (.int .u64 (0)))), none⟩, ⟨(some 5), (.mv (.c (.int .u64 (0)))), none⟩]) (.seq (.ops false [⟨(some 14), (.mv (.tmp 0)), none⟩, ⟨(some 15), (.bin .and (.tmp 14) (.c (.int .u64 (4294967295)))), none⟩, ⟨(some 6), (.mv (.tmp 15)), none⟩]) (.seq (.ops false [⟨(some 16), (.mv (.tmp 0)), none⟩, ⟨(some 17), (.bin .shr (.tmp 16) (.c (.int .u64 (32)))), none⟩, ⟨(some 7), (.mv (.tmp 17)), none⟩]) (.seq (.ops false [⟨(some 18), (.mv (.tmp 1)), none⟩, ⟨(some 19), (.bin .and (.tmp 18) (.c (.int .u64 (4294967295)))), none⟩, ⟨(some 8), (.mv (.tmp 19)), none⟩]) (.seq (.ops false [⟨(some 20), (.mv (.tmp 1)), none⟩, ⟨(some 21), (.bin .shr (.tmp 20) (.c (.int .u64 (32)))), none⟩, ⟨(some 9), (.mv (.tmp 21)), none⟩]) (.seq (.ops false [⟨(some 22), (.mv (.tmp 6)), none⟩, ⟨(some 23), (.mv (.tmp 8)), none⟩, ⟨(some 24), (.bin .mul (.tmp 22) (.tmp 23)), none⟩, ⟨(some 10), (.mv (.tmp 24)), none⟩]) (.seq (.ops false [⟨(some 25), (.mv (.tmp 7)), none⟩, ⟨(some 26), (.mv (.tmp 8)), none⟩, ⟨(some 27), (.bin .mul (.tmp 25) (.tmp 26)), none⟩, ⟨(some 28), (.mv (.tmp 10)), none⟩, ⟨(some 29), (.bin .shr (.tmp 28) (.c (.int .u64 (32)))), none⟩, ⟨(some 30), (.bin .add (.tmp 27) (.tmp 29)), none⟩, ⟨(some 11), (.mv (.tmp 30)), none⟩]) (.seq (.ops false [⟨(some 31), (.mv (.tmp 11)), none⟩, ⟨(some 32), (.bin .and (.tmp 31) (.c (.int .u64 (4294967295)))), none⟩, ⟨(some 12), (.mv (.tmp 32)), none⟩]) (.seq (.ops false [⟨(some 33), (.mv (.tmp 11)), none⟩, ⟨(some 34), (.bin .shr (.tmp 33) (.c (.int .u64 (32)))), none⟩, ⟨(some 13), (.mv (.tmp 34)), none⟩]) (.seq (.ops false [⟨(some 35), (.mv (.tmp 12)), none⟩, ⟨(some 36), (.mv (.tmp 6)), none⟩, ⟨(some 37), (.mv (.tmp 9)), none⟩, ⟨(some 38), (.bin .mul (.tmp 36) (.tmp 37)), none⟩, ⟨(some 39), (.bin .add (.tmp 35) (.tmp 38)), none⟩, ⟨(some 12), (.mv (.tmp 39)), none⟩]) (.seq (.ops false [⟨(some 40), (.mv (.tmp 7)), none⟩, ⟨(some 41), (.mv (.tmp 9)), none⟩, ⟨(some 42), (.bin .mul (.tmp 40) (.tmp 41)), none⟩, ⟨(some 43), (.mv (.tmp 13)), none⟩, ⟨(some 44), (.bin .add (.tmp 42) (.tmp 43)), none⟩, ⟨(some 45), (.mv (.tmp 12)), none⟩, ⟨(some 46), (.bin .shr (.tmp 45) (.c (.int .u64 (32)))), none⟩, ⟨(some 47), (.bin .add (.tmp 44) (.tmp 46)), none⟩, ⟨(some 4), (.mv (.tmp 47)), none⟩]) (.seq (.ops false [⟨(some 48), (.mv (.tmp 0)), none⟩, ⟨(some 49), (.mv (.tmp 1)), none⟩, ⟨(some 50), (.bin .mul (.tmp 48) (.tmp 49)), none⟩, ⟨(some 5), (.mv (.tmp 50)), none⟩]) .ret))))))))))))
theorem ok_math_bits_Mul64 : compCode Tryd.prog (Tryd.f65.body.getD .skip) [] = some (ir_math_bits_Mul64, []) := by kernel_rfl
def live_math_bits_Mul64 : List (List Nat) := []


def i64 (a : Int) : Prop := -9223372036854775808 ≤ a ∧ a ≤ 9223372036854775807
theorem wrap_i64_id {a : Int} (h : i64 a) : IntKind.i64.wrap a = a := by
  rw [IntKind.wrap_i64]; unfold i64 at h; omega
theorem and32 (a : Int) : IntKind.u64.wrap (bAnd .u64 a 4294967295) = a % 4294967296 := by
  show IntKind.u64.wrap ((BitVec.ofInt 64 a &&& BitVec.ofInt 64 4294967295).toNat : Int) = a % 4294967296
  rw [BitVec.toNat_and, BitVec.toNat_ofInt, BitVec.toNat_ofInt, show ((4294967295 : Int) % ((2 ^ 64 : Nat) : Int)).toNat = 2 ^ 32 - 1 from rfl, Nat.and_two_pow_sub_one_eq_mod, IntKind.wrap_u64]
  have : ((2 ^ 64 : Nat) : Int) = 18446744073709551616 := rfl
  rw [this]
  omega

theorem fn_wide_Right (G : Glob) (a : Int) : FunEq Tryd.prog G 44 [.int .i64 a] (.bool (decide (-4611686018427387903 ≤ a ∧ a ≤ 4611686018427387903))) := by
  refine fun_of_vc live_wide_Right Tryd.func44 rfl (by kernel_rfl) ok_wide_Right (by kernel_rfl) Tryd.ntmps44 (run_of ?_)
  simp only [run_seq, run_ops, run_opsNil, run_ret, run_op0, run_opG, run_pick, runP, Ins.kind, IOp.apps, List.any_cons, List.any_nil, gAct, pev, Ins.calm, Ins.opds, sureL, evS, St.put, List.map, List.length_cons, List.length_nil, List.replicate, List.cons_append, List.nil_append, List.getD_cons_zero, List.getD_cons_succ, List.set_cons_zero, List.set_cons_succ, SV.res, SV.strip, SV.sure, binV, if_true, Bool.false_eq_true, if_false, SV.mix, true_and, and_true, Nat.reduceSub, Nat.zero_add, implies_true, cond_true, cond_false, Bool.and_self, Bool.and_true, Bool.true_and, Nat.reduceBEq, Bool.or_self, Int.reduceNeg, imp_self, and_self, Bool.cond_false_right, ir_wide_Right, Tryd.results44]
  simp only [List.append_nil, List.getD_cons_zero, List.getD_cons_succ, SV.res, true_and, Bool.true_and, fzL, List.foldl_nil, SV.ids, List.flatMap_cons, List.flatMap_nil, SV.pvS, Int.reduceNeg, resK, resSV, oneSV]
  simp

theorem fn_wide_size (G : Glob) (a : Int) (h : i64 a) : FunEq Tryd.prog G 47 [.int .i64 a] (.int .u64 a.natAbs) := by
  refine fun_of_vc live_wide_size Tryd.func47 rfl (by kernel_rfl) ok_wide_size (by kernel_rfl) Tryd.ntmps47 (run_of ?_)
  simp only [run_seq, run_ops, run_opsNil, run_ret, run_op0, Ins.kind, IOp.apps, List.any_cons, List.any_nil, pev, Ins.calm, Ins.opds, sureL, evS, St.put, List.map, List.length_cons, List.length_nil, List.replicate, List.cons_append, List.nil_append, List.getD_cons_zero, List.getD_cons_succ, List.set_cons_zero, List.set_cons_succ, SV.res, SV.strip, SV.sure, if_true, true_and, Nat.reduceSub, Nat.zero_add, cond_false, Bool.and_self, Bool.true_and, Nat.reduceBEq, Bool.or_self, Option.map_some, maxL, and_self, ir_wide_size, Tryd.results47]
  simp only [List.append_nil, List.getD_cons_zero, List.getD_cons_succ, SV.res, true_and, Bool.true_and, fzL, List.foldl_nil, SV.ids, List.flatMap_cons, List.flatMap_nil, SV.pvS, resK, resSV, oneSV]
  rw [IntKind.wrap_i64, IntKind.wrap_u64]
  unfold i64 at h
  congr 2
  omega

theorem fn_wide_below (G : Glob) (a b c d : Int) : FunEq Tryd.prog G 64 [.agg [.int .u64 a, .int .u64 b], .agg [.int .u64 c, .int .u64 d]] (.bool (decide (a < c ∨ a = c ∧ b < d))) := by
  refine fun_of_vc live_wide_below Tryd.func64 rfl (by kernel_rfl) ok_wide_below (by kernel_rfl) Tryd.ntmps64 (run_of ?_)
  simp only [run_seq, run_ops, run_opsNil, run_ret, run_op0, run_opG, run_pick, run_pickG, runP, runPG, run_box, Ins.kind, IOp.apps, List.any_cons, List.any_nil, gAct, pev, Ins.calm, Ins.opds, sureL, evS, St.put, List.map, List.map_cons, List.length_cons, List.length_nil, List.replicate, List.cons_append, List.nil_append, List.getD_cons_zero, List.getD_cons_succ, List.set_cons_zero, List.set_cons_succ, SV.res, SV.strip, SV.sure, SV.cells, PV.cells, SV.scal, PV.scal, SV.ld, binV, if_true, Bool.false_eq_true, if_false, SV.mix, true_and, and_true, Nat.reduceSub, Nat.zero_add, Nat.add_zero, Nat.reduceAdd, implies_true, cond_true, cond_false, List.all_cons, Bool.and_self, Bool.and_true, Bool.true_and, Nat.reduceLeDiff, List.take, List.drop, Nat.reduceBEq, Bool.or_false, Bool.or_self, Option.map_some, beq_self_eq_true, List.all, Int.reduceLT, Int.cast_ofNat_Int, imp_self, Bool.not_eq_true', Bool.and_eq_true, Int.toNat_zero, Int.toNat_one, Nat.mul_one, and_self, Int.zero_le_ofNat, Int.le_refl, aggS, allP, Bool.cond_false_right, Bool.cond_true_left, ir_wide_below, Tryd.results64]
  simp only [List.append_nil, List.getD_cons_zero, List.getD_cons_succ, SV.res, true_and, Bool.true_and, fzL, List.foldl_nil, SV.ids, List.flatMap_cons, List.flatMap_nil, SV.pvS, resK, resSV, oneSV]
  refine ⟨fun h => ⟨h, fun h' => ⟨h, h'⟩⟩, ?_⟩
  congr 2
  by_cases h1 : a < c <;> by_cases h2 : a = c <;> simp [h1, h2]

theorem fn_Mul64 (G : Glob) (x y : Nat) (hx : x < 18446744073709551616) (hy : y < 18446744073709551616) : FunEq Tryd.prog G 65 [.int .u64 x, .int .u64 y] (.tup [.int .u64 ((x * y / 18446744073709551616 : Nat) : Int), .int .u64 ((x * y % 18446744073709551616 : Nat) : Int)]) := by
  refine fun_of_vc live_math_bits_Mul64 Tryd.func65 rfl (by kernel_rfl) ok_math_bits_Mul64 (by kernel_rfl) Tryd.ntmps65 (run_of ?_)
  simp only [run_seq, run_ops, run_opsNil, run_ret, run_op0, Ins.kind, IOp.apps, List.any_cons, List.any_nil, pev, Ins.calm, Ins.opds, sureL, evS, St.put, List.map, List.length_cons, List.length_nil, List.replicate, List.cons_append, List.nil_append, List.getD_cons_zero, List.getD_cons_succ, List.set_cons_zero, List.set_cons_succ, SV.res, SV.strip, SV.sure, binV, shV, if_true, true_and, Nat.reduceSub, Nat.zero_add, Nat.reduceAdd, cond_false, Bool.and_self, Bool.true_and, Nat.reduceLeDiff, Nat.reduceBEq, Bool.or_self, Int.reduceToNat, Nat.min_def, bits_u64, and_self, Int.zero_le_ofNat, Int.reducePow, ir_math_bits_Mul64, Tryd.results65]
  simp only [List.append_nil, List.getD_cons_zero, List.getD_cons_succ, SV.res, true_and, Bool.true_and, Option.map_some, fzL, List.foldl_nil, SV.ids, List.flatMap_cons, List.flatMap_nil, SV.pvS, SV.pvSL, resK, resSV, oneSV]
  obtain ⟨bd, bt, bw, hhi⟩ := Lib.mul64_hi x y hx hy
  have ba := Lib.half_mul_le (a := x / 4294967296) (b := y / 4294967296) (by omega) (by omega)
  have bb := Lib.half_mul_le (a := x / 4294967296) (b := y % 4294967296) (by omega) (by omega)
  have bc := Lib.half_mul_le (a := x % 4294967296) (b := y / 4294967296) (by omega) (by omega)
  have ba' : x / 4294967296 * (y / 4294967296) < 18446744073709551616 := by omega
  have bb' : x / 4294967296 * (y % 4294967296) < 18446744073709551616 := by omega
  have bc' : x % 4294967296 * (y / 4294967296) < 18446744073709551616 := by omega
  have bh1 : x / 4294967296 * (y / 4294967296) + (x / 4294967296 * (y % 4294967296) + x % 4294967296 * (y % 4294967296) / 4294967296) / 4294967296 < 18446744073709551616 := by omega
  have bh : x / 4294967296 * (y / 4294967296) + (x / 4294967296 * (y % 4294967296) + x % 4294967296 * (y % 4294967296) / 4294967296) / 4294967296 + ((x / 4294967296 * (y % 4294967296) + x % 4294967296 * (y % 4294967296) / 4294967296) % 4294967296 + x % 4294967296 * (y / 4294967296)) / 4294967296 < 18446744073709551616 := by omega
  have divN : ∀ a : Nat, (a : Int) / 4294967296 = ((a / 4294967296 : Nat) : Int) := fun a => by omega
  have modN : ∀ a : Nat, (a : Int) % 4294967296 = ((a % 4294967296 : Nat) : Int) := fun a => by omega
  have mulN : ∀ a b : Nat, (a : Int) * (b : Int) = ((a * b : Nat) : Int) := fun a b => (Int.natCast_mul a b).symm
  have addN : ∀ a b : Nat, (a : Int) + (b : Int) = ((a + b : Nat) : Int) := fun a b => (Int.natCast_add a b).symm
  have wrapN : ∀ a : Nat, a < 18446744073709551616 → IntKind.u64.wrap (a : Int) = (a : Int) := fun a ha => by rw [IntKind.wrap_u64]; omega
  have wrapM : ∀ a : Nat, IntKind.u64.wrap (a : Int) = ((a % 18446744073709551616 : Nat) : Int) := fun a => by rw [IntKind.wrap_u64]; omega
  simp only [and32, divN, modN, mulN, addN, wrapN _ bd, wrapN _ bb', wrapN _ bt, wrapN _ bc', wrapN _ bw, wrapN _ ba', wrapN _ bh1, wrapN _ bh, wrapM (x * y)]
  rw [hhi]

theorem cells41 : Tryd.prog.cellsOf 41 = 2 := by kernel_rfl
theorem agg41 : isAggT Tryd.prog 41 = true := by kernel_rfl

theorem fn_wide_times (G : Glob) (x y : Nat) (hx : x < 18446744073709551616) (hy : y < 18446744073709551616) : FunEq Tryd.prog G 46 [.int .u64 x, .int .u64 y] (.agg [.int .u64 ((x * y / 18446744073709551616 : Nat) : Int), .int .u64 ((x * y % 18446744073709551616 : Nat) : Int)]) := by
  refine fun_of_vc live_wide_times Tryd.func46 rfl (by kernel_rfl) ok_wide_times (by kernel_rfl) Tryd.ntmps46 (run_of ?_)
  simp only [run_seq, run_ops, run_opsNil, run_ret, run_op0, run_alloc, run_st, Ins.kind, IOp.apps, List.any_cons, List.any_nil, pev, Ins.calm, Ins.opds, sureL, evS, St.put, List.map, List.length_cons, List.length_nil, List.replicate, List.cons_append, List.nil_append, List.append_nil, List.getD_cons_zero, List.getD_cons_succ, List.set_cons_zero, List.set_cons_succ, SV.res, SV.strip, SV.sure, SV.cells, SV.scal, PV.scal, if_true, Bool.false_eq_true, if_false, true_and, and_true, Nat.reduceSub, Nat.zero_add, Nat.reduceAdd, cond_true, cond_false, List.all_cons, Bool.and_self, Bool.and_true, Bool.true_and, Nat.reduceLeDiff, List.take, List.drop, Nat.reduceBEq, Bool.or_false, Bool.or_self, spliceL, beq_self_eq_true, Nat.reduceEqDiff, List.all, and_self, fillL, ir_wide_times, Tryd.results46]
  refine run_call (fn_Mul64 G x y hx hy) [.box 41 [.p (.int .u64 0), .p (.int .u64 0)]] rfl ?hs rfl rfl rfl trivial trivial ?h
  case hs => exact ⟨trivial, trivial, trivial⟩
  simp only [run_seq, run_ops, run_opsNil, run_ret, run_op0, run_st, Ins.kind, IOp.apps, List.any_cons, List.any_nil, pev, Ins.calm, Ins.opds, sureL, evS, St.put, List.map, List.map_cons, List.length_cons, List.length_nil, List.cons_append, List.nil_append, List.append_nil, List.getD_cons_zero, List.getD_cons_succ, List.set_cons_zero, List.set_cons_succ, SV.res, SV.strip, SV.sure, SV.cells, PV.cells, SV.scal, PV.scal, if_true, Bool.false_eq_true, if_false, true_and, Nat.zero_add, Nat.reduceAdd, cond_false, List.all_cons, Bool.and_self, Bool.true_and, Nat.reduceLeDiff, Nat.reduceLT, List.take, List.drop, Nat.reduceBEq, Bool.or_self, Option.map_some, PV.flat, PV.flatL, spliceL, List.all, and_self, fillL, aggS, allP]
  simp only [List.length_cons, List.length_nil, List.append_nil, List.getD_cons_zero, List.getD_cons_succ, SV.res, SV.ld, if_true, Nat.zero_add, Nat.reduceAdd, Bool.and_self, Nat.reduceLeDiff, List.take, List.drop, Option.map_some, fzL, List.foldl_nil, SV.ids, List.flatMap_cons, List.flatMap_nil, SV.pvS, and_self, aggS, allP, resK, resSV, oneSV, cells41, agg41]
end Go.Proofs
