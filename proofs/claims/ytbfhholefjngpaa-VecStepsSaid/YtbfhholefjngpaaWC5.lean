import Derived.Test.YtbfhholefjngpaaFxRun
import Derived.Laws.Bits64
import Derived.Test.YtbfhholefjngpaaWC3
namespace Go.Mdlaw
def okW (n : Int) : Prop := -4611686018427387903 ≤ n ∧ n ≤ 4611686018427387903
instance (n : Int) : Decidable (okW n) := by unfold okW; infer_instance
def neg3 (a b c : Int) : Bool := (decide (a < 0) != decide (b < 0)) != decide (c < 0)
def more (m : Int) (minus : Bool) (q r d : Nat) : Bool :=
  if r = 0 then false else if m = 0 then decide (d < 2 * r) || (decide (2 * r = d) && decide (q % 2 = 1)) else (decide (m = 2) != minus)
def fit (minus : Bool) (Q : Nat) : Int × Bool :=
  if Q ≤ 4611686018427387903 then (if minus then -(Q : Int) else (Q : Int), true) else (0, false)
def okM (a b c m : Int) : Prop := okW a ∧ okW b ∧ okW c ∧ c ≠ 0 ∧ 0 ≤ m ∧ m ≤ 2
instance (a b c m : Int) : Decidable (okM a b c m) := by unfold okM; infer_instance
def core (a b c m : Int) : Int × Bool :=
  fit (neg3 a b c) (a.natAbs * b.natAbs / c.natAbs + (more m (neg3 a b c) (a.natAbs * b.natAbs / c.natAbs) (a.natAbs * b.natAbs % c.natAbs) c.natAbs).toNat)
def md (a b c m : Int) : Int × Bool := if okM a b c m then core a b c m else (0, false)
theorem md_pos {a b c m : Int} (h : okM a b c m) : md a b c m = core a b c m := if_pos h
theorem md_neg {a b c m : Int} (h : ¬ okM a b c m) : md a b c m = (0, false) := if_neg h
theorem fit_some {s : Bool} {Q : Nat} (h : (fit s Q).2 = true) : (fit s Q).1 = if s then -(Q : Int) else (Q : Int) := by
  unfold fit at *
  split at h
  · rename_i hq; rw [if_pos hq]
  · cases h
theorem fit_gt {s : Bool} {Q : Nat} (h : 4611686018427387903 < Q) : fit s Q = (0, false) := if_neg (by omega)
theorem fit_le {s : Bool} {Q : Nat} (h : Q ≤ 4611686018427387903) : fit s Q = (if s then -(Q : Int) else (Q : Int), true) := if_pos h
theorem more_zero (m : Int) (s : Bool) (q d : Nat) : more m s q 0 d = false := if_pos rfl
theorem md_exact {a b c m : Int} (h : okM a b c m) {n : Int} (hn : okW n) (h1 : a * b = n * c) : md a b c m = (n, true) := by
  have hc := h.2.2.2.1
  have h2 : a.natAbs * b.natAbs = n.natAbs * c.natAbs := by rw [← Int.natAbs_mul, h1, Int.natAbs_mul]
  have hp : 0 < c.natAbs := by omega
  rw [md_pos h]
  unfold core
  rw [h2, Nat.mul_mod_left, more_zero, Nat.mul_div_cancel _ hp]
  have h3 : n = if neg3 a b c then -(n.natAbs : Int) else (n.natAbs : Int) := by
    unfold neg3
    by_cases hn0 : n = 0
    · subst hn0; simp
    rcases Int.lt_trichotomy a 0 with ha | ha | ha <;> rcases Int.lt_trichotomy b 0 with hb | hb | hb <;> rcases Int.lt_trichotomy c 0 with hc' | hc' | hc' <;> rcases Int.lt_trichotomy n 0 with hn' | hn' | hn' <;>
      (first
        | omega
        | (exfalso; simp only [*, Int.zero_mul, Int.mul_zero] at *; omega)
        | (simp only [Int.not_lt.mpr (Int.le_of_lt ha), Int.not_lt.mpr (Int.le_of_lt hb), Int.not_lt.mpr (Int.le_of_lt hc'), ha, hb, hc', decide_true, decide_false, bne_self_eq_false, Bool.true_bne, Bool.false_bne, Bool.not_true, Bool.not_false, if_true, Bool.false_eq_true, if_false]; omega)
        | (exfalso; have x1 := Int.mul_pos (a := a) (b := b); have x2 := Int.mul_neg_of_neg_of_pos (a := a) (b := b); have x3 := Int.mul_neg_of_pos_of_neg (a := a) (b := b); have x4 := Int.mul_pos_of_neg_of_neg (a := a) (b := b)
           have z1 := Int.mul_pos (a := n) (b := c); have z2 := Int.mul_neg_of_neg_of_pos (a := n) (b := c); have z3 := Int.mul_neg_of_pos_of_neg (a := n) (b := c); have z4 := Int.mul_pos_of_neg_of_neg (a := n) (b := c)
           rw [h1] at x1 x2 x3 x4
           simp only [ha, hb, hc', hn', true_implies] at *
           omega))
  have h4 : n.natAbs ≤ 4611686018427387903 := by unfold okW at hn; omega
  unfold fit
  rw [Bool.toNat_false, Nat.add_zero, if_pos h4, ← h3]
end Go.Mdlaw
set_option linter.unusedSimpArgs false
set_option linter.unusedVariables false
set_option maxRecDepth 100000
namespace Go.Proofs
open Go Go.Fx Go.Mdlaw
def ir_wide_right : IR := (.seq (.ops false [⟨(some 2), (.mv (.c (.bool false))), none⟩]) (.seq (.ops false [⟨(some 3), (.mv (.tmp 0)), none⟩, ⟨(some 4), (.bin .geq (.tmp 3) (.c (.int .i64 (0)))), none⟩, ⟨(some 5), (.mv (.tmp 4)), none⟩, ⟨(some 6), (.mv (.tmp 0)), (some (5, true))⟩, ⟨(some 7), (.bin .leq (.tmp 6) (.c (.int .i64 (2)))), (some (5, true))⟩, ⟨(some 8), (.pick (.tmp 5) (.tmp 7) (.c (.bool false))), none⟩, ⟨(some 2), (.mv (.tmp 8)), none⟩]) .ret))
theorem ok_wide_right : compCode Try.prog (Try.f71.body.getD .skip) [] = some (ir_wide_right, []) := by kernel_rfl
def live_wide_right : List (List Nat) := []
def ir_wide_MulDiv : IR := (.seq (.ops false [⟨(some 8), (.mv (.c (.int .i64 (0)))), none⟩, ⟨(some 9), (.mv (.c (.bool false))), none⟩]) (.seq (.seq (.ops false [⟨(some 16), (.mv (.tmp 0)), none⟩, ⟨(some 17), (.call (.func 26) [(.tmp 16)]), none⟩, ⟨(some 18), (.un .not (.tmp 17)), none⟩, ⟨(some 19), (.mv (.tmp 18)), none⟩, ⟨(some 20), (.mv (.tmp 1)), (some (19, false))⟩, ⟨(some 21), (.call (.func 26) [(.tmp 20)]), (some (19, false))⟩, ⟨(some 22), (.un .not (.tmp 21)), (some (19, false))⟩, ⟨(some 23), (.pick (.tmp 19) (.c (.bool true)) (.tmp 22)), none⟩, ⟨(some 24), (.mv (.tmp 23)), none⟩, ⟨(some 25), (.mv (.tmp 2)), (some (24, false))⟩, ⟨(some 26), (.call (.func 26) [(.tmp 25)]), (some (24, false))⟩, ⟨(some 27), (.un .not (.tmp 26)), (some (24, false))⟩, ⟨(some 28), (.pick (.tmp 24) (.c (.bool true)) (.tmp 27)), none⟩, ⟨(some 29), (.mv (.tmp 28)), none⟩, ⟨(some 30), (.mv (.tmp 2)), (some (29, false))⟩, ⟨(some 31), (.bin .eql (.tmp 30) (.c (.int .i64 (0)))), (some (29, false))⟩, ⟨(some 32), (.pick (.tmp 29) (.c (.bool true)) (.tmp 31)), none⟩, ⟨(some 33), (.mv (.tmp 32)), none⟩, ⟨(some 34), (.mv (.tmp 3)), (some (33, false))⟩, ⟨(some 35), (.call (.func 71) [(.tmp 34)]), (some (33, false))⟩, ⟨(some 36), (.un .not (.tmp 35)), (some (33, false))⟩, ⟨(some 37), (.pick (.tmp 33) (.c (.bool true)) (.tmp 36)), none⟩]) (.cond (.tmp 37) (.seq (.ops false [⟨(some 8), (.mv (.c (.int .i64 (0)))), none⟩, ⟨(some 9), (.mv (.c (.bool false))), none⟩]) .ret) .skip)) (.seq (.ops false [⟨(some 38), (.mv (.tmp 0)), none⟩, ⟨(some 39), (.call (.func 73) [(.tmp 38)]), none⟩, ⟨(some 40), (.mv (.tmp 1)), none⟩, ⟨(some 41), (.call (.func 73) [(.tmp 40)]), none⟩, ⟨(some 42), (.call (.func 72) [(.tmp 39), (.tmp 41)]), none⟩, ⟨(some 43), (.mv (.tmp 2)), none⟩, ⟨(some 44), (.call (.func 73) [(.tmp 43)]), none⟩, ⟨(some 10), (.alloc 75 [(.int .u64 (0)), (.int .u64 (0))]), none⟩, ⟨none, (.st 2 (.tmp 10) (.tmp 42)), none⟩, ⟨(some 11), (.mv (.tmp 44)), none⟩]) (.seq (.seq (.ops false [⟨(some 45), (.ixArr 1 2 (.tmp 10) (.c (.int .i64 (0)))), none⟩, ⟨(some 46), (.ld false 1 (.tmp 45)), none⟩, ⟨(some 47), (.mv (.tmp 11)), none⟩, ⟨(some 48), (.bin .geq (.tmp 46) (.tmp 47)), none⟩]) (.cond (.tmp 48) (.seq (.ops false [⟨(some 8), (.mv (.c (.int .i64 (0)))), none⟩, ⟨(some 9), (.mv (.c (.bool false))), none⟩]) .ret) .skip)) (.seq (.ops false [⟨(some 50), (.ixArr 1 2 (.tmp 10) (.c (.int .i64 (0)))), none⟩, ⟨(some 51), (.ld false 1 (.tmp 50)), none⟩, ⟨(some 52), (.ixArr 1 2 (.tmp 10) (.c (.int .i64 (1)))), none⟩, ⟨(some 53), (.ld false 1 (.tmp 52)), none⟩, ⟨(some 54), (.mv (.tmp 11)), none⟩, ⟨(some 55), (.call (.func 74) [(.tmp 51), (.tmp 53), (.tmp 54)]), none⟩, ⟨(some 49), (.mv (.tmp 55)), none⟩, ⟨(some 56), (.ext (.tmp 49) 0), none⟩, ⟨(some 57), (.ext (.tmp 49) 1), none⟩, ⟨(some 12), (.mv (.tmp 56)), none⟩, ⟨(some 13), (.mv (.tmp 57)), none⟩]) (.seq (.ops false [⟨(some 58), (.mv (.tmp 0)), none⟩, ⟨(some 59), (.bin .lss (.tmp 58) (.c (.int .i64 (0)))), none⟩, ⟨(some 60), (.mv (.tmp 1)), none⟩, ⟨(some 61), (.bin .lss (.tmp 60) (.c (.int .i64 (0)))), none⟩, ⟨(some 62), (.binB true (.tmp 59) (.tmp 61)), none⟩, ⟨(some 63), (.mv (.tmp 2)), none⟩, ⟨(some 64), (.bin .lss (.tmp 63) (.c (.int .i64 (0)))), none⟩, ⟨(some 65), (.binB true (.tmp 62) (.tmp 64)), none⟩, ⟨(some 14), (.mv (.tmp 65)), none⟩]) (.seq (.ops false [⟨(some 15), (.mv (.c (.bool false))), none⟩]) (.seq (.block 0 (.seq (.ops false [⟨(some 71), (.mv (.tmp 13)), none⟩, ⟨(some 72), (.bin .eql (.tmp 71) (.c (.int .u64 (0)))), none⟩, ⟨(some 70), (.mv (.tmp 72)), none⟩]) (.cond (.tmp 70) .skip (.seq (.ops false [⟨(some 74), (.mv (.tmp 3)), none⟩, ⟨(some 75), (.bin .eql (.tmp 74) (.c (.int .i64 (0)))), none⟩, ⟨(some 73), (.mv (.tmp 75)), none⟩]) (.cond (.tmp 73) (.ops false [⟨(some 76), (.mv (.tmp 13)), none⟩, ⟨(some 77), (.mv (.tmp 11)), none⟩, ⟨(some 78), (.mv (.tmp 13)), none⟩, ⟨(some 79), (.bin .sub (.tmp 77) (.tmp 78)), none⟩, ⟨(some 80), (.bin .gtr (.tmp 76) (.tmp 79)), none⟩, ⟨(some 81), (.mv (.tmp 80)), none⟩, ⟨(some 82), (.mv (.tmp 13)), (some (81, false))⟩, ⟨(some 83), (.mv (.tmp 11)), (some (81, false))⟩, ⟨(some 84), (.mv (.tmp 13)), (some (81, false))⟩, ⟨(some 85), (.bin .sub (.tmp 83) (.tmp 84)), (some (81, false))⟩, ⟨(some 86), (.bin .eql (.tmp 82) (.tmp 85)), (some (81, false))⟩, ⟨(some 87), (.mv (.tmp 86)), (some (81, false))⟩, ⟨(some 88), (.mv (.tmp 12)), (some (87, true))⟩, ⟨(some 89), (.bin .and (.tmp 88) (.c (.int .u64 (1)))), (some (87, true))⟩, ⟨(some 90), (.bin .eql (.tmp 89) (.c (.int .u64 (1)))), (some (87, true))⟩, ⟨(some 91), (.pick (.tmp 87) (.tmp 90) (.c (.bool false))), (some (81, false))⟩, ⟨(some 92), (.pick (.tmp 81) (.c (.bool true)) (.tmp 91)), none⟩, ⟨(some 15), (.mv (.tmp 92)), none⟩]) (.ops false [⟨(some 66), (.mv (.tmp 3)), none⟩, ⟨(some 67), (.bin .eql (.tmp 66) (.c (.int .i64 (2)))), none⟩, ⟨(some 68), (.mv (.tmp 14)), none⟩, ⟨(some 69), (.binB true (.tmp 67) (.tmp 68)), none⟩, ⟨(some 15), (.mv (.tmp 69)), none⟩])))))) (.seq (.seq (.ops false [⟨(some 93), (.mv (.tmp 12)), none⟩, ⟨(some 94), (.bin .gtr (.tmp 93) (.c (.int .u64 (4611686018427387903)))), none⟩, ⟨(some 95), (.mv (.tmp 94)), none⟩, ⟨(some 96), (.mv (.tmp 15)), (some (95, false))⟩, ⟨(some 97), (.mv (.tmp 96)), (some (95, false))⟩, ⟨(some 98), (.mv (.tmp 12)), (some (97, true))⟩, ⟨(some 99), (.bin .eql (.tmp 98) (.c (.int .u64 (4611686018427387903)))), (some (97, true))⟩, ⟨(some 100), (.pick (.tmp 97) (.tmp 99) (.c (.bool false))), (some (95, false))⟩, ⟨(some 101), (.pick (.tmp 95) (.c (.bool true)) (.tmp 100)), none⟩]) (.cond (.tmp 101) (.seq (.ops false [⟨(some 8), (.mv (.c (.int .i64 (0)))), none⟩, ⟨(some 9), (.mv (.c (.bool false))), none⟩]) .ret) .skip)) (.seq (.seq (.ops false [⟨(some 102), (.mv (.tmp 15)), none⟩]) (.cond (.tmp 102) (.ops false [⟨(some 103), (.mv (.tmp 12)), none⟩, ⟨(some 104), (.bin .add (.tmp 103) (.c (.int .u64 (1)))), none⟩, ⟨(some 12), (.mv (.tmp 104)), none⟩]) .skip)) (.seq (.seq (.ops false [⟨(some 105), (.mv (.tmp 14)), none⟩]) (.cond (.tmp 105) (.seq (.ops false [⟨(some 106), (.mv (.tmp 12)), none⟩, ⟨(some 107), (.cvtI .i64 (.tmp 106)), none⟩, ⟨(some 108), (.un .neg (.tmp 107)), none⟩, ⟨(some 8), (.mv (.tmp 108)), none⟩, ⟨(some 9), (.mv (.c (.bool true))), none⟩]) .ret) .skip)) (.seq (.ops false [⟨(some 109), (.mv (.tmp 12)), none⟩, ⟨(some 110), (.cvtI .i64 (.tmp 109)), none⟩, ⟨(some 8), (.mv (.tmp 110)), none⟩, ⟨(some 9), (.mv (.c (.bool true))), none⟩]) .ret))))))))))))
theorem ok_wide_MulDiv : compCode Try.prog (Try.f24.body.getD .skip) [] = some (ir_wide_MulDiv, []) := by kernel_rfl
def live_wide_MulDiv : List (List Nat) := []
theorem and1 (a : Int) : IntKind.u64.wrap (bAnd .u64 a 1) = a % 2 := by
  show IntKind.u64.wrap ((BitVec.ofInt 64 a &&& BitVec.ofInt 64 1).toNat : Int) = _
  have h1 : BitVec.ofInt 64 1 = BitVec.ofNat 64 (2 ^ 1 - 1) := rfl
  have h2 : ((2 ^ 64 : Nat) : Int) = 18446744073709551616 := rfl
  rw [h1, BitVec.toNat_and, BitVec.toNat_ofInt, BitVec.toNat_ofNat, h2, show (2 ^ 1 - 1) % 2 ^ 64 = 2 ^ 1 - 1 from rfl, Nat.and_two_pow_sub_one_eq_mod, IntKind.wrap_u64]
  omega
theorem fn_wide_right (G : Glob) (m : Int) : FunEq Try.prog G 71 [.int .i64 m] (.bool (decide (0 ≤ m ∧ m ≤ 2))) := by
  refine fun_of_vc live_wide_right Try.func71 rfl (by kernel_rfl) ok_wide_right (by kernel_rfl) Try.ntmps71 (run_of ?_)
  simp only [run_seq, run_ops, run_opsNil, run_ret, run_op0, run_opG, run_pick, runP, Ins.kind, IOp.apps, List.any_cons, List.any_nil, gAct, pev, Ins.calm, Ins.opds, sureL, evS, St.put, List.map, List.length_cons, List.length_nil, List.replicate, List.cons_append, List.nil_append, List.getD_cons_zero, List.getD_cons_succ, List.set_cons_zero, List.set_cons_succ, SV.res, SV.strip, SV.sure, binV, if_true, Bool.false_eq_true, if_false, SV.mix, true_and, and_true, Nat.reduceSub, Nat.zero_add, implies_true, cond_true, cond_false, Bool.and_self, Bool.and_true, Bool.true_and, Nat.reduceBEq, Bool.or_self, imp_self, and_self, Bool.cond_false_right, ir_wide_right, Try.results71]
  simp only [List.append_nil, List.getD_cons_zero, List.getD_cons_succ, SV.res, true_and, Bool.true_and, fzL, List.foldl_nil, SV.ids, List.flatMap_cons, List.flatMap_nil, SV.pvS, resK, resSV, oneSV]
  by_cases h : 0 ≤ m <;> simp [h]
set_option maxHeartbeats 4000000 in
theorem fn_wide_MulDiv (G : Glob) (a b c m : Int) (ha : i64 a) (hb : i64 b) (hc : i64 c) (hm : i64 m) : FunEq Try.prog G 24 [.int .i64 a, .int .i64 b, .int .i64 c, .int .i64 m] (.tup [.int .i64 (md a b c m).1, .bool (md a b c m).2]) := by
  have ca := fn_wide_Right G a
  have cb := fn_wide_Right G b
  have cc := fn_wide_Right G c
  have cm := fn_wide_right G m
  have sa := fn_wide_size G a ha
  have sb := fn_wide_size G b hb
  have sc := fn_wide_size G c hc
  refine fun_of_vc live_wide_MulDiv Try.func24 rfl (by kernel_rfl) ok_wide_MulDiv (by kernel_rfl) Try.ntmps24 (run_of ?_)
  obtain ⟨ra, hra⟩ : ∃ x, x = decide (-4611686018427387903 ≤ a ∧ a ≤ 4611686018427387903) := ⟨_, rfl⟩
  obtain ⟨rb, hrb⟩ : ∃ x, x = decide (-4611686018427387903 ≤ b ∧ b ≤ 4611686018427387903) := ⟨_, rfl⟩
  obtain ⟨rc, hrc⟩ : ∃ x, x = decide (-4611686018427387903 ≤ c ∧ c ≤ 4611686018427387903) := ⟨_, rfl⟩
  obtain ⟨rm, hrm⟩ : ∃ x, x = decide (0 ≤ m ∧ m ≤ 2) := ⟨_, rfl⟩
  rw [← hra] at ca
  rw [← hrb] at cb
  rw [← hrc] at cc
  rw [← hrm] at cm
  simp only [run_seq, run_ops, run_opsNil, run_op0, run_opG, Ins.kind, IOp.apps, List.any_cons, List.any_nil, gAct, pev, Ins.calm, Ins.opds, sureL, evS, St.put, List.map, List.length_cons, List.length_nil, List.replicate, List.cons_append, List.nil_append, List.getD_cons_zero, List.getD_cons_succ, List.set_cons_zero, List.set_cons_succ, SV.res, SV.strip, SV.sure, if_true, Bool.false_eq_true, if_false, true_and, Nat.reduceSub, Nat.zero_add, Nat.reduceAdd, cond_false, Bool.and_self, Bool.true_and, Nat.reduceBEq, Bool.or_self, and_self, ir_wide_MulDiv, Try.results24]
  refine run_call ca [] rfl (by exact ⟨trivial, trivial⟩) rfl rfl rfl trivial trivial ?_
  simp only [run_opsNil, run_op0, run_opG, run_cond, run_pick, runP, gAct, pev, Ins.calm, Ins.opds, sureL, evS, St.put, List.getD_cons_zero, List.getD_cons_succ, List.set_cons_zero, List.set_cons_succ, SV.res, SV.strip, SV.sure, binV, if_true, Bool.false_eq_true, if_false, SV.mix, true_and, and_true, implies_true, cond_false, Bool.and_self, Bool.and_true, Bool.true_and, PV.flat, imp_self, Bool.not_eq_true', and_self, List.getD_nil, Bool.cond_true_left, Bool.not_not]
  refine run_callG (fun _ => cb) [] rfl (by exact fun h => ⟨trivial, h⟩) rfl rfl rfl trivial trivial ?_
  simp only [run_opsNil, run_op0, run_opG, run_cond, run_pick, runP, gAct, pev, Ins.calm, Ins.opds, sureL, evS, St.put, List.getD_cons_zero, List.getD_cons_succ, List.set_cons_zero, List.set_cons_succ, SV.res, SV.strip, SV.sure, binV, if_true, Bool.false_eq_true, if_false, SV.mix, true_and, and_true, implies_true, cond_false, Bool.and_self, Bool.and_true, Bool.true_and, PV.flat, imp_self, Bool.not_eq_true', Bool.and_eq_true, and_self, List.getD_nil, Bool.cond_true_left, Bool.not_not, Bool.not_or]
  refine ⟨by simp, ?_⟩
  refine run_callG (fun _ => cc) [] rfl (by exact fun h => ⟨trivial, h⟩) rfl rfl rfl trivial trivial ?_
  simp only [run_opsNil, run_op0, run_opG, run_cond, run_pick, runP, gAct, pev, Ins.calm, Ins.opds, sureL, evS, St.put, List.getD_cons_zero, List.getD_cons_succ, List.set_cons_zero, List.set_cons_succ, SV.res, SV.strip, SV.sure, binV, if_true, Bool.false_eq_true, if_false, SV.mix, true_and, and_true, implies_true, cond_false, Bool.and_self, Bool.and_true, Bool.true_and, PV.flat, imp_self, Bool.not_eq_true', Bool.and_eq_true, and_self, List.getD_nil, Bool.cond_true_left, Bool.not_not, Bool.not_or]
  refine ⟨by simp, by simp, ?_⟩
  refine run_callG (fun _ => cm) [] rfl (by exact fun h => ⟨trivial, h⟩) rfl rfl rfl trivial trivial ?_
  simp only [run_opsNil, run_op0, run_opG, run_cond, run_pick, runP, gAct, pev, Ins.calm, Ins.opds, sureL, evS, St.put, List.getD_cons_zero, List.getD_cons_succ, List.set_cons_zero, List.set_cons_succ, SV.res, SV.strip, SV.sure, if_true, Bool.false_eq_true, if_false, SV.mix, true_and, and_true, implies_true, cond_false, Bool.and_true, Bool.true_and, PV.flat, imp_self, Bool.not_eq_true', Bool.and_eq_true, Bool.cond_true_left, Bool.not_not, Bool.not_or]
  refine ⟨by simp [and_assoc], ?_⟩
  have hiff : ((!ra || !rb || !rc || c == 0 || !rm) = true) ↔ ¬ okM a b c m := by
    rw [hra, hrb, hrc, hrm]
    simp only [Bool.or_eq_true, Bool.not_eq_true', decide_eq_false_iff_not, beq_iff_eq, okM, okW]
    omega
  refine runC_of (fun h => ?_) (fun h => ?_)
  · rw [md_neg (hiff.mp h)]
    simp only [run_seq, run_ops, run_opsNil, run_ret, run_op0, Ins.kind, IOp.apps, List.any_cons, List.any_nil, pev, Ins.calm, Ins.opds, sureL, evS, St.put, List.set_cons_zero, List.set_cons_succ, SV.strip, SV.sure, if_true, true_and, cond_false, Bool.true_and, Nat.reduceBEq, Bool.or_self]
    simp only [List.append_nil, List.getD_cons_zero, List.getD_cons_succ, SV.res, Bool.and_self, Option.map_some, fzL, List.foldl_nil, SV.ids, List.flatMap_cons, List.flatMap_nil, SV.pvS, SV.pvSL, and_self, resK, resSV, oneSV]
  have hok : okM a b c m := Decidable.byContradiction fun hn => by rw [hiff.mpr hn] at h; cases h
  rw [md_pos hok]
  obtain ⟨oa, ob, oc, cz, m0, m2⟩ := hok
  unfold okW at oa ob oc
  unfold core
  have va : a.natAbs ≤ 4611686018427387903 := by omega
  have vb : b.natAbs ≤ 4611686018427387903 := by omega
  have vc' : c.natAbs ≤ 4611686018427387903 := by omega
  have vd : 0 < c.natAbs := by omega
  generalize hA : a.natAbs = A at *
  generalize hB : b.natAbs = B at *
  generalize hD : c.natAbs = D at *
  have hAB : A * B ≤ 4611686018427387903 * 4611686018427387903 := Nat.mul_le_mul va vb
  have ct := fn_wide_times G A B (by omega) (by omega)
  generalize hp : A * B = p at *
  simp only [run_skip, run_seq, run_ops, run_opsNil, run_op0, run_cond, run_alloc, run_st, Ins.kind, IOp.apps, List.any_cons, List.any_nil, pev, Ins.calm, Ins.opds, sureL, evS, St.put, List.map, List.length_cons, List.length_nil, List.cons_append, List.nil_append, List.getD_cons_zero, List.getD_cons_succ, List.set_cons_zero, List.set_cons_succ, SV.res, SV.strip, SV.sure, SV.cells, SV.scal, PV.scal, SV.ld, if_true, Bool.false_eq_true, if_false, true_and, and_true, Nat.zero_add, Nat.add_zero, Nat.reduceAdd, cond_true, cond_false, List.all_cons, Bool.and_self, Bool.and_true, Bool.true_and, Nat.reduceLeDiff, List.take, List.drop, Nat.reduceBEq, Bool.or_false, Bool.or_true, Bool.or_self, Option.map_some, spliceL, beq_self_eq_true, Nat.reduceEqDiff, List.all, Int.reduceLT, Int.cast_ofNat_Int, Int.toNat_zero, Nat.mul_one, and_self, Int.le_refl, aggS, allP]
  refine run_call sa [] rfl (by exact ⟨trivial, trivial⟩) rfl rfl rfl trivial trivial ?_
  simp only [run_seq, run_ops, run_opsNil, run_op0, run_cond, run_alloc, run_st, Ins.kind, IOp.apps, List.any_cons, List.any_nil, pev, Ins.calm, Ins.opds, sureL, evS, St.put, List.map, List.length_cons, List.length_nil, List.cons_append, List.nil_append, List.getD_cons_zero, List.getD_cons_succ, List.set_cons_zero, List.set_cons_succ, SV.res, SV.strip, SV.sure, SV.cells, SV.scal, PV.scal, SV.ld, if_true, Bool.false_eq_true, if_false, true_and, and_true, Nat.zero_add, Nat.add_zero, Nat.reduceAdd, cond_false, List.all_cons, Bool.and_self, Bool.and_true, Bool.true_and, Nat.reduceLeDiff, List.take, List.drop, Nat.reduceBEq, Bool.or_self, Option.map_some, PV.flat, spliceL, Nat.reduceEqDiff, List.all, Int.reduceLT, Int.cast_ofNat_Int, Int.toNat_zero, Nat.mul_one, and_self, Int.le_refl, aggS, allP]
  refine run_call sb [] rfl (by exact ⟨trivial, trivial⟩) rfl rfl rfl trivial trivial ?_
  simp only [run_seq, run_ops, run_opsNil, run_op0, run_cond, run_alloc, run_st, Ins.kind, IOp.apps, List.any_cons, List.any_nil, pev, Ins.calm, Ins.opds, sureL, evS, St.put, List.map, List.length_cons, List.length_nil, List.cons_append, List.nil_append, List.getD_cons_zero, List.getD_cons_succ, List.set_cons_zero, List.set_cons_succ, SV.res, SV.strip, SV.sure, SV.cells, SV.scal, PV.scal, SV.ld, if_true, Bool.false_eq_true, if_false, true_and, and_true, Nat.zero_add, Nat.add_zero, Nat.reduceAdd, cond_false, List.all_cons, Bool.and_self, Bool.and_true, Bool.true_and, Nat.reduceLeDiff, List.take, List.drop, Nat.reduceBEq, Bool.or_self, Option.map_some, PV.flat, spliceL, Nat.reduceEqDiff, List.all, Int.reduceLT, Int.cast_ofNat_Int, Int.toNat_zero, Nat.mul_one, and_self, Int.le_refl, aggS, allP]
  refine run_call ct [] rfl (by exact ⟨trivial, trivial, trivial⟩) rfl rfl rfl trivial trivial ?_
  simp only [run_seq, run_ops, run_opsNil, run_op0, run_cond, run_alloc, run_st, Ins.kind, IOp.apps, List.any_cons, List.any_nil, pev, Ins.calm, Ins.opds, sureL, evS, St.put, List.map, List.map_cons, List.length_cons, List.length_nil, List.nil_append, List.append_nil, List.getD_cons_zero, List.getD_cons_succ, List.set_cons_zero, List.set_cons_succ, SV.res, SV.strip, SV.sure, SV.cells, PV.cells, SV.scal, PV.scal, SV.ld, if_true, Bool.false_eq_true, if_false, true_and, Nat.zero_add, Nat.add_zero, Nat.reduceAdd, cond_false, List.all_cons, Bool.and_self, Bool.true_and, Nat.reduceLeDiff, List.take, List.drop, Nat.reduceBEq, Bool.or_self, Option.map_some, PV.flat, PV.flatL, spliceL, List.all, Int.reduceLT, Int.cast_ofNat_Int, Int.toNat_zero, Nat.mul_one, and_self, Int.le_refl, aggS, allP]
  refine run_call sc [] rfl (by exact ⟨trivial, trivial⟩) rfl rfl rfl trivial trivial ?_
  simp only [run_seq, run_ops, run_opsNil, run_op0, run_cond, run_alloc, run_st, Ins.kind, IOp.apps, List.any_cons, List.any_nil, pev, Ins.calm, Ins.opds, sureL, evS, St.put, List.map, List.map_cons, List.length_cons, List.length_nil, List.nil_append, List.append_nil, List.getD_cons_zero, List.getD_cons_succ, List.set_cons_zero, List.set_cons_succ, SV.res, SV.strip, SV.sure, SV.cells, PV.cells, SV.scal, PV.scal, SV.ld, binV, if_true, Bool.false_eq_true, if_false, true_and, Nat.zero_add, Nat.add_zero, Nat.reduceAdd, cond_false, List.all_cons, Bool.and_self, Bool.true_and, Nat.reduceLeDiff, List.take, List.drop, Nat.reduceBEq, Bool.or_self, Option.map_some, PV.flat, spliceL, List.all, Int.reduceLT, Int.cast_ofNat_Int, Int.toNat_zero, Nat.mul_one, and_self, Int.le_refl, aggS, allP]
  have hdv : p % 18446744073709551616 + 18446744073709551616 * (p / 18446744073709551616) = p := Nat.mod_add_div _ _
  refine runC_dec (fun h2 => ?_) (fun h2 => ?_)
  · have hq : 4611686018427387903 < p / D := by
      rw [← Nat.succ_le_iff, Nat.le_div_iff_mul_le vd]
      omega
    rw [fit_gt (by omega)]
    simp only [run_seq, run_ops, run_opsNil, run_ret, run_op0, Ins.kind, IOp.apps, List.any_cons, List.any_nil, pev, Ins.calm, Ins.opds, sureL, evS, St.put, List.set_cons_zero, List.set_cons_succ, SV.strip, SV.sure, if_true, true_and, cond_false, Bool.true_and, Nat.reduceBEq, Bool.or_self]
    simp only [List.append_nil, List.getD_cons_zero, List.getD_cons_succ, SV.res, Bool.and_self, Option.map_some, fzL, List.foldl_nil, SV.ids, List.flatMap_cons, List.flatMap_nil, SV.pvS, SV.pvSL, and_self, resK, resSV, oneSV]
  have cd := fn_Div64 G (p / 18446744073709551616) (p % 18446744073709551616) D (by omega) (by omega) (by omega)
  rw [show p / 18446744073709551616 * 18446744073709551616 + p % 18446744073709551616 = p by omega] at cd
  have hr := Nat.mod_lt p vd
  generalize hqe : p / D = q at *
  generalize hre : p % D = r at *
  generalize hmo : more m (neg3 a b c) q r D = mo at *
  have hmi : ((decide (a < 0) != decide (b < 0)) != decide (c < 0)) = neg3 a b c := rfl
  simp only [run_skip, run_seq, run_ops, run_opsNil, run_block, run_op0, run_cond, Ins.kind, IOp.apps, List.any_cons, List.any_nil, pev, Ins.calm, Ins.opds, sureL, evS, St.put, List.length_cons, List.length_nil, List.getD_cons_zero, List.getD_cons_succ, List.set_cons_zero, List.set_cons_succ, SV.res, SV.strip, SV.sure, SV.ld, binV, if_true, Bool.false_eq_true, if_false, true_and, Nat.zero_add, Nat.add_zero, Nat.reduceAdd, cond_false, Bool.and_self, Bool.true_and, Nat.reduceLeDiff, List.take, List.drop, Nat.reduceBEq, Bool.or_self, Option.map_some, Int.reduceLT, Int.cast_ofNat_Int, Int.toNat_zero, Int.toNat_one, Nat.mul_one, and_self, Int.zero_le_ofNat, Int.le_refl, aggS, allP]
  refine run_call cd _ rfl (by exact ⟨trivial, trivial, trivial, trivial⟩) rfl rfl rfl trivial trivial ?_
  obtain ⟨mi, hmi⟩ : ∃ x, x = neg3 a b c := ⟨_, rfl⟩
  rw [← hmi] at hmo ⊢
  have hmi2 : (!(!decide (a < 0) == decide (b < 0)) == decide (c < 0)) = mi := hmi.symm
  simp only [run_seq, run_ops, run_opsNil, run_block, run_op0, run_cond, Ins.kind, IOp.apps, List.any_cons, List.any_nil, pev, Ins.calm, Ins.opds, sureL, evS, St.put, List.length_cons, List.length_nil, List.append_nil, List.getD_cons_zero, List.getD_cons_succ, List.set_cons_zero, List.set_cons_succ, SV.res, SV.strip, SV.sure, binV, if_true, true_and, Nat.zero_add, Nat.reduceAdd, cond_false, Bool.and_self, Bool.true_and, Nat.reduceLT, Nat.reduceBEq, Bool.or_self, fzL, List.foldl_nil, SV.ids, boxIds, List.flatMap_cons, List.flatMap_nil, PV.flat, PV.flatL, and_self, hmi2]
  have w1 : IntKind.u64.wrap ((D : Int) - (r : Int)) = ((D - r : Nat) : Int) := by rw [IntKind.wrap_u64]; omega
  refine runC_of (fun h3 => ?_) (fun h3 => ?_)
  · have r0 : r = 0 := by simpa using h3
    have hm0 : mo = false := by rw [← hmo, r0]; exact more_zero _ _ _ _
    subst hm0
    rw [Bool.toNat_false, Nat.add_zero]
    simp only [run_skip, run_eb, run_seq, run_ops, run_opsNil, run_op0, run_opG, run_cond, run_pick, run_pickG, runP, runPG, Ins.kind, IOp.apps, List.any_cons, List.any_nil, gAct, pev, Ins.calm, Ins.opds, sureL, evS, St.put, List.getD_cons_zero, List.getD_cons_succ, List.set_cons_zero, List.set_cons_succ, SV.res, SV.strip, SV.sure, binV, if_true, Bool.false_eq_true, if_false, SV.mix, true_and, and_true, implies_true, cond_true, cond_false, Bool.and_self, Bool.and_true, Bool.true_and, Nat.reduceBEq, Bool.or_self, Bool.not_false, imp_self, Bool.not_eq_true', Bool.and_eq_true, and_self, Bool.cond_false_right]
    refine ⟨fun h => ⟨h, fun h => h.elim⟩, ?_⟩
    refine runC_dec (fun h5 => ?_) (fun h5 => ?_)
    · rw [fit_gt (by omega)]
      simp only [run_seq, run_ops, run_opsNil, run_ret, run_op0, Ins.kind, IOp.apps, List.any_cons, List.any_nil, pev, Ins.calm, Ins.opds, sureL, evS, St.put, List.set_cons_zero, List.set_cons_succ, SV.strip, SV.sure, if_true, true_and, cond_false, Bool.true_and, Nat.reduceBEq, Bool.or_self]
      simp only [List.append_nil, List.getD_cons_zero, List.getD_cons_succ, SV.res, Bool.and_self, Option.map_some, fzL, List.foldl_nil, SV.ids, List.flatMap_cons, List.flatMap_nil, SV.pvS, SV.pvSL, and_self, resK, resSV, oneSV]
    have h6 : q ≤ 4611686018427387903 := by omega
    have k2 : ∀ Q : Nat, Q ≤ 4611686018427387903 → IntKind.i64.wrap (Q : Int) = (Q : Int) := fun Q h => wrap_i64_id (by unfold i64; omega)
    have k3 : ∀ Q : Nat, Q ≤ 4611686018427387903 → IntKind.i64.wrap (0 - (Q : Int)) = -(Q : Int) := fun Q h => (wrap_i64_id (by unfold i64; omega)).trans (Int.zero_sub _)
    rw [fit_le h6]
    cases mi
    · simp only [run_skip, run_seq, run_ops, run_opsNil, run_ret, run_op0, run_cond, runC_false, Ins.kind, IOp.apps, List.any_cons, List.any_nil, pev, Ins.calm, Ins.opds, sureL, evS, St.put, List.getD_cons_zero, List.getD_cons_succ, List.set_cons_zero, List.set_cons_succ, SV.res, SV.strip, SV.sure, if_true, Bool.false_eq_true, if_false, true_and, cond_false, Bool.true_and, Nat.reduceBEq, Bool.or_self, k2 q h6, k3 q h6]
      simp only [List.append_nil, List.getD_cons_zero, List.getD_cons_succ, SV.res, Bool.and_self, Option.map_some, fzL, List.foldl_nil, SV.ids, List.flatMap_cons, List.flatMap_nil, SV.pvS, SV.pvSL, and_self, resK, resSV, oneSV]
    · simp only [run_skip, run_seq, run_ops, run_opsNil, run_ret, run_op0, run_cond, runC_true, runC_false, Ins.kind, IOp.apps, List.any_cons, List.any_nil, pev, Ins.calm, Ins.opds, sureL, evS, St.put, List.getD_cons_zero, List.getD_cons_succ, List.set_cons_zero, List.set_cons_succ, SV.res, SV.strip, SV.sure, if_true, true_and, cond_false, Bool.true_and, Nat.reduceBEq, Bool.or_self, k2 q h6, k3 q h6]
      simp only [List.append_nil, List.getD_cons_zero, List.getD_cons_succ, SV.res, Bool.and_self, Option.map_some, fzL, List.foldl_nil, SV.ids, List.flatMap_cons, List.flatMap_nil, SV.pvS, SV.pvSL, and_self, resK, resSV, oneSV]
  have r0 : ¬ r = 0 := by simpa using h3
  unfold more at hmo
  rw [if_neg r0] at hmo
  simp only [run_seq, run_ops, run_opsNil, run_op0, run_cond, Ins.kind, IOp.apps, List.any_cons, List.any_nil, pev, Ins.calm, Ins.opds, sureL, evS, St.put, List.getD_cons_zero, List.getD_cons_succ, List.set_cons_zero, List.set_cons_succ, SV.res, SV.strip, SV.sure, binV, if_true, true_and, cond_false, Bool.and_self, Bool.true_and, Nat.reduceBEq, Bool.or_self, and_self]
  refine runC_of (fun h4 => ?_) (fun h4 => ?_)
  · have m0 : m = 0 := by simpa using h4
    rw [if_pos m0] at hmo
    have hE : (decide ((r : Int) > ((D - r : Nat) : Int)) || (r : Int) == ((D - r : Nat) : Int) && IntKind.u64.wrap (bAnd IntKind.u64 ((q : Int)) 1) == 1) = mo := by
      rw [← hmo, and1]
      have x1 : decide ((r : Int) > ((D - r : Nat) : Int)) = decide (D < 2 * r) := decide_eq_decide.mpr (by omega)
      have x2 : ((r : Int) == ((D - r : Nat) : Int)) = decide (2 * r = D) := by rw [Bool.eq_iff_iff]; simp; omega
      have x3 : ((q : Int) % 2 == 1) = decide (q % 2 = 1) := by rw [Bool.eq_iff_iff]; simp; omega
      rw [x1, x2, x3]
    simp only [run_eb, run_seq, run_ops, run_opsNil, run_op0, run_opG, run_cond, run_pick, run_pickG, runP, runPG, Ins.kind, IOp.apps, List.any_cons, List.any_nil, gAct, pev, Ins.calm, Ins.opds, sureL, evS, St.put, List.getD_cons_zero, List.getD_cons_succ, List.set_cons_zero, List.set_cons_succ, SV.res, SV.strip, SV.sure, binV, if_true, Bool.false_eq_true, if_false, SV.mix, true_and, and_true, implies_true, cond_true, cond_false, Bool.and_self, Bool.and_true, Bool.true_and, Nat.reduceBEq, Bool.or_self, imp_self, Bool.not_eq_true', Bool.and_eq_true, and_self, Bool.cond_false_right, Bool.cond_true_left, w1, hE]
    refine ⟨fun h => ⟨h, fun h2 => ⟨h, h2⟩⟩, ?_⟩
    refine ⟨fun h => ⟨h, fun h2 => ⟨h, h2⟩⟩, ?_⟩
    refine runC_of (fun h5 => ?_) (fun h5 => ?_)
    · rw [fit_gt (by revert h5; cases mo <;> simp <;> omega)]
      simp only [run_seq, run_ops, run_opsNil, run_ret, run_op0, Ins.kind, IOp.apps, List.any_cons, List.any_nil, pev, Ins.calm, Ins.opds, sureL, evS, St.put, List.set_cons_zero, List.set_cons_succ, SV.strip, SV.sure, if_true, true_and, cond_false, Bool.true_and, Nat.reduceBEq, Bool.or_self]
      simp only [List.append_nil, List.getD_cons_zero, List.getD_cons_succ, SV.res, Bool.and_self, Option.map_some, fzL, List.foldl_nil, SV.ids, List.flatMap_cons, List.flatMap_nil, SV.pvS, SV.pvSL, and_self, resK, resSV, oneSV]
    have h6 : q + mo.toNat ≤ 4611686018427387903 := by revert h5; cases mo <;> simp <;> omega
    have k2 : ∀ Q : Nat, Q ≤ 4611686018427387903 → IntKind.i64.wrap (Q : Int) = (Q : Int) := fun Q h => wrap_i64_id (by unfold i64; omega)
    have k3 : ∀ Q : Nat, Q ≤ 4611686018427387903 → IntKind.i64.wrap (0 - (Q : Int)) = -(Q : Int) := fun Q h => (wrap_i64_id (by unfold i64; omega)).trans (Int.zero_sub _)
    rw [fit_le h6]
    cases mo
    · rw [Bool.toNat_false, Nat.add_zero] at h6 ⊢
      cases mi
      · simp only [run_skip, run_seq, run_ops, run_opsNil, run_ret, run_op0, run_cond, runC_false, Ins.kind, IOp.apps, List.any_cons, List.any_nil, pev, Ins.calm, Ins.opds, sureL, evS, St.put, List.getD_cons_zero, List.getD_cons_succ, List.set_cons_zero, List.set_cons_succ, SV.res, SV.strip, SV.sure, if_true, Bool.false_eq_true, if_false, true_and, cond_false, Bool.true_and, Nat.reduceBEq, Bool.or_self, k2 q h6, k3 q h6]
        simp only [List.append_nil, List.getD_cons_zero, List.getD_cons_succ, SV.res, Bool.and_self, Option.map_some, fzL, List.foldl_nil, SV.ids, List.flatMap_cons, List.flatMap_nil, SV.pvS, SV.pvSL, and_self, resK, resSV, oneSV]
      · simp only [run_skip, run_seq, run_ops, run_opsNil, run_ret, run_op0, run_cond, runC_true, runC_false, Ins.kind, IOp.apps, List.any_cons, List.any_nil, pev, Ins.calm, Ins.opds, sureL, evS, St.put, List.getD_cons_zero, List.getD_cons_succ, List.set_cons_zero, List.set_cons_succ, SV.res, SV.strip, SV.sure, if_true, true_and, cond_false, Bool.true_and, Nat.reduceBEq, Bool.or_self, k2 q h6, k3 q h6]
        simp only [List.append_nil, List.getD_cons_zero, List.getD_cons_succ, SV.res, Bool.and_self, Option.map_some, fzL, List.foldl_nil, SV.ids, List.flatMap_cons, List.flatMap_nil, SV.pvS, SV.pvSL, and_self, resK, resSV, oneSV]
    · rw [Bool.toNat_true] at h6 ⊢
      have k1 : IntKind.u64.wrap ((q : Int) + 1) = ((q + 1 : Nat) : Int) := by rw [IntKind.wrap_u64]; omega
      cases mi
      · simp only [run_skip, run_seq, run_ops, run_opsNil, run_ret, run_op0, run_cond, runC_true, runC_false, Ins.kind, IOp.apps, List.any_cons, List.any_nil, pev, Ins.calm, Ins.opds, sureL, evS, St.put, List.getD_cons_zero, List.getD_cons_succ, List.set_cons_zero, List.set_cons_succ, SV.res, SV.strip, SV.sure, binV, if_true, Bool.false_eq_true, if_false, true_and, and_true, cond_false, Bool.and_self, Bool.and_true, Bool.true_and, Nat.reduceBEq, Bool.or_self, and_self, k1, k2 (q + 1) h6, k3 (q + 1) h6]
        simp only [List.append_nil, List.getD_cons_zero, List.getD_cons_succ, SV.res, Bool.and_self, Option.map_some, fzL, List.foldl_nil, SV.ids, List.flatMap_cons, List.flatMap_nil, SV.pvS, SV.pvSL, and_self, resK, resSV, oneSV]
      · simp only [run_skip, run_seq, run_ops, run_opsNil, run_ret, run_op0, run_cond, runC_true, Ins.kind, IOp.apps, List.any_cons, List.any_nil, pev, Ins.calm, Ins.opds, sureL, evS, St.put, List.getD_cons_zero, List.getD_cons_succ, List.set_cons_zero, List.set_cons_succ, SV.res, SV.strip, SV.sure, binV, if_true, true_and, and_true, cond_false, Bool.and_self, Bool.and_true, Bool.true_and, Nat.reduceBEq, Bool.or_self, and_self, k1, k2 (q + 1) h6, k3 (q + 1) h6]
        simp only [List.append_nil, List.getD_cons_zero, List.getD_cons_succ, SV.res, Bool.and_self, Option.map_some, fzL, List.foldl_nil, SV.ids, List.flatMap_cons, List.flatMap_nil, SV.pvS, SV.pvSL, and_self, resK, resSV, oneSV]
  have m0 : ¬ m = 0 := by simpa using h4
  rw [if_neg m0] at hmo
  have hE : (!(m == 2) == mi) = mo := by
    rw [← hmo]
    rfl
  simp only [run_eb, run_seq, run_ops, run_opsNil, run_op0, run_opG, run_cond, run_pick, run_pickG, runP, runPG, Ins.kind, IOp.apps, List.any_cons, List.any_nil, gAct, pev, Ins.calm, Ins.opds, sureL, evS, St.put, List.getD_cons_zero, List.getD_cons_succ, List.set_cons_zero, List.set_cons_succ, SV.res, SV.strip, SV.sure, binV, if_true, Bool.false_eq_true, if_false, SV.mix, true_and, and_true, implies_true, cond_true, cond_false, Bool.and_self, Bool.and_true, Bool.true_and, Nat.reduceBEq, Bool.or_self, imp_self, Bool.not_eq_true', Bool.and_eq_true, and_self, Bool.cond_false_right, Bool.cond_true_left, hE]
  refine ⟨fun h => ⟨h, fun h2 => ⟨h, h2⟩⟩, ?_⟩
  refine runC_of (fun h5 => ?_) (fun h5 => ?_)
  · rw [fit_gt (by revert h5; cases mo <;> simp <;> omega)]
    simp only [run_seq, run_ops, run_opsNil, run_ret, run_op0, Ins.kind, IOp.apps, List.any_cons, List.any_nil, pev, Ins.calm, Ins.opds, sureL, evS, St.put, List.set_cons_zero, List.set_cons_succ, SV.strip, SV.sure, if_true, true_and, cond_false, Bool.true_and, Nat.reduceBEq, Bool.or_self]
    simp only [List.append_nil, List.getD_cons_zero, List.getD_cons_succ, SV.res, Bool.and_self, Option.map_some, fzL, List.foldl_nil, SV.ids, List.flatMap_cons, List.flatMap_nil, SV.pvS, SV.pvSL, and_self, resK, resSV, oneSV]
  have h6 : q + mo.toNat ≤ 4611686018427387903 := by revert h5; cases mo <;> simp <;> omega
  have k2 : ∀ Q : Nat, Q ≤ 4611686018427387903 → IntKind.i64.wrap (Q : Int) = (Q : Int) := fun Q h => wrap_i64_id (by unfold i64; omega)
  have k3 : ∀ Q : Nat, Q ≤ 4611686018427387903 → IntKind.i64.wrap (0 - (Q : Int)) = -(Q : Int) := fun Q h => (wrap_i64_id (by unfold i64; omega)).trans (Int.zero_sub _)
  rw [fit_le h6]
  cases mo
  · rw [Bool.toNat_false, Nat.add_zero] at h6 ⊢
    cases mi
    · simp only [run_skip, run_seq, run_ops, run_opsNil, run_ret, run_op0, run_cond, runC_false, Ins.kind, IOp.apps, List.any_cons, List.any_nil, pev, Ins.calm, Ins.opds, sureL, evS, St.put, List.getD_cons_zero, List.getD_cons_succ, List.set_cons_zero, List.set_cons_succ, SV.res, SV.strip, SV.sure, if_true, Bool.false_eq_true, if_false, true_and, cond_false, Bool.true_and, Nat.reduceBEq, Bool.or_self, k2 q h6, k3 q h6]
      simp only [List.append_nil, List.getD_cons_zero, List.getD_cons_succ, SV.res, Bool.and_self, Option.map_some, fzL, List.foldl_nil, SV.ids, List.flatMap_cons, List.flatMap_nil, SV.pvS, SV.pvSL, and_self, resK, resSV, oneSV]
    · simp only [run_skip, run_seq, run_ops, run_opsNil, run_ret, run_op0, run_cond, runC_true, runC_false, Ins.kind, IOp.apps, List.any_cons, List.any_nil, pev, Ins.calm, Ins.opds, sureL, evS, St.put, List.getD_cons_zero, List.getD_cons_succ, List.set_cons_zero, List.set_cons_succ, SV.res, SV.strip, SV.sure, if_true, true_and, cond_false, Bool.true_and, Nat.reduceBEq, Bool.or_self, k2 q h6, k3 q h6]
      simp only [List.append_nil, List.getD_cons_zero, List.getD_cons_succ, SV.res, Bool.and_self, Option.map_some, fzL, List.foldl_nil, SV.ids, List.flatMap_cons, List.flatMap_nil, SV.pvS, SV.pvSL, and_self, resK, resSV, oneSV]
  · rw [Bool.toNat_true] at h6 ⊢
    have k1 : IntKind.u64.wrap ((q : Int) + 1) = ((q + 1 : Nat) : Int) := by rw [IntKind.wrap_u64]; omega
    cases mi
    · simp only [run_skip, run_seq, run_ops, run_opsNil, run_ret, run_op0, run_cond, runC_true, runC_false, Ins.kind, IOp.apps, List.any_cons, List.any_nil, pev, Ins.calm, Ins.opds, sureL, evS, St.put, List.getD_cons_zero, List.getD_cons_succ, List.set_cons_zero, List.set_cons_succ, SV.res, SV.strip, SV.sure, binV, if_true, Bool.false_eq_true, if_false, true_and, and_true, cond_false, Bool.and_self, Bool.and_true, Bool.true_and, Nat.reduceBEq, Bool.or_self, and_self, k1, k2 (q + 1) h6, k3 (q + 1) h6]
      simp only [List.append_nil, List.getD_cons_zero, List.getD_cons_succ, SV.res, Bool.and_self, Option.map_some, fzL, List.foldl_nil, SV.ids, List.flatMap_cons, List.flatMap_nil, SV.pvS, SV.pvSL, and_self, resK, resSV, oneSV]
    · simp only [run_skip, run_seq, run_ops, run_opsNil, run_ret, run_op0, run_cond, runC_true, Ins.kind, IOp.apps, List.any_cons, List.any_nil, pev, Ins.calm, Ins.opds, sureL, evS, St.put, List.getD_cons_zero, List.getD_cons_succ, List.set_cons_zero, List.set_cons_succ, SV.res, SV.strip, SV.sure, binV, if_true, true_and, and_true, cond_false, Bool.and_self, Bool.and_true, Bool.true_and, Nat.reduceBEq, Bool.or_self, and_self, k1, k2 (q + 1) h6, k3 (q + 1) h6]
      simp only [List.append_nil, List.getD_cons_zero, List.getD_cons_succ, SV.res, Bool.and_self, Option.map_some, fzL, List.foldl_nil, SV.ids, List.flatMap_cons, List.flatMap_nil, SV.pvS, SV.pvSL, and_self, resK, resSV, oneSV]
end Go.Proofs
namespace Go.Cmplaw
end Go.Cmplaw
set_option linter.unusedSimpArgs false
set_option linter.unusedVariables false
set_option maxRecDepth 100000
namespace Go.Proofs
open Go Go.Fx Go.Mdlaw Go.Cmplaw
end Go.Proofs
