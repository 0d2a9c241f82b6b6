import Derived.Test.YtbfhholefjngpaaFxRun
import Derived.Laws.Bits64
import Derived.Test.YtbfhholefjngpaaChecked
import Derived.Lib.Mul64
set_option linter.unusedSimpArgs false
set_option linter.unusedVariables false
set_option maxRecDepth 100000
namespace Go.Proofs
open Go Go.Fx
def tab8 : List Int := [0, 1, 2, 2, 3, 3, 3, 3, 4, 4, 4, 4, 4, 4, 4, 4, 5, 5, 5, 5, 5, 5, 5, 5, 5, 5, 5, 5, 5, 5, 5, 5, 6, 6, 6, 6, 6, 6, 6, 6, 6, 6, 6, 6, 6, 6, 6, 6, 6, 6, 6, 6, 6, 6, 6, 6, 6, 6, 6, 6, 6, 6, 6, 6, 7, 7, 7, 7, 7, 7, 7, 7, 7, 7, 7, 7, 7, 7, 7, 7, 7, 7, 7, 7, 7, 7, 7, 7, 7, 7, 7, 7, 7, 7, 7, 7, 7, 7, 7, 7, 7, 7, 7, 7, 7, 7, 7, 7, 7, 7, 7, 7, 7, 7, 7, 7, 7, 7, 7, 7, 7, 7, 7, 7, 7, 7, 7, 7, 8, 8, 8, 8, 8, 8, 8, 8, 8, 8, 8, 8, 8, 8, 8, 8, 8, 8, 8, 8, 8, 8, 8, 8, 8, 8, 8, 8, 8, 8, 8, 8, 8, 8, 8, 8, 8, 8, 8, 8, 8, 8, 8, 8, 8, 8, 8, 8, 8, 8, 8, 8, 8, 8, 8, 8, 8, 8, 8, 8, 8, 8, 8, 8, 8, 8, 8, 8, 8, 8, 8, 8, 8, 8, 8, 8, 8, 8, 8, 8, 8, 8, 8, 8, 8, 8, 8, 8, 8, 8, 8, 8, 8, 8, 8, 8, 8, 8, 8, 8, 8, 8, 8, 8, 8, 8, 8, 8, 8, 8, 8, 8, 8, 8, 8, 8, 8, 8, 8, 8, 8, 8, 8, 8, 8, 8, 8, 8]
def ir_math_bits_Len64 : IR := (.seq (.ops false [⟨(some 2), (.mv (.c (.int .i64 (0)))), none⟩]) (.seq (.seq (.ops false [⟨(some 3), (.mv (.tmp 0)), none⟩, ⟨(some 4), (.bin .geq (.tmp 3) (.c (.int .u64 (4294967296)))), none⟩]) (.cond (.tmp 4) (.seq (.ops false [⟨(some 5), (.mv (.tmp 0)), none⟩, ⟨(some 6), (.bin .shr (.tmp 5) (.c (.int .u64 (32)))), none⟩, ⟨(some 0), (.mv (.tmp 6)), none⟩]) (.ops false [⟨(some 2), (.mv (.c (.int .i64 (32)))), none⟩])) .skip)) (.seq (.seq (.ops false [⟨(some 7), (.mv (.tmp 0)), none⟩, ⟨(some 8), (.bin .geq (.tmp 7) (.c (.int .u64 (65536)))), none⟩]) (.cond (.tmp 8) (.seq (.ops false [⟨(some 9), (.mv (.tmp 0)), none⟩, ⟨(some 10), (.bin .shr (.tmp 9) (.c (.int .u64 (16)))), none⟩, ⟨(some 0), (.mv (.tmp 10)), none⟩]) (.ops false [⟨(some 11), (.mv (.tmp 2)), none⟩, ⟨(some 12), (.bin .add (.tmp 11) (.c (.int .i64 (16)))), none⟩, ⟨(some 2), (.mv (.tmp 12)), none⟩])) .skip)) (.seq (.seq (.ops false [⟨(some 13), (.mv (.tmp 0)), none⟩, ⟨(some 14), (.bin .geq (.tmp 13) (.c (.int .u64 (256)))), none⟩]) (.cond (.tmp 14) (.seq (.ops false [⟨(some 15), (.mv (.tmp 0)), none⟩, ⟨(some 16), (.bin .shr (.tmp 15) (.c (.int .u64 (8)))), none⟩, ⟨(some 0), (.mv (.tmp 16)), none⟩]) (.ops false [⟨(some 17), (.mv (.tmp 2)), none⟩, ⟨(some 18), (.bin .add (.tmp 17) (.c (.int .i64 (8)))), none⟩, ⟨(some 2), (.mv (.tmp 18)), none⟩])) .skip)) (.seq (.ops false [⟨(some 19), (.mv (.tmp 2)), none⟩, ⟨(some 20), (.mv (.tmp 0)), none⟩, ⟨(some 21), (.cvtI .u8 (.tmp 20)), none⟩, ⟨(some 22), (.ixS (.c (.str tab8)) (.tmp 21)), none⟩, ⟨(some 23), (.cvtI .i64 (.tmp 22)), none⟩, ⟨(some 24), (.bin .add (.tmp 19) (.tmp 23)), none⟩, ⟨(some 2), (.mv (.tmp 24)), none⟩]) .ret)))))
theorem ok_math_bits_Len64 : compCode Try.prog (Try.f122.body.getD .skip) [] = some (ir_math_bits_Len64, []) := by kernel_rfl
def live_math_bits_Len64 : List (List Nat) := []
def ir_math_bits_LeadingZeros64 : IR := (.seq (.ops false [⟨(some 2), (.mv (.c (.int .i64 (0)))), none⟩]) (.seq (.ops false [⟨(some 3), (.mv (.tmp 0)), none⟩, ⟨(some 4), (.call (.func 122) [(.tmp 3)]), none⟩, ⟨(some 5), (.bin .sub (.c (.int .i64 (64))) (.tmp 4)), none⟩, ⟨(some 2), (.mv (.tmp 5)), none⟩]) .ret))
theorem ok_math_bits_LeadingZeros64 : compCode Try.prog (Try.f111.body.getD .skip) [] = some (ir_math_bits_LeadingZeros64, []) := by kernel_rfl
def live_math_bits_LeadingZeros64 : List (List Nat) := []
def blen (x : Nat) : Nat := if x = 0 then 0 else x.log2 + 1
theorem blen_shift {x k : Nat} (h : 2 ^ k ≤ x) : blen x = k + blen (x / 2 ^ k) := by
  have hp : 0 < 2 ^ k := Nat.two_pow_pos k
  have hx : x ≠ 0 := by omega
  have hd : x / 2 ^ k ≠ 0 := Nat.ne_of_gt (Nat.div_pos h hp)
  simp only [blen, hx, hd, if_false]
  have h1 : x.log2 = k + (x / 2 ^ k).log2 := by
    rw [Nat.log2_eq_iff hx]
    have h2 := (Nat.log2_eq_iff hd).1 rfl
    rw [Nat.le_div_iff_mul_le hp, Nat.div_lt_iff_lt_mul hp] at h2
    rw [Nat.pow_add, show k + (x / 2 ^ k).log2 + 1 = ((x / 2 ^ k).log2 + 1) + k by omega, Nat.pow_add]
    refine ⟨?_, h2.2⟩
    rw [Nat.mul_comm]; exact h2.1
  omega
theorem blen_lt {x : Nat} : x < 2 ^ blen x := by
  unfold blen
  split
  · rename_i h; subst h; decide
  · exact Nat.lt_log2_self
theorem blen_le {x : Nat} (h : x ≠ 0) : 2 ^ (blen x - 1) ≤ x := by
  simp only [blen, h, if_false, Nat.add_sub_cancel]
  exact Nat.log2_self_le h
theorem blen_max {x k : Nat} (h : x < 2 ^ k) : blen x ≤ k := by
  rcases Nat.eq_zero_or_pos x with h0 | h0
  · subst h0; exact Nat.zero_le _
  · have h1 := blen_le (x := x) (by omega)
    apply Nat.le_of_not_lt
    intro h2
    have : 2 ^ k ≤ 2 ^ (blen x - 1) := Nat.pow_le_pow_right (by decide) (by omega)
    omega
theorem tab_blen : ∀ t : Nat, t < 256 → tab8.getD t 0 = (blen t : Int) := by decide +kernel
theorem tab_len : tab8.length = 256 := rfl
theorem fn_Len64 (G : Glob) (x : Nat) (hx : x < 18446744073709551616) : FunEq Try.prog G 122 [.int .u64 x] (.int .i64 (blen x)) := by
  refine fun_of_vc live_math_bits_Len64 Try.func122 rfl (by kernel_rfl) ok_math_bits_Len64 (by kernel_rfl) Try.ntmps122 (run_of ?_)
  have s32 : ∀ {y : Nat}, 4294967296 ≤ y → blen y = 32 + blen (y / 4294967296) := fun h => blen_shift (k := 32) h
  have s16 : ∀ {y : Nat}, 65536 ≤ y → blen y = 16 + blen (y / 65536) := fun h => blen_shift (k := 16) h
  have s8 : ∀ {y : Nat}, 256 ≤ y → blen y = 8 + blen (y / 256) := fun h => blen_shift (k := 8) h
  simp only [run_seq, run_ops, run_opsNil, run_op0, run_cond, Ins.kind, IOp.apps, List.any_cons, List.any_nil, pev, Ins.calm, Ins.opds, sureL, evS, St.put, List.map, List.length_cons, List.length_nil, List.replicate, List.cons_append, List.nil_append, List.getD_cons_zero, List.getD_cons_succ, List.set_cons_zero, List.set_cons_succ, SV.res, SV.strip, SV.sure, binV, if_true, true_and, Nat.reduceSub, Nat.zero_add, cond_false, Bool.and_self, Bool.true_and, Nat.reduceBEq, Bool.or_self, and_self, ir_math_bits_Len64, Try.results122]
  refine runC_dec (fun h1 => ?_) (fun h1 => ?_)
  · simp only [run_seq, run_ops, run_opsNil, run_op0, run_cond, Ins.kind, IOp.apps, List.any_cons, List.any_nil, pev, Ins.calm, Ins.opds, sureL, evS, St.put, List.getD_cons_zero, List.getD_cons_succ, List.set_cons_zero, List.set_cons_succ, SV.res, SV.strip, SV.sure, binV, shV, if_true, true_and, cond_false, Bool.and_self, Bool.true_and, Nat.reduceLeDiff, Nat.reduceBEq, Bool.or_self, Int.reduceToNat, Nat.min_def, bits_u64, and_self, Int.zero_le_ofNat, Int.reducePow]
    refine runC_dec (fun h2 => ?_) (fun h2 => ?_)
    · simp only [run_seq, run_ops, run_opsNil, run_op0, run_cond, Ins.kind, IOp.apps, List.any_cons, List.any_nil, pev, Ins.calm, Ins.opds, sureL, evS, St.put, List.getD_cons_zero, List.getD_cons_succ, List.set_cons_zero, List.set_cons_succ, SV.res, SV.strip, SV.sure, binV, shV, if_true, true_and, cond_false, Bool.and_self, Bool.true_and, Nat.reduceLeDiff, Nat.reduceBEq, Bool.or_self, Int.reduceToNat, Nat.min_def, bits_u64, and_self, Int.zero_le_ofNat, Int.reducePow, Int.reduceAdd]
      refine runC_dec (fun h3 => ?_) (fun h3 => ?_)
      · simp only [run_seq, run_ops, run_opsNil, run_ret, run_op0, Ins.kind, IOp.apps, List.any_cons, List.any_nil, pev, Ins.calm, Ins.opds, sureL, evS, St.put, List.getD_cons_zero, List.getD_cons_succ, List.set_cons_zero, List.set_cons_succ, SV.res, SV.strip, SV.sure, binV, shV, if_true, true_and, cond_false, Bool.and_self, Bool.true_and, Nat.reduceLeDiff, Nat.reduceBEq, Bool.or_self, Int.reduceToNat, Nat.min_def, bits_u64, and_self, Int.zero_le_ofNat, Int.reducePow]
        simp only [List.append_nil, List.getD_cons_zero, List.getD_cons_succ, SV.res, true_and, Bool.true_and, fzL, List.foldl_nil, SV.ids, List.flatMap_cons, List.flatMap_nil, SV.pvS, resK, resSV, oneSV]
        have es32 := s32 (y := x) (by omega)
        have es16 := s16 (y := x / 4294967296) (by omega)
        have es8 := s8 (y := x / 4294967296 / 65536) (by omega)
        have hb : blen (x / 4294967296 / 65536 / 256) ≤ 8 := blen_max (by omega)
        have e : IntKind.u8.wrap ((x : Int) / 4294967296 / 65536 / 256) = ((x / 4294967296 / 65536 / 256 : Nat) : Int) := by rw [IntKind.wrap_u8]; omega
        rw [e, Int.toNat_natCast, tab_blen (x / 4294967296 / 65536 / 256) (by omega)]
        refine ⟨⟨by omega, by rw [tab_len]; omega⟩, ?_⟩
        simp only [IntKind.wrap_i64]
        clear s32 s16 s8
        rw [es32, es16, es8]
        clear es8 es16 es32
        clear e
        generalize blen (x / 4294967296 / 65536 / 256) = B at hb ⊢
        refine eqInt ?_
        omega
      · simp only [run_skip, run_seq, run_ops, run_opsNil, run_ret, run_op0, Ins.kind, IOp.apps, List.any_cons, List.any_nil, pev, Ins.calm, Ins.opds, sureL, evS, St.put, List.getD_cons_zero, List.getD_cons_succ, List.set_cons_zero, List.set_cons_succ, SV.res, SV.strip, SV.sure, binV, if_true, true_and, cond_false, Bool.and_self, Bool.true_and, Nat.reduceBEq, Bool.or_self, and_self]
        simp only [List.append_nil, List.getD_cons_zero, List.getD_cons_succ, SV.res, true_and, Bool.true_and, fzL, List.foldl_nil, SV.ids, List.flatMap_cons, List.flatMap_nil, SV.pvS, resK, resSV, oneSV]
        have es32 := s32 (y := x) (by omega)
        have es16 := s16 (y := x / 4294967296) (by omega)
        have hb : blen (x / 4294967296 / 65536) ≤ 8 := blen_max (by omega)
        have e : IntKind.u8.wrap ((x : Int) / 4294967296 / 65536) = ((x / 4294967296 / 65536 : Nat) : Int) := by rw [IntKind.wrap_u8]; omega
        rw [e, Int.toNat_natCast, tab_blen (x / 4294967296 / 65536) (by omega)]
        refine ⟨⟨by omega, by rw [tab_len]; omega⟩, ?_⟩
        simp only [IntKind.wrap_i64]
        clear s32 s16 s8
        rw [es32, es16]
        clear es16 es32
        clear e
        generalize blen (x / 4294967296 / 65536) = B at hb ⊢
        refine eqInt ?_
        omega
    · simp only [run_skip, run_seq, run_ops, run_opsNil, run_op0, run_cond, Ins.kind, IOp.apps, List.any_cons, List.any_nil, pev, Ins.calm, Ins.opds, sureL, evS, St.put, List.getD_cons_zero, List.getD_cons_succ, List.set_cons_zero, List.set_cons_succ, SV.res, SV.strip, SV.sure, binV, if_true, true_and, cond_false, Bool.and_self, Bool.true_and, Nat.reduceBEq, Bool.or_self, and_self]
      refine runC_dec (fun h3 => ?_) (fun h3 => ?_)
      · simp only [run_seq, run_ops, run_opsNil, run_ret, run_op0, Ins.kind, IOp.apps, List.any_cons, List.any_nil, pev, Ins.calm, Ins.opds, sureL, evS, St.put, List.getD_cons_zero, List.getD_cons_succ, List.set_cons_zero, List.set_cons_succ, SV.res, SV.strip, SV.sure, binV, shV, if_true, true_and, cond_false, Bool.and_self, Bool.true_and, Nat.reduceLeDiff, Nat.reduceBEq, Bool.or_self, Int.reduceToNat, Nat.min_def, bits_u64, and_self, Int.zero_le_ofNat, Int.reducePow, Int.reduceAdd]
        simp only [List.append_nil, List.getD_cons_zero, List.getD_cons_succ, SV.res, true_and, Bool.true_and, fzL, List.foldl_nil, SV.ids, List.flatMap_cons, List.flatMap_nil, SV.pvS, resK, resSV, oneSV]
        have es32 := s32 (y := x) (by omega)
        have es8 := s8 (y := x / 4294967296) (by omega)
        have hb : blen (x / 4294967296 / 256) ≤ 8 := blen_max (by omega)
        have e : IntKind.u8.wrap ((x : Int) / 4294967296 / 256) = ((x / 4294967296 / 256 : Nat) : Int) := by rw [IntKind.wrap_u8]; omega
        rw [e, Int.toNat_natCast, tab_blen (x / 4294967296 / 256) (by omega)]
        refine ⟨⟨by omega, by rw [tab_len]; omega⟩, ?_⟩
        simp only [IntKind.wrap_i64]
        clear s32 s16 s8
        rw [es32, es8]
        clear es8 es32
        clear e
        generalize blen (x / 4294967296 / 256) = B at hb ⊢
        refine eqInt ?_
        omega
      · simp only [run_skip, run_seq, run_ops, run_opsNil, run_ret, run_op0, Ins.kind, IOp.apps, List.any_cons, List.any_nil, pev, Ins.calm, Ins.opds, sureL, evS, St.put, List.getD_cons_zero, List.getD_cons_succ, List.set_cons_zero, List.set_cons_succ, SV.res, SV.strip, SV.sure, binV, if_true, true_and, cond_false, Bool.and_self, Bool.true_and, Nat.reduceBEq, Bool.or_self, and_self]
        simp only [List.append_nil, List.getD_cons_zero, List.getD_cons_succ, SV.res, true_and, Bool.true_and, fzL, List.foldl_nil, SV.ids, List.flatMap_cons, List.flatMap_nil, SV.pvS, resK, resSV, oneSV]
        have es32 := s32 (y := x) (by omega)
        have hb : blen (x / 4294967296) ≤ 8 := blen_max (by omega)
        have e : IntKind.u8.wrap ((x : Int) / 4294967296) = ((x / 4294967296 : Nat) : Int) := by rw [IntKind.wrap_u8]; omega
        rw [e, Int.toNat_natCast, tab_blen (x / 4294967296) (by omega)]
        refine ⟨⟨by omega, by rw [tab_len]; omega⟩, ?_⟩
        simp only [IntKind.wrap_i64]
        clear s32 s16 s8
        rw [es32]
        clear es32
        clear e
        generalize blen (x / 4294967296) = B at hb ⊢
        refine eqInt ?_
        omega
  · simp only [run_skip, run_seq, run_ops, run_opsNil, run_op0, run_cond, Ins.kind, IOp.apps, List.any_cons, List.any_nil, pev, Ins.calm, Ins.opds, sureL, evS, St.put, List.getD_cons_zero, List.getD_cons_succ, List.set_cons_zero, List.set_cons_succ, SV.res, SV.strip, SV.sure, binV, if_true, true_and, cond_false, Bool.and_self, Bool.true_and, Nat.reduceBEq, Bool.or_self, and_self]
    refine runC_dec (fun h2 => ?_) (fun h2 => ?_)
    · simp only [run_seq, run_ops, run_opsNil, run_op0, run_cond, Ins.kind, IOp.apps, List.any_cons, List.any_nil, pev, Ins.calm, Ins.opds, sureL, evS, St.put, List.getD_cons_zero, List.getD_cons_succ, List.set_cons_zero, List.set_cons_succ, SV.res, SV.strip, SV.sure, binV, shV, if_true, true_and, cond_false, Bool.and_self, Bool.true_and, Nat.reduceLeDiff, Nat.reduceBEq, Bool.or_self, Int.reduceToNat, Nat.min_def, bits_u64, and_self, Int.zero_le_ofNat, Int.reducePow, Int.reduceAdd]
      refine runC_dec (fun h3 => ?_) (fun h3 => ?_)
      · simp only [run_seq, run_ops, run_opsNil, run_ret, run_op0, Ins.kind, IOp.apps, List.any_cons, List.any_nil, pev, Ins.calm, Ins.opds, sureL, evS, St.put, List.getD_cons_zero, List.getD_cons_succ, List.set_cons_zero, List.set_cons_succ, SV.res, SV.strip, SV.sure, binV, shV, if_true, true_and, cond_false, Bool.and_self, Bool.true_and, Nat.reduceLeDiff, Nat.reduceBEq, Bool.or_self, Int.reduceToNat, Nat.min_def, bits_u64, and_self, Int.zero_le_ofNat, Int.reducePow]
        simp only [List.append_nil, List.getD_cons_zero, List.getD_cons_succ, SV.res, true_and, Bool.true_and, fzL, List.foldl_nil, SV.ids, List.flatMap_cons, List.flatMap_nil, SV.pvS, resK, resSV, oneSV]
        have es16 := s16 (y := x) (by omega)
        have es8 := s8 (y := x / 65536) (by omega)
        have hb : blen (x / 65536 / 256) ≤ 8 := blen_max (by omega)
        have e : IntKind.u8.wrap ((x : Int) / 65536 / 256) = ((x / 65536 / 256 : Nat) : Int) := by rw [IntKind.wrap_u8]; omega
        rw [e, Int.toNat_natCast, tab_blen (x / 65536 / 256) (by omega)]
        refine ⟨⟨by omega, by rw [tab_len]; omega⟩, ?_⟩
        simp only [IntKind.wrap_i64]
        clear s32 s16 s8
        rw [es16, es8]
        clear es8 es16
        clear e
        generalize blen (x / 65536 / 256) = B at hb ⊢
        refine eqInt ?_
        omega
      · simp only [run_skip, run_seq, run_ops, run_opsNil, run_ret, run_op0, Ins.kind, IOp.apps, List.any_cons, List.any_nil, pev, Ins.calm, Ins.opds, sureL, evS, St.put, List.getD_cons_zero, List.getD_cons_succ, List.set_cons_zero, List.set_cons_succ, SV.res, SV.strip, SV.sure, binV, if_true, true_and, cond_false, Bool.and_self, Bool.true_and, Nat.reduceBEq, Bool.or_self, and_self]
        simp only [List.append_nil, List.getD_cons_zero, List.getD_cons_succ, SV.res, true_and, Bool.true_and, fzL, List.foldl_nil, SV.ids, List.flatMap_cons, List.flatMap_nil, SV.pvS, resK, resSV, oneSV]
        have es16 := s16 (y := x) (by omega)
        have hb : blen (x / 65536) ≤ 8 := blen_max (by omega)
        have e : IntKind.u8.wrap ((x : Int) / 65536) = ((x / 65536 : Nat) : Int) := by rw [IntKind.wrap_u8]; omega
        rw [e, Int.toNat_natCast, tab_blen (x / 65536) (by omega)]
        refine ⟨⟨by omega, by rw [tab_len]; omega⟩, ?_⟩
        simp only [IntKind.wrap_i64]
        clear s32 s16 s8
        rw [es16]
        clear es16
        clear e
        generalize blen (x / 65536) = B at hb ⊢
        refine eqInt ?_
        omega
    · simp only [run_skip, run_seq, run_ops, run_opsNil, run_op0, run_cond, Ins.kind, IOp.apps, List.any_cons, List.any_nil, pev, Ins.calm, Ins.opds, sureL, evS, St.put, List.getD_cons_zero, List.getD_cons_succ, List.set_cons_zero, List.set_cons_succ, SV.res, SV.strip, SV.sure, binV, if_true, true_and, cond_false, Bool.and_self, Bool.true_and, Nat.reduceBEq, Bool.or_self, and_self]
      refine runC_dec (fun h3 => ?_) (fun h3 => ?_)
      · simp only [run_seq, run_ops, run_opsNil, run_ret, run_op0, Ins.kind, IOp.apps, List.any_cons, List.any_nil, pev, Ins.calm, Ins.opds, sureL, evS, St.put, List.getD_cons_zero, List.getD_cons_succ, List.set_cons_zero, List.set_cons_succ, SV.res, SV.strip, SV.sure, binV, shV, if_true, true_and, cond_false, Bool.and_self, Bool.true_and, Nat.reduceLeDiff, Nat.reduceBEq, Bool.or_self, Int.reduceToNat, Nat.min_def, bits_u64, and_self, Int.zero_le_ofNat, Int.reducePow, Int.reduceAdd]
        simp only [List.append_nil, List.getD_cons_zero, List.getD_cons_succ, SV.res, true_and, Bool.true_and, fzL, List.foldl_nil, SV.ids, List.flatMap_cons, List.flatMap_nil, SV.pvS, resK, resSV, oneSV]
        have es8 := s8 (y := x) (by omega)
        have hb : blen (x / 256) ≤ 8 := blen_max (by omega)
        have e : IntKind.u8.wrap ((x : Int) / 256) = ((x / 256 : Nat) : Int) := by rw [IntKind.wrap_u8]; omega
        rw [e, Int.toNat_natCast, tab_blen (x / 256) (by omega)]
        refine ⟨⟨by omega, by rw [tab_len]; omega⟩, ?_⟩
        simp only [IntKind.wrap_i64]
        clear s32 s16 s8
        rw [es8]
        clear es8
        clear e
        generalize blen (x / 256) = B at hb ⊢
        refine eqInt ?_
        omega
      · simp only [run_skip, run_seq, run_ops, run_opsNil, run_ret, run_op0, Ins.kind, IOp.apps, List.any_cons, List.any_nil, pev, Ins.calm, Ins.opds, sureL, evS, St.put, List.getD_cons_zero, List.getD_cons_succ, List.set_cons_zero, List.set_cons_succ, SV.res, SV.strip, SV.sure, binV, if_true, true_and, cond_false, Bool.and_self, Bool.true_and, Nat.reduceBEq, Bool.or_self, and_self]
        simp only [List.append_nil, List.getD_cons_zero, List.getD_cons_succ, SV.res, true_and, Bool.true_and, fzL, List.foldl_nil, SV.ids, List.flatMap_cons, List.flatMap_nil, SV.pvS, resK, resSV, oneSV]
        have hb : blen (x) ≤ 8 := blen_max (by omega)
        have e : IntKind.u8.wrap ((x : Int)) = ((x : Nat) : Int) := by rw [IntKind.wrap_u8]; omega
        rw [e, Int.toNat_natCast, tab_blen (x) (by omega)]
        refine ⟨⟨by omega, by rw [tab_len]; omega⟩, ?_⟩
        simp only [IntKind.wrap_i64]
        clear s32 s16 s8
        clear e
        generalize blen (x) = B at hb ⊢
        refine eqInt ?_
        omega
theorem fn_LeadingZeros64 (G : Glob) (x : Nat) (hx : x < 18446744073709551616) : FunEq Try.prog G 111 [.int .u64 x] (.int .i64 ((64 - blen x : Nat) : Int)) := by
  refine fun_of_vc live_math_bits_LeadingZeros64 Try.func111 rfl (by kernel_rfl) ok_math_bits_LeadingZeros64 (by kernel_rfl) Try.ntmps111 (run_of ?_)
  simp only [run_seq, run_ops, run_opsNil, run_ret, run_op0, Ins.kind, IOp.apps, List.any_cons, List.any_nil, pev, Ins.calm, Ins.opds, sureL, evS, St.put, List.map, List.length_cons, List.length_nil, List.replicate, List.cons_append, List.nil_append, List.getD_cons_zero, List.getD_cons_succ, List.set_cons_zero, List.set_cons_succ, SV.res, SV.strip, SV.sure, if_true, Bool.false_eq_true, if_false, true_and, Nat.reduceSub, Nat.zero_add, cond_false, Bool.and_self, Bool.true_and, Nat.reduceBEq, Bool.or_self, and_self, ir_math_bits_LeadingZeros64, Try.results111]
  refine run_call (fn_Len64 G x hx) [] rfl ?hs rfl rfl rfl trivial trivial ?h
  case hs => exact ⟨trivial, trivial⟩
  simp only [run_opsNil, run_ret, run_op0, pev, Ins.calm, Ins.opds, sureL, evS, St.put, List.getD_cons_zero, List.getD_cons_succ, List.set_cons_zero, List.set_cons_succ, SV.res, SV.strip, SV.sure, binV, if_true, true_and, Bool.and_self, Bool.true_and, PV.flat, and_self]
  simp only [List.append_nil, List.getD_cons_zero, List.getD_cons_succ, SV.res, true_and, Bool.true_and, fzL, List.foldl_nil, SV.ids, List.flatMap_cons, List.flatMap_nil, SV.pvS, resK, resSV, oneSV]
  have hb : blen x ≤ 64 := blen_max hx
  simp only [IntKind.wrap_i64]
  refine eqInt ?_
  omega
end Go.Proofs
set_option linter.unusedSimpArgs false
set_option linter.unusedVariables false
set_option maxRecDepth 100000
namespace Go.Proofs
open Go Go.Fx
def ir_wide_Right : IR := (.seq (.ops false [⟨(some 2), (.mv (.c (.bool false))), none⟩]) (.seq (.ops false [⟨(some 3), (.mv (.tmp 0)), none⟩, ⟨(some 4), (.bin .geq (.tmp 3) (.c (.int .i64 (-4611686018427387903)))), none⟩, ⟨(some 5), (.mv (.tmp 4)), none⟩, ⟨(some 6), (.mv (.tmp 0)), (some (5, true))⟩, ⟨(some 7), (.bin .leq (.tmp 6) (.c (.int .i64 (4611686018427387903)))), (some (5, true))⟩, ⟨(some 8), (.pick (.tmp 5) (.tmp 7) (.c (.bool false))), none⟩, ⟨(some 2), (.mv (.tmp 8)), none⟩]) .ret))
theorem ok_wide_Right : compCode Try.prog (Try.f26.body.getD .skip) [] = some (ir_wide_Right, []) := by kernel_rfl
def live_wide_Right : List (List Nat) := []
def ir_wide_size : IR := (.seq (.ops false [⟨(some 2), (.mv (.c (.int .u64 (0)))), none⟩]) (.seq (.ops false [⟨(some 3), (.mv (.tmp 0)), none⟩, ⟨(some 4), (.mv (.tmp 0)), none⟩, ⟨(some 5), (.un .neg (.tmp 4)), none⟩, ⟨(some 6), (.maxs [(.tmp 3), (.tmp 5)]), none⟩, ⟨(some 7), (.cvtI .u64 (.tmp 6)), none⟩, ⟨(some 2), (.mv (.tmp 7)), none⟩]) .ret))
theorem ok_wide_size : compCode Try.prog (Try.f73.body.getD .skip) [] = some (ir_wide_size, []) := by kernel_rfl
def live_wide_size : List (List Nat) := []
def ir_wide_times : IR := (.seq (.ops false [⟨(some 4), (.alloc 75 [(.int .u64 (0)), (.int .u64 (0))]), none⟩]) (.seq (.ops false [⟨(some 8), (.mv (.tmp 0)), none⟩, ⟨(some 9), (.mv (.tmp 1)), none⟩, ⟨(some 10), (.call (.func 110) [(.tmp 8), (.tmp 9)]), none⟩, ⟨(some 7), (.mv (.tmp 10)), none⟩, ⟨(some 11), (.ext (.tmp 7) 0), none⟩, ⟨(some 12), (.ext (.tmp 7) 1), none⟩, ⟨(some 5), (.mv (.tmp 11)), none⟩, ⟨(some 6), (.mv (.tmp 12)), none⟩]) (.seq (.ops false [⟨(some 13), (.mv (.tmp 5)), none⟩, ⟨(some 14), (.mv (.tmp 6)), none⟩, ⟨(some 15), (.build [(.int .u64 (0)), (.int .u64 (0))] [(0, (1, (.tmp 13))), (1, (1, (.tmp 14)))]), none⟩, ⟨none, (.st 2 (.tmp 4) (.tmp 15)), none⟩]) .ret)))
theorem ok_wide_times : compCode Try.prog (Try.f72.body.getD .skip) [] = some (ir_wide_times, []) := by kernel_rfl
def live_wide_times : List (List Nat) := []
def ir_math_bits_Mul64 : IR := (.seq (.ops false [⟨(some 4), (.mv (.c (.int .u64 (0)))), none⟩, ⟨(some 5), (.mv (.c (.int .u64 (0)))), none⟩]) (.seq (.ops false [⟨(some 14), (.mv (.tmp 0)), none⟩, ⟨(some 15), (.bin .and (.tmp 14) (.c (.int .u64 (4294967295)))), none⟩, ⟨(some 6), (.mv (.tmp 15)), none⟩]) (.seq (.ops false [⟨(some 16), (.mv (.tmp 0)), none⟩, ⟨(some 17), (.bin .shr (.tmp 16) (.c (.int .u64 (32)))), none⟩, ⟨(some 7), (.mv (.tmp 17)), none⟩]) (.seq (.ops false [⟨(some 18), (.mv (.tmp 1)), none⟩, ⟨(some 19), (.bin .and (.tmp 18) (.c (.int .u64 (4294967295)))), none⟩, ⟨(some 8), (.mv (.tmp 19)), none⟩]) (.seq (.ops false [⟨(some 20), (.mv (.tmp 1)), none⟩, ⟨(some 21), (.bin .shr (.tmp 20) (.c (.int .u64 (32)))), none⟩, ⟨(some 9), (.mv (.tmp 21)), none⟩]) (.seq (.ops false [⟨(some 22), (.mv (.tmp 6)), none⟩, ⟨(some 23), (.mv (.tmp 8)), none⟩, ⟨(some 24), (.bin .mul (.tmp 22) (.tmp 23)), none⟩, ⟨(some 10), (.mv (.tmp 24)), none⟩]) (.seq (.ops false [⟨(some 25), (.mv (.tmp 7)), none⟩, ⟨(some 26), (.mv (.tmp 8)), none⟩, ⟨(some 27), (.bin .mul (.tmp 25) (.tmp 26)), none⟩, ⟨(some 28), (.mv (.tmp 10)), none⟩, ⟨(some 29), (.bin .shr (.tmp 28) (.c (.int .u64 (32)))), none⟩, ⟨(some 30), (.bin .add (.tmp 27) (.tmp 29)), none⟩, ⟨(some 11), (.mv (.tmp 30)), none⟩]) (.seq (.ops false [⟨(some 31), (.mv (.tmp 11)), none⟩, ⟨(some 32), (.bin .and (.tmp 31) (.c (.int .u64 (4294967295)))), none⟩, ⟨(some 12), (.mv (.tmp 32)), none⟩]) (.seq (.ops false [⟨(some 33), (.mv (.tmp 11)), none⟩, ⟨(some 34), (.bin .shr (.tmp 33) (.c (.int .u64 (32)))), none⟩, ⟨(some 13), (.mv (.tmp 34)), none⟩]) (.seq (.ops false [⟨(some 35), (.mv (.tmp 12)), none⟩, ⟨(some 36), (.mv (.tmp 6)), none⟩, ⟨(some 37), (.mv (.tmp 9)), none⟩, ⟨(some 38), (.bin .mul (.tmp 36) (.tmp 37)), none⟩, ⟨(some 39), (.bin .add (.tmp 35) (.tmp 38)), none⟩, ⟨(some 12), (.mv (.tmp 39)), none⟩]) (.seq (.ops false [⟨(some 40), (.mv (.tmp 7)), none⟩, ⟨(some 41), (.mv (.tmp 9)), none⟩, ⟨(some 42), (.bin .mul (.tmp 40) (.tmp 41)), none⟩, ⟨(some 43), (.mv (.tmp 13)), none⟩, ⟨(some 44), (.bin .add (.tmp 42) (.tmp 43)), none⟩, ⟨(some 45), (.mv (.tmp 12)), none⟩, ⟨(some 46), (.bin .shr (.tmp 45) (.c (.int .u64 (32)))), none⟩, ⟨(some 47), (.bin .add (.tmp 44) (.tmp 46)), none⟩, ⟨(some 4), (.mv (.tmp 47)), none⟩]) (.seq (.ops false [⟨(some 48), (.mv (.tmp 0)), none⟩, ⟨(some 49), (.mv (.tmp 1)), none⟩, ⟨(some 50), (.bin .mul (.tmp 48) (.tmp 49)), none⟩, ⟨(some 5), (.mv (.tmp 50)), none⟩]) .ret))))))))))))
theorem ok_math_bits_Mul64 : compCode Try.prog (Try.f110.body.getD .skip) [] = some (ir_math_bits_Mul64, []) := by kernel_rfl
def live_math_bits_Mul64 : List (List Nat) := []
def i64 (a : Int) : Prop := -9223372036854775808 ≤ a ∧ a ≤ 9223372036854775807
theorem wrap_i64_id {a : Int} (h : i64 a) : IntKind.i64.wrap a = a := by
  rw [IntKind.wrap_i64]; unfold i64 at h; omega
theorem and32 (a : Int) : IntKind.u64.wrap (bAnd .u64 a 4294967295) = a % 4294967296 := by
  show IntKind.u64.wrap ((BitVec.ofInt 64 a &&& BitVec.ofInt 64 4294967295).toNat : Int) = a % 4294967296
  rw [BitVec.toNat_and, BitVec.toNat_ofInt, BitVec.toNat_ofInt, show ((4294967295 : Int) % ((2 ^ 64 : Nat) : Int)).toNat = 2 ^ 32 - 1 from rfl, Nat.and_two_pow_sub_one_eq_mod, IntKind.wrap_u64]
  have : ((2 ^ 64 : Nat) : Int) = 18446744073709551616 := rfl
  rw [this]
  omega
theorem fn_wide_Right (G : Glob) (a : Int) : FunEq Try.prog G 26 [.int .i64 a] (.bool (decide (-4611686018427387903 ≤ a ∧ a ≤ 4611686018427387903))) := by
  refine fun_of_vc live_wide_Right Try.func26 rfl (by kernel_rfl) ok_wide_Right (by kernel_rfl) Try.ntmps26 (run_of ?_)
  simp only [run_seq, run_ops, run_opsNil, run_ret, run_op0, run_opG, run_pick, runP, Ins.kind, IOp.apps, List.any_cons, List.any_nil, gAct, pev, Ins.calm, Ins.opds, sureL, evS, St.put, List.map, List.length_cons, List.length_nil, List.replicate, List.cons_append, List.nil_append, List.getD_cons_zero, List.getD_cons_succ, List.set_cons_zero, List.set_cons_succ, SV.res, SV.strip, SV.sure, binV, if_true, Bool.false_eq_true, if_false, SV.mix, true_and, and_true, Nat.reduceSub, Nat.zero_add, implies_true, cond_true, cond_false, Bool.and_self, Bool.and_true, Bool.true_and, Nat.reduceBEq, Bool.or_self, Int.reduceNeg, imp_self, and_self, Bool.cond_false_right, ir_wide_Right, Try.results26]
  simp only [List.append_nil, List.getD_cons_zero, List.getD_cons_succ, SV.res, true_and, Bool.true_and, fzL, List.foldl_nil, SV.ids, List.flatMap_cons, List.flatMap_nil, SV.pvS, Int.reduceNeg, resK, resSV, oneSV]
  simp
theorem fn_wide_size (G : Glob) (a : Int) (h : i64 a) : FunEq Try.prog G 73 [.int .i64 a] (.int .u64 a.natAbs) := by
  refine fun_of_vc live_wide_size Try.func73 rfl (by kernel_rfl) ok_wide_size (by kernel_rfl) Try.ntmps73 (run_of ?_)
  simp only [run_seq, run_ops, run_opsNil, run_ret, run_op0, Ins.kind, IOp.apps, List.any_cons, List.any_nil, pev, Ins.calm, Ins.opds, sureL, evS, St.put, List.map, List.length_cons, List.length_nil, List.replicate, List.cons_append, List.nil_append, List.getD_cons_zero, List.getD_cons_succ, List.set_cons_zero, List.set_cons_succ, SV.res, SV.strip, SV.sure, if_true, true_and, Nat.reduceSub, Nat.zero_add, cond_false, Bool.and_self, Bool.true_and, Nat.reduceBEq, Bool.or_self, Option.map_some, maxL, and_self, ir_wide_size, Try.results73]
  simp only [List.append_nil, List.getD_cons_zero, List.getD_cons_succ, SV.res, true_and, Bool.true_and, fzL, List.foldl_nil, SV.ids, List.flatMap_cons, List.flatMap_nil, SV.pvS, resK, resSV, oneSV]
  rw [IntKind.wrap_i64, IntKind.wrap_u64]
  unfold i64 at h
  congr 2
  omega
theorem fn_Mul64 (G : Glob) (x y : Nat) (hx : x < 18446744073709551616) (hy : y < 18446744073709551616) : FunEq Try.prog G 110 [.int .u64 x, .int .u64 y] (.tup [.int .u64 ((x * y / 18446744073709551616 : Nat) : Int), .int .u64 ((x * y % 18446744073709551616 : Nat) : Int)]) := by
  refine fun_of_vc live_math_bits_Mul64 Try.func110 rfl (by kernel_rfl) ok_math_bits_Mul64 (by kernel_rfl) Try.ntmps110 (run_of ?_)
  simp only [run_seq, run_ops, run_opsNil, run_ret, run_op0, Ins.kind, IOp.apps, List.any_cons, List.any_nil, pev, Ins.calm, Ins.opds, sureL, evS, St.put, List.map, List.length_cons, List.length_nil, List.replicate, List.cons_append, List.nil_append, List.getD_cons_zero, List.getD_cons_succ, List.set_cons_zero, List.set_cons_succ, SV.res, SV.strip, SV.sure, binV, shV, if_true, true_and, Nat.reduceSub, Nat.zero_add, Nat.reduceAdd, cond_false, Bool.and_self, Bool.true_and, Nat.reduceLeDiff, Nat.reduceBEq, Bool.or_self, Int.reduceToNat, Nat.min_def, bits_u64, and_self, Int.zero_le_ofNat, Int.reducePow, ir_math_bits_Mul64, Try.results110]
  simp only [List.append_nil, List.getD_cons_zero, List.getD_cons_succ, SV.res, true_and, Bool.true_and, Option.map_some, fzL, List.foldl_nil, SV.ids, List.flatMap_cons, List.flatMap_nil, SV.pvS, SV.pvSL, resK, resSV, oneSV]
  obtain ⟨bd, bt, bw, hhi⟩ := Lib.mul64_hi x y hx hy
  have ba := Lib.half_mul_le (a := x / 4294967296) (b := y / 4294967296) (by omega) (by omega)
  have bb := Lib.half_mul_le (a := x / 4294967296) (b := y % 4294967296) (by omega) (by omega)
  have bc := Lib.half_mul_le (a := x % 4294967296) (b := y / 4294967296) (by omega) (by omega)
  have ba' : x / 4294967296 * (y / 4294967296) < 18446744073709551616 := by omega
  have bb' : x / 4294967296 * (y % 4294967296) < 18446744073709551616 := by omega
  have bc' : x % 4294967296 * (y / 4294967296) < 18446744073709551616 := by omega
  have bh1 : x / 4294967296 * (y / 4294967296) + (x / 4294967296 * (y % 4294967296) + x % 4294967296 * (y % 4294967296) / 4294967296) / 4294967296 < 18446744073709551616 := by omega
  have bh : x / 4294967296 * (y / 4294967296) + (x / 4294967296 * (y % 4294967296) + x % 4294967296 * (y % 4294967296) / 4294967296) / 4294967296 + ((x / 4294967296 * (y % 4294967296) + x % 4294967296 * (y % 4294967296) / 4294967296) % 4294967296 + x % 4294967296 * (y / 4294967296)) / 4294967296 < 18446744073709551616 := by omega
  have divN : ∀ a : Nat, (a : Int) / 4294967296 = ((a / 4294967296 : Nat) : Int) := fun a => by omega
  have modN : ∀ a : Nat, (a : Int) % 4294967296 = ((a % 4294967296 : Nat) : Int) := fun a => by omega
  have mulN : ∀ a b : Nat, (a : Int) * (b : Int) = ((a * b : Nat) : Int) := fun a b => (Int.natCast_mul a b).symm
  have addN : ∀ a b : Nat, (a : Int) + (b : Int) = ((a + b : Nat) : Int) := fun a b => (Int.natCast_add a b).symm
  have wrapN : ∀ a : Nat, a < 18446744073709551616 → IntKind.u64.wrap (a : Int) = (a : Int) := fun a ha => by rw [IntKind.wrap_u64]; omega
  have wrapM : ∀ a : Nat, IntKind.u64.wrap (a : Int) = ((a % 18446744073709551616 : Nat) : Int) := fun a => by rw [IntKind.wrap_u64]; omega
  simp only [and32, divN, modN, mulN, addN, wrapN _ bd, wrapN _ bb', wrapN _ bt, wrapN _ bc', wrapN _ bw, wrapN _ ba', wrapN _ bh1, wrapN _ bh, wrapM (x * y)]
  rw [hhi]
theorem cells75 : Try.prog.cellsOf 75 = 2 := by kernel_rfl
theorem agg75 : isAggT Try.prog 75 = true := by kernel_rfl
theorem fn_wide_times (G : Glob) (x y : Nat) (hx : x < 18446744073709551616) (hy : y < 18446744073709551616) : FunEq Try.prog G 72 [.int .u64 x, .int .u64 y] (.agg [.int .u64 ((x * y / 18446744073709551616 : Nat) : Int), .int .u64 ((x * y % 18446744073709551616 : Nat) : Int)]) := by
  refine fun_of_vc live_wide_times Try.func72 rfl (by kernel_rfl) ok_wide_times (by kernel_rfl) Try.ntmps72 (run_of ?_)
  simp only [run_seq, run_ops, run_opsNil, run_ret, run_op0, run_alloc, run_st, Ins.kind, IOp.apps, List.any_cons, List.any_nil, pev, Ins.calm, Ins.opds, sureL, evS, St.put, List.map, List.length_cons, List.length_nil, List.replicate, List.cons_append, List.nil_append, List.append_nil, List.getD_cons_zero, List.getD_cons_succ, List.set_cons_zero, List.set_cons_succ, SV.res, SV.strip, SV.sure, SV.cells, SV.scal, PV.scal, if_true, Bool.false_eq_true, if_false, true_and, and_true, Nat.reduceSub, Nat.zero_add, Nat.reduceAdd, cond_true, cond_false, List.all_cons, Bool.and_self, Bool.and_true, Bool.true_and, Nat.reduceLeDiff, List.take, List.drop, Nat.reduceBEq, Bool.or_false, Bool.or_self, spliceL, beq_self_eq_true, Nat.reduceEqDiff, List.all, and_self, fillL, ir_wide_times, Try.results72]
  refine run_call (fn_Mul64 G x y hx hy) [.box 75 [.p (.int .u64 0), .p (.int .u64 0)]] rfl ?hs rfl rfl rfl trivial trivial ?h
  case hs => exact ⟨trivial, trivial, trivial⟩
  simp only [run_seq, run_ops, run_opsNil, run_ret, run_op0, run_st, Ins.kind, IOp.apps, List.any_cons, List.any_nil, pev, Ins.calm, Ins.opds, sureL, evS, St.put, List.map, List.map_cons, List.length_cons, List.length_nil, List.cons_append, List.nil_append, List.append_nil, List.getD_cons_zero, List.getD_cons_succ, List.set_cons_zero, List.set_cons_succ, SV.res, SV.strip, SV.sure, SV.cells, PV.cells, SV.scal, PV.scal, if_true, Bool.false_eq_true, if_false, true_and, Nat.zero_add, Nat.reduceAdd, cond_false, List.all_cons, Bool.and_self, Bool.true_and, Nat.reduceLeDiff, Nat.reduceLT, List.take, List.drop, Nat.reduceBEq, Bool.or_self, Option.map_some, PV.flat, PV.flatL, spliceL, List.all, and_self, fillL, aggS, allP]
  simp only [List.length_cons, List.length_nil, List.append_nil, List.getD_cons_zero, List.getD_cons_succ, SV.res, SV.ld, if_true, Nat.zero_add, Nat.reduceAdd, Bool.and_self, Nat.reduceLeDiff, List.take, List.drop, Option.map_some, fzL, List.foldl_nil, SV.ids, List.flatMap_cons, List.flatMap_nil, SV.pvS, and_self, aggS, allP, resK, resSV, oneSV, cells75, agg75]
end Go.Proofs
