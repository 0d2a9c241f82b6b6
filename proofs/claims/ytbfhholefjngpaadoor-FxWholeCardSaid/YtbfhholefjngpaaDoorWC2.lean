import Derived.Test.YtbfhholefjngpaaDoorFxRun
import Derived.Laws.Bits64
import Derived.Test.YtbfhholefjngpaaDoorChecked
set_option linter.unusedSimpArgs false
set_option linter.unusedVariables false
set_option maxRecDepth 100000
namespace Go.Proofs
open Go Go.Fx

/-- how many bits a byte has -/
def tab8 : List Int := [0, 1, 2, 2, 3, 3, 3, 3, 4, 4, 4, 4, 4, 4, 4, 4, 5, 5, 5, 5, 5, 5, 5, 5, 5, 5, 5, 5, 5, 5, 5, 5, 6, 6, 6, 6, 6, 6, 6, 6, 6, 6, 6, 6, 6, 6, 6, 6, 6, 6, 6, 6, 6, 6, 6, 6, 6, 6, 6, 6, 6, 6, 6, 6, 7, 7, 7, 7, 7, 7, 7, 7, 7, 7, 7, 7, 7, 7, 7, 7, 7, 7, 7, 7, 7, 7, 7, 7, 7, 7, 7, 7, 7, 7, 7, 7, 7, 7, 7, 7, 7, 7, 7, 7, 7, 7, 7, 7, 7, 7, 7, 7, 7, 7, 7, 7, 7, 7, 7, 7, 7, 7, 7, 7, 7, 7, 7, 7, 8, 8, 8, 8, 8, 8, 8, 8, 8, 8, 8, 8, 8, 8, 8, 8, 8, 8, 8, 8, 8, 8, 8, 8, 8, 8, 8, 8, 8, 8, 8, 8, 8, 8, 8, 8, 8, 8, 8, 8, 8, 8, 8, 8, 8, 8, 8, 8, 8, 8, 8, 8, 8, 8, 8, 8, 8, 8, 8, 8, 8, 8, 8, 8, 8, 8, 8, 8, 8, 8, 8, 8, 8, 8, 8, 8, 8, 8, 8, 8, 8, 8, 8, 8, 8, 8, 8, 8, 8, 8, 8, 8, 8, 8, 8, 8, 8, 8, 8, 8, 8, 8, 8, 8, 8, 8, 8, 8, 8, 8, 8, 8, 8, 8, 8, 8, 8, 8, 8, 8, 8, 8, 8, 8, 8, 8, 8, 8]

/-- math/bits.Len64 -/
def ir_math_bits_Len64 : IR := (.seq (.ops false [⟨(some 2), (.mv (.c (.int .i64 (0)))), none⟩]) (.seq (.seq (.ops false [⟨(some 3), (.mv (.tmp 0)), none⟩, ⟨(some 4), (.bin .geq (.tmp 3) (.c (.int .u64 (4294967296)))), none⟩]) (.cond (.tmp 4) (.seq (.ops false [⟨(some 5), (.mv (.tmp 0)), none⟩, ⟨(some 6), (.bin .shr (.tmp 5) (.c (.int .u64 (32)))), none⟩, ⟨(some 0), (.mv (.tmp 6)), none⟩]) (.ops false [⟨(some 2), (.mv (.c (.int .i64 (32)))), none⟩])) .skip)) (.seq (.seq (.ops false [⟨(some 7), (.mv (.tmp 0)), none⟩, ⟨(some 8), (.bin .geq (.tmp 7) (.c (.int .u64 (65536)))), none⟩]) (.cond (.tmp 8) (.seq (.ops false [⟨(some 9), (.mv (.tmp 0)), none⟩, ⟨(some 10), (.bin .shr (.tmp 9) (.c (.int .u64 (16)))), none⟩, ⟨(some 0), (.mv (.tmp 10)), none⟩]) (.ops false [⟨(some 11), (.mv (.tmp 2)), none⟩, ⟨(some 12), (.bin .add (.tmp 11) (.c (.int .i64 (16)))), none⟩, ⟨(some 2), (.mv (.tmp 12)), none⟩])) .skip)) (.seq (.seq (.ops false [⟨(some 13), (.mv (.tmp 0)), none⟩, ⟨(some 14), (.bin .geq (.tmp 13) (.c (.int .u64 (256)))), none⟩]) (.cond (.tmp 14) (.seq (.ops false [⟨(some 15), (.mv (.tmp 0)), none⟩, ⟨(some 16), (.bin .shr (.tmp 15) (.c (.int .u64 (8)))), none⟩, ⟨(some 0), (.mv (.tmp 16)), none⟩]) (.ops false [⟨(some 17), (.mv (.tmp 2)), none⟩, ⟨(some 18), (.bin .add (.tmp 17) (.c (.int .i64 (8)))), none⟩, ⟨(some 2), (.mv (.tmp 18)), none⟩])) .skip)) (.seq (.ops false [⟨(some 19), (.mv (.tmp 2)), none⟩, ⟨(some 20), (.mv (.tmp 0)), none⟩, ⟨(some 21), (.cvtI .u8 (.tmp 20)), none⟩, ⟨(some 22), (.ixS (.c (.str tab8)) (.tmp 21)), none⟩, ⟨(some 23), (.cvtI .i64 (.tmp 22)), none⟩, ⟨(some 24), (.bin .add (.tmp 19) (.tmp 23)), none⟩, ⟨(some 2), (.mv (.tmp 24)), none⟩]) .ret)))))
theorem ok_math_bits_Len64 : compCode Tryd.prog (Tryd.f71.body.getD .skip) [] = some (ir_math_bits_Len64, []) := by kernel_rfl
def live_math_bits_Len64 : List (List Nat) := []

/-- math/bits.LeadingZeros64 -/
def ir_math_bits_LeadingZeros64 : IR := (.seq (.ops false [⟨(some 2), (.mv (.c (.int .i64 (0)))), none⟩]) (.seq (.ops false [⟨(some 3), (.mv (.tmp 0)), none⟩, ⟨(some 4), (.call (.func 71) [(.tmp 3)]), none⟩, ⟨(some 5), (.bin .sub (.c (.int .i64 (64))) (.tmp 4)), none⟩, ⟨(some 2), (.mv (.tmp 5)), none⟩]) .ret))
theorem ok_math_bits_LeadingZeros64 : compCode Tryd.prog (Tryd.f66.body.getD .skip) [] = some (ir_math_bits_LeadingZeros64, []) := by kernel_rfl
def live_math_bits_LeadingZeros64 : List (List Nat) := []


/-- How many bits a number has. -/
def blen (x : Nat) : Nat := if x = 0 then 0 else x.log2 + 1
theorem blen_shift {x k : Nat} (h : 2 ^ k ≤ x) : blen x = k + blen (x / 2 ^ k) := by
  have hp : 0 < 2 ^ k := Nat.two_pow_pos k
  have hx : x ≠ 0 := by omega
  have hd : x / 2 ^ k ≠ 0 := Nat.ne_of_gt (Nat.div_pos h hp)
  simp only [blen, hx, hd, if_false]
  have h1 : x.log2 = k + (x / 2 ^ k).log2 := by
    rw [Nat.log2_eq_iff hx]
    have h2 := (Nat.log2_eq_iff hd).1 rfl
    rw [Nat.le_div_iff_mul_le hp, Nat.div_lt_iff_lt_mul hp] at h2
    rw [Nat.pow_add, show k + (x / 2 ^ k).log2 + 1 = ((x / 2 ^ k).log2 + 1) + k by omega, Nat.pow_add]
    refine ⟨?_, h2.2⟩
    rw [Nat.mul_comm]; exact h2.1
  omega
theorem blen_lt {x : Nat} : x < 2 ^ blen x := by
  unfold blen
  split
  · rename_i h; subst h; decide
  · exact Nat.lt_log2_self
theorem blen_le {x : Nat} (h : x ≠ 0) : 2 ^ (blen x - 1) ≤ x := by
  simp only [blen, h, if_false, Nat.add_sub_cancel]
  exact Nat.log2_self_le h
theorem blen_max {x k : Nat} (h : x < 2 ^ k) : blen x ≤ k := by
  rcases Nat.eq_zero_or_pos x with h0 | h0
  · subst h0; exact Nat.zero_le _
  · have h1 := blen_le (x := x) (by omega)
    apply Nat.le_of_not_lt
    intro h2
    have : 2 ^ k ≤ 2 ^ (blen x - 1) := Nat.pow_le_pow_right (by decide) (by omega)
    omega

theorem tab_blen : ∀ t : Nat, t < 256 → tab8.getD t 0 = (blen t : Int) := by decide +kernel
theorem tab_len : tab8.length = 256 := rfl

theorem fn_Len64 (G : Glob) (x : Nat) (hx : x < 18446744073709551616) : FunEq Tryd.prog G 71 [.int .u64 x] (.int .i64 (blen x)) := by
  refine fun_of_vc live_math_bits_Len64 Tryd.func71 rfl (by kernel_rfl) ok_math_bits_Len64 (by kernel_rfl) Tryd.ntmps71 (run_of ?_)
  have s32 : ∀ {y : Nat}, 4294967296 ≤ y → blen y = 32 + blen (y / 4294967296) := fun h => blen_shift (k := 32) h
  have s16 : ∀ {y : Nat}, 65536 ≤ y → blen y = 16 + blen (y / 65536) := fun h => blen_shift (k := 16) h
  have s8 : ∀ {y : Nat}, 256 ≤ y → blen y = 8 + blen (y / 256) := fun h => blen_shift (k := 8) h
  simp only [run_seq, run_ops, run_opsNil, run_op0, run_cond, Ins.kind, IOp.apps, List.any_cons, List.any_nil, pev, Ins.calm, Ins.opds, sureL, evS, St.put, List.map, List.length_cons, List.length_nil, List.replicate, List.cons_append, List.nil_append, List.getD_cons_zero, List.getD_cons_succ, List.set_cons_zero, List.set_cons_succ, SV.res, SV.strip, SV.sure, binV, if_true, true_and, Nat.reduceSub, Nat.zero_add, cond_false, Bool.and_self, Bool.true_and, Nat.reduceBEq, Bool.or_self, and_self, ir_math_bits_Len64, Tryd.results71]
  refine runC_dec (fun h1 => ?_) (fun h1 => ?_)
  · simp only [run_seq, run_ops, run_opsNil, run_op0, run_cond, Ins.kind, IOp.apps, List.any_cons, List.any_nil, pev, Ins.calm, Ins.opds, sureL, evS, St.put, List.getD_cons_zero, List.getD_cons_succ, List.set_cons_zero, List.set_cons_succ, SV.res, SV.strip, SV.sure, binV, shV, if_true, true_and, cond_false, Bool.and_self, Bool.true_and, Nat.reduceLeDiff, Nat.reduceBEq, Bool.or_self, Int.reduceToNat, Nat.min_def, bits_u64, and_self, Int.zero_le_ofNat, Int.reducePow]
    refine runC_dec (fun h2 => ?_) (fun h2 => ?_)
    · simp only [run_seq, run_ops, run_opsNil, run_op0, run_cond, Ins.kind, IOp.apps, List.any_cons, List.any_nil, pev, Ins.calm, Ins.opds, sureL, evS, St.put, List.getD_cons_zero, List.getD_cons_succ, List.set_cons_zero, List.set_cons_succ, SV.res, SV.strip, SV.sure, binV, shV, if_true, true_and, cond_false, Bool.and_self, Bool.true_and, Nat.reduceLeDiff, Nat.reduceBEq, Bool.or_self, Int.reduceToNat, Nat.min_def, bits_u64, and_self, Int.zero_le_ofNat, Int.reducePow, Int.reduceAdd]
      refine runC_dec (fun h3 => ?_) (fun h3 => ?_)
      · simp only [run_seq, run_ops, run_opsNil, run_ret, run_op0, Ins.kind, IOp.apps, List.any_cons, List.any_nil, pev, Ins.calm, Ins.opds, sureL, evS, St.put, List.getD_cons_zero, List.getD_cons_succ, List.set_cons_zero, List.set_cons_succ, SV.res, SV.strip, SV.sure, binV, shV, if_true, true_and, cond_false, Bool.and_self, Bool.true_and, Nat.reduceLeDiff, Nat.reduceBEq, Bool.or_self, Int.reduceToNat, Nat.min_def, bits_u64, and_self, Int.zero_le_ofNat, Int.reducePow]
        simp only [List.append_nil, List.getD_cons_zero, List.getD_cons_succ, SV.res, true_and, Bool.true_and, fzL, List.foldl_nil, SV.ids, List.flatMap_cons, List.flatMap_nil, SV.pvS, resK, resSV, oneSV]
        have es32 := s32 (y := x) (by omega)
        have es16 := s16 (y := x / 4294967296) (by omega)
        have es8 := s8 (y := x / 4294967296 / 65536) (by omega)
        have hb : blen (x / 4294967296 / 65536 / 256) ≤ 8 := blen_max (by omega)
        have e : IntKind.u8.wrap ((x : Int) / 4294967296 / 65536 / 256) = ((x / 4294967296 / 65536 / 256 : Nat) : Int) := by rw [IntKind.wrap_u8]; omega
        rw [e, Int.toNat_natCast, tab_blen (x / 4294967296 / 65536 / 256) (by omega)]
        refine ⟨⟨by omega, by rw [tab_len]; omega⟩, ?_⟩
        simp only [IntKind.wrap_i64]
        clear s32 s16 s8
        rw [es32, es16, es8]
        clear es8 es16 es32
        clear e
        generalize blen (x / 4294967296 / 65536 / 256) = B at hb ⊢
        refine eqInt ?_
        omega
      · simp only [run_skip, run_seq, run_ops, run_opsNil, run_ret, run_op0, Ins.kind, IOp.apps, List.any_cons, List.any_nil, pev, Ins.calm, Ins.opds, sureL, evS, St.put, List.getD_cons_zero, List.getD_cons_succ, List.set_cons_zero, List.set_cons_succ, SV.res, SV.strip, SV.sure, binV, if_true, true_and, cond_false, Bool.and_self, Bool.true_and, Nat.reduceBEq, Bool.or_self, and_self]
        simp only [List.append_nil, List.getD_cons_zero, List.getD_cons_succ, SV.res, true_and, Bool.true_and, fzL, List.foldl_nil, SV.ids, List.flatMap_cons, List.flatMap_nil, SV.pvS, resK, resSV, oneSV]
        have es32 := s32 (y := x) (by omega)
        have es16 := s16 (y := x / 4294967296) (by omega)
        have hb : blen (x / 4294967296 / 65536) ≤ 8 := blen_max (by omega)
        have e : IntKind.u8.wrap ((x : Int) / 4294967296 / 65536) = ((x / 4294967296 / 65536 : Nat) : Int) := by rw [IntKind.wrap_u8]; omega
        rw [e, Int.toNat_natCast, tab_blen (x / 4294967296 / 65536) (by omega)]
        refine ⟨⟨by omega, by rw [tab_len]; omega⟩, ?_⟩
        simp only [IntKind.wrap_i64]
        clear s32 s16 s8
        rw [es32, es16]
        clear es16 es32
        clear e
        generalize blen (x / 4294967296 / 65536) = B at hb ⊢
        refine eqInt ?_
        omega
    · simp only [run_skip, run_seq, run_ops, run_opsNil, run_op0, run_cond, Ins.kind, IOp.apps, List.any_cons, List.any_nil, pev, Ins.calm, Ins.opds, sureL, evS, St.put, List.getD_cons_zero, List.getD_cons_succ, List.set_cons_zero, List.set_cons_succ, SV.res, SV.strip, SV.sure, binV, if_true, true_and, cond_false, Bool.and_self, Bool.true_and, Nat.reduceBEq, Bool.or_self, and_self]
      refine runC_dec (fun h3 => ?_) (fun h3 => ?_)
      · simp only [run_seq, run_ops, run_opsNil, run_ret, run_op0, Ins.kind, IOp.apps, List.any_cons, List.any_nil, pev, Ins.calm, Ins.opds, sureL, evS, St.put, List.getD_cons_zero, List.getD_cons_succ, List.set_cons_zero, List.set_cons_succ, SV.res, SV.strip, SV.sure, binV, shV, if_true, true_and, cond_false, Bool.and_self, Bool.true_and, Nat.reduceLeDiff, Nat.reduceBEq, Bool.or_self, Int.reduceToNat, Nat.min_def, bits_u64, and_self, Int.zero_le_ofNat, Int.reducePow, Int.reduceAdd]
        simp only [List.append_nil, List.getD_cons_zero, List.getD_cons_succ, SV.res, true_and, Bool.true_and, fzL, List.foldl_nil, SV.ids, List.flatMap_cons, List.flatMap_nil, SV.pvS, resK, resSV, oneSV]
        have es32 := s32 (y := x) (by omega)
        have es8 := s8 (y := x / 4294967296) (by omega)
        have hb : blen (x / 4294967296 / 256) ≤ 8 := blen_max (by omega)
        have e : IntKind.u8.wrap ((x : Int) / 4294967296 / 256) = ((x / 4294967296 / 256 : Nat) : Int) := by rw [IntKind.wrap_u8]; omega
        rw [e, Int.toNat_natCast, tab_blen (x / 4294967296 / 256) (by omega)]
        refine ⟨⟨by omega, by rw [tab_len]; omega⟩, ?_⟩
        simp only [IntKind.wrap_i64]
        clear s32 s16 s8
        rw [es32, es8]
        clear es8 es32
        clear e
        generalize blen (x / 4294967296 / 256) = B at hb ⊢
        refine eqInt ?_
        omega
      · simp only [run_skip, run_seq, run_ops, run_opsNil, run_ret, run_op0, Ins.kind, IOp.apps, List.any_cons, List.any_nil, pev, Ins.calm, Ins.opds, sureL, evS, St.put, List.getD_cons_zero, List.getD_cons_succ, List.set_cons_zero, List.set_cons_succ, SV.res, SV.strip, SV.sure, binV, if_true, true_and, cond_false, Bool.and_self, Bool.true_and, Nat.reduceBEq, Bool.or_self, and_self]
        simp only [List.append_nil, List.getD_cons_zero, List.getD_cons_succ, SV.res, true_and, Bool.true_and, fzL, List.foldl_nil, SV.ids, List.flatMap_cons, List.flatMap_nil, SV.pvS, resK, resSV, oneSV]
        have es32 := s32 (y := x) (by omega)
        have hb : blen (x / 4294967296) ≤ 8 := blen_max (by omega)
        have e : IntKind.u8.wrap ((x : Int) / 4294967296) = ((x / 4294967296 : Nat) : Int) := by rw [IntKind.wrap_u8]; omega
        rw [e, Int.toNat_natCast, tab_blen (x / 4294967296) (by omega)]
        refine ⟨⟨by omega, by rw [tab_len]; omega⟩, ?_⟩
        simp only [IntKind.wrap_i64]
        clear s32 s16 s8
        rw [es32]
        clear es32
        clear e
        generalize blen (x / 4294967296) = B at hb ⊢
        refine eqInt ?_
        omega
  · simp only [run_skip, run_seq, run_ops, run_opsNil, run_op0, run_cond, Ins.kind, IOp.apps, List.any_cons, List.any_nil, pev, Ins.calm, Ins.opds, sureL, evS, St.put, List.getD_cons_zero, List.getD_cons_succ, List.set_cons_zero, List.set_cons_succ, SV.res, SV.strip, SV.sure, binV, if_true, true_and, cond_false, Bool.and_self, Bool.true_and, Nat.reduceBEq, Bool.or_self, and_self]
    refine runC_dec (fun h2 => ?_) (fun h2 => ?_)
    · simp only [run_seq, run_ops, run_opsNil, run_op0, run_cond, Ins.kind, IOp.apps, List.any_cons, List.any_nil, pev, Ins.calm, Ins.opds, sureL, evS, St.put, List.getD_cons_zero, List.getD_cons_succ, List.set_cons_zero, List.set_cons_succ, SV.res, SV.strip, SV.sure, binV, shV, if_true, true_and, cond_false, Bool.and_self, Bool.true_and, Nat.reduceLeDiff, Nat.reduceBEq, Bool.or_self, Int.reduceToNat, Nat.min_def, bits_u64, and_self, Int.zero_le_ofNat, Int.reducePow, Int.reduceAdd]
      refine runC_dec (fun h3 => ?_) (fun h3 => ?_)
      · simp only [run_seq, run_ops, run_opsNil, run_ret, run_op0, Ins.kind, IOp.apps, List.any_cons, List.any_nil, pev, Ins.calm, Ins.opds, sureL, evS, St.put, List.getD_cons_zero, List.getD_cons_succ, List.set_cons_zero, List.set_cons_succ, SV.res, SV.strip, SV.sure, binV, shV, if_true, true_and, cond_false, Bool.and_self, Bool.true_and, Nat.reduceLeDiff, Nat.reduceBEq, Bool.or_self, Int.reduceToNat, Nat.min_def, bits_u64, and_self, Int.zero_le_ofNat, Int.reducePow]
        simp only [List.append_nil, List.getD_cons_zero, List.getD_cons_succ, SV.res, true_and, Bool.true_and, fzL, List.foldl_nil, SV.ids, List.flatMap_cons, List.flatMap_nil, SV.pvS, resK, resSV, oneSV]
        have es16 := s16 (y := x) (by omega)
        have es8 := s8 (y := x / 65536) (by omega)
        have hb : blen (x / 65536 / 256) ≤ 8 := blen_max (by omega)
        have e : IntKind.u8.wrap ((x : Int) / 65536 / 256) = ((x / 65536 / 256 : Nat) : Int) := by rw [IntKind.wrap_u8]; omega
        rw [e, Int.toNat_natCast, tab_blen (x / 65536 / 256) (by omega)]
        refine ⟨⟨by omega, by rw [tab_len]; omega⟩, ?_⟩
        simp only [IntKind.wrap_i64]
        clear s32 s16 s8
        rw [es16, es8]
        clear es8 es16
        clear e
        generalize blen (x / 65536 / 256) = B at hb ⊢
        refine eqInt ?_
        omega
      · simp only [run_skip, run_seq, run_ops, run_opsNil, run_ret, run_op0, Ins.kind, IOp.apps, List.any_cons, List.any_nil, pev, Ins.calm, Ins.opds, sureL, evS, St.put, List.getD_cons_zero, List.getD_cons_succ, List.set_cons_zero, List.set_cons_succ, SV.res, SV.strip, SV.sure, binV, if_true, true_and, cond_false, Bool.and_self, Bool.true_and, Nat.reduceBEq, Bool.or_self, and_self]
        simp only [List.append_nil, List.getD_cons_zero, List.getD_cons_succ, SV.res, true_and, Bool.true_and, fzL, List.foldl_nil, SV.ids, List.flatMap_cons, List.flatMap_nil, SV.pvS, resK, resSV, oneSV]
        have es16 := s16 (y := x) (by omega)
        have hb : blen (x / 65536) ≤ 8 := blen_max (by omega)
        have e : IntKind.u8.wrap ((x : Int) / 65536) = ((x / 65536 : Nat) : Int) := by rw [IntKind.wrap_u8]; omega
        rw [e, Int.toNat_natCast, tab_blen (x / 65536) (by omega)]
        refine ⟨⟨by omega, by rw [tab_len]; omega⟩, ?_⟩
        simp only [IntKind.wrap_i64]
        clear s32 s16 s8
        rw [es16]
        clear es16
        clear e
        generalize blen (x / 65536) = B at hb ⊢
        refine eqInt ?_
        omega
    · simp only [run_skip, run_seq, run_ops, run_opsNil, run_op0, run_cond, Ins.kind, IOp.apps, List.any_cons, List.any_nil, pev, Ins.calm, Ins.opds, sureL, evS, St.put, List.getD_cons_zero, List.getD_cons_succ, List.set_cons_zero, List.set_cons_succ, SV.res, SV.strip, SV.sure, binV, if_true, true_and, cond_false, Bool.and_self, Bool.true_and, Nat.reduceBEq, Bool.or_self, and_self]
      refine runC_dec (fun h3 => ?_) (fun h3 => ?_)
      · simp only [run_seq, run_ops, run_opsNil, run_ret, run_op0, Ins.kind, IOp.apps, List.any_cons, List.any_nil, pev, Ins.calm, Ins.opds, sureL, evS, St.put, List.getD_cons_zero, List.getD_cons_succ, List.set_cons_zero, List.set_cons_succ, SV.res, SV.strip, SV.sure, binV, shV, if_true, true_and, cond_false, Bool.and_self, Bool.true_and, Nat.reduceLeDiff, Nat.reduceBEq, Bool.or_self, Int.reduceToNat, Nat.min_def, bits_u64, and_self, Int.zero_le_ofNat, Int.reducePow, Int.reduceAdd]
        simp only [List.append_nil, List.getD_cons_zero, List.getD_cons_succ, SV.res, true_and, Bool.true_and, fzL, List.foldl_nil, SV.ids, List.flatMap_cons, List.flatMap_nil, SV.pvS, resK, resSV, oneSV]
        have es8 := s8 (y := x) (by omega)
        have hb : blen (x / 256) ≤ 8 := blen_max (by omega)
        have e : IntKind.u8.wrap ((x : Int) / 256) = ((x / 256 : Nat) : Int) := by rw [IntKind.wrap_u8]; omega
        rw [e, Int.toNat_natCast, tab_blen (x / 256) (by omega)]
        refine ⟨⟨by omega, by rw [tab_len]; omega⟩, ?_⟩
        simp only [IntKind.wrap_i64]
        clear s32 s16 s8
        rw [es8]
        clear es8
        clear e
        generalize blen (x / 256) = B at hb ⊢
        refine eqInt ?_
        omega
      · simp only [run_skip, run_seq, run_ops, run_opsNil, run_ret, run_op0, Ins.kind, IOp.apps, List.any_cons, List.any_nil, pev, Ins.calm, Ins.opds, sureL, evS, St.put, List.getD_cons_zero, List.getD_cons_succ, List.set_cons_zero, List.set_cons_succ, SV.res, SV.strip, SV.sure, binV, if_true, true_and, cond_false, Bool.and_self, Bool.true_and, Nat.reduceBEq, Bool.or_self, and_self]
        simp only [List.append_nil, List.getD_cons_zero, List.getD_cons_succ, SV.res, true_and, Bool.true_and, fzL, List.foldl_nil, SV.ids, List.flatMap_cons, List.flatMap_nil, SV.pvS, resK, resSV, oneSV]
        have hb : blen (x) ≤ 8 := blen_max (by omega)
        have e : IntKind.u8.wrap ((x : Int)) = ((x : Nat) : Int) := by rw [IntKind.wrap_u8]; omega
        rw [e, Int.toNat_natCast, tab_blen (x) (by omega)]
        refine ⟨⟨by omega, by rw [tab_len]; omega⟩, ?_⟩
        simp only [IntKind.wrap_i64]
        clear s32 s16 s8
        clear e
        generalize blen (x) = B at hb ⊢
        refine eqInt ?_
        omega

theorem fn_LeadingZeros64 (G : Glob) (x : Nat) (hx : x < 18446744073709551616) : FunEq Tryd.prog G 66 [.int .u64 x] (.int .i64 ((64 - blen x : Nat) : Int)) := by
  refine fun_of_vc live_math_bits_LeadingZeros64 Tryd.func66 rfl (by kernel_rfl) ok_math_bits_LeadingZeros64 (by kernel_rfl) Tryd.ntmps66 (run_of ?_)
  simp only [run_seq, run_ops, run_opsNil, run_ret, run_op0, Ins.kind, IOp.apps, List.any_cons, List.any_nil, pev, Ins.calm, Ins.opds, sureL, evS, St.put, List.map, List.length_cons, List.length_nil, List.replicate, List.cons_append, List.nil_append, List.getD_cons_zero, List.getD_cons_succ, List.set_cons_zero, List.set_cons_succ, SV.res, SV.strip, SV.sure, if_true, Bool.false_eq_true, if_false, true_and, Nat.reduceSub, Nat.zero_add, cond_false, Bool.and_self, Bool.true_and, Nat.reduceBEq, Bool.or_self, and_self, ir_math_bits_LeadingZeros64, Tryd.results66]
  refine run_call (fn_Len64 G x hx) [] rfl ?hs rfl rfl rfl trivial trivial ?h
  case hs => exact ⟨trivial, trivial⟩
  simp only [run_opsNil, run_ret, run_op0, pev, Ins.calm, Ins.opds, sureL, evS, St.put, List.getD_cons_zero, List.getD_cons_succ, List.set_cons_zero, List.set_cons_succ, SV.res, SV.strip, SV.sure, binV, if_true, true_and, Bool.and_self, Bool.true_and, PV.flat, and_self]
  simp only [List.append_nil, List.getD_cons_zero, List.getD_cons_succ, SV.res, true_and, Bool.true_and, fzL, List.foldl_nil, SV.ids, List.flatMap_cons, List.flatMap_nil, SV.pvS, resK, resSV, oneSV]
  have hb : blen x ≤ 64 := blen_max hx
  simp only [IntKind.wrap_i64]
  refine eqInt ?_
  omega
end Go.Proofs
