/-
  From the rows' condition on the tables to what the walks ask of them (seat c).
-/
import Derived.Test.YtajphaljpkeecaaDoorFxRun
import Derived.Laws.Bits64
import Derived.Test.YtajphaljpkeecaaDoorChecked
import Derived.Shelf.SlGeneric
import Derived.Shelf.Spec.SlicesGrow
import Derived.Test.YtajphaljpkeecaaDoorProg
import Derived.Test.YtajphaljpkeecaaDoorFxFin
import Derived.Test.YtajphaljpkeecaaDoorRows
import Derived.Lib.LaidTab
import Derived.LaidMore
import Derived.MakeChecks
import Derived.Stop.LaidErr
import Derived.Stop.Joined
import Derived.Test.YtajphaljpkeecaaDoorFxRow
set_option linter.unusedVariables false
set_option linter.unusedSimpArgs false
set_option maxRecDepth 100000
namespace Go.Proofs
open Go Go.Fx
def ir_report_put : IR := (.seq (.ops false [⟨(some 6), (.mv (.c (.isl true true .u8 []))), none⟩]) (.seq (.seq (.ops false [⟨(some 8), (.mv (.tmp 2)), none⟩, ⟨(some 9), (.mv (.c (.int .i64 (0)))), none⟩]) (.block 0 (.loop [0, 1, 8, 9] (.seq (.ops false [⟨(some 10), (.bin .lss (.tmp 9) (.tmp 8)), none⟩]) (.seq (.cond (.tmp 10) .skip (.exit 0)) (.seq (.block 1 (.seq (.ops false [⟨(some 11), (.mv (.tmp 9)), none⟩, ⟨(some 7), (.mv (.tmp 11)), none⟩]) (.ops false [⟨(some 12), (.mv (.tmp 0)), none⟩, ⟨(some 13), (.mv (.tmp 1)), none⟩, ⟨(some 14), (.cvtI .u64 (.tmp 13)), none⟩, ⟨(some 15), (.mv (.tmp 7)), none⟩, ⟨(some 16), (.bin .mul (.c (.int .i64 (8))) (.tmp 15)), none⟩, ⟨(some 17), (.bin .shr (.tmp 14) (.tmp 16)), none⟩, ⟨(some 18), (.cvtI .u8 (.tmp 17)), none⟩, ⟨(some 19), (.bsl 5 (some .u8) 1 [(.tmp 18)]), none⟩, ⟨(some 20), (.app 5 (some .u8) 1 1 (.tmp 12) (.tmp 19)), none⟩, ⟨(some 0), (.mv (.tmp 20)), none⟩]))) (.ops false [⟨(some 21), (.bin .add (.tmp 9) (.c (.int .i64 (1)))), none⟩, ⟨(some 9), (.mv (.tmp 21)), none⟩]))))))) (.seq (.ops false [⟨(some 22), (.mv (.tmp 0)), none⟩, ⟨(some 6), (.mv (.tmp 22)), none⟩]) .ret)))
theorem ok_report_put : compCode Tryd.prog (Tryd.f58.body.getD .skip) [[0, 1, 8, 9]] = some (ir_report_put, []) := by kernel_rfl
def live_report_put : List (List Nat) := [[0, 1, 8, 9]]
def i64 (n : Int) : Prop := -9223372036854775808 ≤ n ∧ n ≤ 9223372036854775807
theorem wrap_i64_id {a : Int} (h : i64 a) : IntKind.i64.wrap a = a := by
  rw [IntKind.wrap_i64]; unfold i64 at h; omega
def pb (n : Int) (k : Nat) : Int := IntKind.u8.wrap (IntKind.u64.wrap n / 2 ^ (8 * k))
theorem pb_snoc (n : Int) (k : Nat) (l : List Int) : (l ++ (List.range k).map (pb n)) ++ [pb n k] = l ++ (List.range (k + 1)).map (pb n) := by
  rw [List.range_succ, List.map_append, List.append_assoc]; rfl
theorem fn_report_put (G : Glob) (nil ex : Bool) (l : List Int) (n : Int) (w : Nat) (hw : w ≤ 8) (hl : l.length ≤ 1000000) : FunRow Tryd.prog G 58 5 .u8 nil ex l [.int .i64 n, .int .i64 w] (nil && decide (w = 0)) (l ++ (List.range w).map (pb n)) := by
  refine row_of_vc live_report_put Tryd.func58 rfl (by kernel_rfl) ok_report_put Tryd.ntmps58 (run_of ?_)
  simp only [run_nil, run_skip, run_label, run_eb, run_seq, run_ops, run_opsNil, run_block, run_ret, run_exit, runX_nil, runX_ir, runX_ops, runX_eb, runX_ret, outJ, run_op0, run_opG, run_cond, runC_true, runC_false, run_pick, run_pickG, runP, runPG, run_box, run_alloc, run_st, run_bsl, runB, run_appI, runAI, run_appS, runAS, run_bad, okN, okD, okOwn, okB, growsP, OB.isFro, noIds, Ins.kind, IOp.apps, List.any_cons, List.any_nil, gAct, pev, Ins.calm, Ins.opds, sureL, evS, St.put, List.map, List.map_cons, List.map_nil, List.length_cons, List.length_nil, List.replicate, List.cons_append, List.nil_append, List.append_nil, List.getD_cons_zero, List.getD_cons_succ, List.set_cons_zero, List.set_cons_succ, SV.res, SV.strip, SV.sure, SV.cells, PV.cells, SV.scal, PV.scal, SV.ld, PV.ld, binV, shV, strV, if_true, Bool.false_eq_true, if_false, SV.mix, true_and, and_true, Nat.reduceSub, Nat.zero_add, Nat.add_zero, Nat.reduceAdd, implies_true, cond_true, cond_false, List.all_cons, List.all_nil, Bool.and_self, Bool.and_true, Bool.true_and, Nat.reduceLeDiff, Nat.reduceLT, Nat.reduceMul, List.take, List.drop, St.forget, forgetL, slots, List.contains_cons, List.contains_nil, Nat.reduceBEq, Bool.or_false, Bool.false_or, Bool.or_true, Bool.true_or, Bool.or_self, SV.isSl, PV.isSl, OB.isNil, SV.isNil, PV.isNil, SV.num, Option.map_some, Option.map_none, fzL, fz1, List.foldl_cons, List.foldl_nil, SV.ids, SV.ids0, SV.ids1, boxIds, List.flatMap_cons, List.flatMap_nil, SV.pvS, SV.pvSL, PV.flat, PV.flatL, SV.see, OB.pv, bnds, slcOk, slcEx, cutL, intsOf, spliceL, lookE, maxL, minL, beq_self_eq_true, reduceIte, Nat.reduceEqDiff, Bool.not_true, Bool.not_false, Option.isSome_none, Option.isSome_some, true_implies, List.all, ne_eq, not_false_eq_true, not_true_eq_false, Int.reduceNeg, Int.reduceToNat, Int.reduceLT, Int.reduceLE, Int.cast_ofNat_Int, imp_self, Nat.min_def, bits_u64, bits_i64, bits_u8, bits_u32, Bool.not_eq_true', Bool.and_eq_true, Int.toNat_zero, Int.toNat_one, Nat.mul_one, Nat.zero_mul, Nat.one_mul, Nat.zero_le, and_self, Int.zero_le_ofNat, Int.le_refl, Int.natCast_zero, Int.natCast_one, Int.reducePow, Int.reduceMul, Int.reduceAdd, Int.reduceSub, Nat.add_one_ne_zero, List.set_nil, List.getD_nil, eqCells, fillL, aggS, allP, SV.fnNil, SV.ren, SV.renL, posOf, renO, OB.ren, renE, List.isEmpty_cons, List.isEmpty_nil, Bool.cond_false_right, Bool.cond_true_left, Bool.cond_true_right, Bool.cond_false_left, ir_report_put, Tryd.results58]
  refine run_loop (fun m S => ∃ (k : Nat) (e : Bool), k ≤ w ∧ m = w - k ∧ S = ⟨slots 23 0 [(0, .row 0), (1, .p (.int .i64 n)), (8, .p (.int .i64 w)), (9, .p (.int .i64 k))], [.irow 5 .u8 (nil && decide (k = 0)) e (l ++ (List.range k).map (pb n))]⟩) ?_ ?_
  · refine ⟨w, [0], by simp, 0, ex, by omega, rfl, ?_⟩
    simp only [List.range_zero, List.map_nil, List.append_nil, decide_true, Bool.and_true]
    rfl
  rintro m S' ⟨k, e, hk, rfl, rfl⟩
  have h8 : IntKind.i64.wrap (8 * (k : Int)) = ((8 * k : Nat) : Int) := by rw [wrap_i64_id (by unfold i64; omega)]; omega
  have hi : IntKind.i64.wrap ((k : Int) + 1) = ((k + 1 : Nat) : Int) := by rw [wrap_i64_id (by unfold i64; omega)]; rfl
  have hs := pb_snoc n k l
  have hlen : (l ++ (List.range k).map (pb n)).length = l.length + k := by simp
  simp only [run_nil, run_skip, run_label, run_eb, run_seq, run_ops, run_opsNil, run_block, run_ret, run_exit, runX_nil, runX_ir, runX_ops, runX_eb, runX_ret, outJ, run_op0, run_opG, run_cond, runC_true, runC_false, run_pick, run_pickG, runP, runPG, run_box, run_alloc, run_st, run_bsl, runB, run_appI, runAI, run_appS, runAS, run_bad, okN, okD, okOwn, okB, growsP, OB.isFro, noIds, Ins.kind, IOp.apps, List.any_cons, List.any_nil, gAct, pev, Ins.calm, Ins.opds, sureL, evS, St.put, List.map, List.map_cons, List.map_nil, List.length_cons, List.length_nil, List.replicate, List.cons_append, List.nil_append, List.append_nil, List.getD_cons_zero, List.getD_cons_succ, List.set_cons_zero, List.set_cons_succ, SV.res, SV.strip, SV.sure, SV.cells, PV.cells, SV.scal, PV.scal, SV.ld, PV.ld, binV, shV, strV, if_true, Bool.false_eq_true, if_false, SV.mix, true_and, and_true, Nat.reduceSub, Nat.zero_add, Nat.add_zero, Nat.reduceAdd, implies_true, cond_true, cond_false, List.all_cons, List.all_nil, Bool.and_self, Bool.and_true, Bool.true_and, Nat.reduceLeDiff, Nat.reduceLT, Nat.reduceMul, List.take, List.drop, St.forget, forgetL, slots, List.contains_cons, List.contains_nil, Nat.reduceBEq, Bool.or_false, Bool.false_or, Bool.or_true, Bool.true_or, Bool.or_self, SV.isSl, PV.isSl, OB.isNil, SV.isNil, PV.isNil, SV.num, Option.map_some, Option.map_none, fzL, fz1, List.foldl_cons, List.foldl_nil, SV.ids, SV.ids0, SV.ids1, boxIds, List.flatMap_cons, List.flatMap_nil, SV.pvS, SV.pvSL, PV.flat, PV.flatL, SV.see, OB.pv, bnds, slcOk, slcEx, cutL, intsOf, spliceL, lookE, maxL, minL, beq_self_eq_true, reduceIte, Nat.reduceEqDiff, Bool.not_true, Bool.not_false, Option.isSome_none, Option.isSome_some, true_implies, List.all, ne_eq, not_false_eq_true, not_true_eq_false, Int.reduceNeg, Int.reduceToNat, Int.reduceLT, Int.reduceLE, Int.cast_ofNat_Int, imp_self, Nat.min_def, bits_u64, bits_i64, bits_u8, bits_u32, Bool.not_eq_true', Bool.and_eq_true, Int.toNat_zero, Int.toNat_one, Nat.mul_one, Nat.zero_mul, Nat.one_mul, Nat.zero_le, and_self, Int.zero_le_ofNat, Int.le_refl, Int.natCast_zero, Int.natCast_one, Int.reducePow, Int.reduceMul, Int.reduceAdd, Int.reduceSub, Nat.add_one_ne_zero, List.set_nil, List.getD_nil, eqCells, fillL, aggS, allP, SV.fnNil, SV.ren, SV.renL, posOf, renO, OB.ren, renE, List.isEmpty_cons, List.isEmpty_nil, Bool.cond_false_right, Bool.cond_true_left, Bool.cond_true_right, Bool.cond_false_left]
  refine runC_dec (fun h1 => ?_) (fun h1 => ?_)
  · have hm : min (8 * k) 64 = 8 * k := by omega
    have hif : (if 8 * k ≤ 64 then 8 * k else 64) = 8 * k := if_pos (by omega)
    simp only [run_nil, run_skip, run_label, run_eb, run_seq, run_ops, run_opsNil, run_block, run_ret, run_exit, runX_nil, runX_ir, runX_ops, runX_eb, runX_ret, outJ, run_op0, run_opG, run_cond, runC_true, runC_false, run_pick, run_pickG, runP, runPG, run_box, run_alloc, run_st, run_bsl, runB, run_appI, runAI, run_appS, runAS, run_bad, okN, okD, okOwn, okB, growsP, OB.isFro, noIds, Ins.kind, IOp.apps, List.any_cons, List.any_nil, gAct, pev, Ins.calm, Ins.opds, sureL, evS, St.put, List.map, List.map_cons, List.map_nil, List.length_cons, List.length_nil, List.replicate, List.cons_append, List.nil_append, List.append_nil, List.getD_cons_zero, List.getD_cons_succ, List.set_cons_zero, List.set_cons_succ, SV.res, SV.strip, SV.sure, SV.cells, PV.cells, SV.scal, PV.scal, SV.ld, PV.ld, binV, shV, strV, if_true, Bool.false_eq_true, if_false, SV.mix, true_and, and_true, Nat.reduceSub, Nat.zero_add, Nat.add_zero, Nat.reduceAdd, implies_true, cond_true, cond_false, List.all_cons, List.all_nil, Bool.and_self, Bool.and_true, Bool.true_and, Nat.reduceLeDiff, Nat.reduceLT, Nat.reduceMul, List.take, List.drop, St.forget, forgetL, slots, List.contains_cons, List.contains_nil, Nat.reduceBEq, Bool.or_false, Bool.false_or, Bool.or_true, Bool.true_or, Bool.or_self, SV.isSl, PV.isSl, OB.isNil, SV.isNil, PV.isNil, SV.num, Option.map_some, Option.map_none, fzL, fz1, List.foldl_cons, List.foldl_nil, SV.ids, SV.ids0, SV.ids1, boxIds, List.flatMap_cons, List.flatMap_nil, SV.pvS, SV.pvSL, PV.flat, PV.flatL, SV.see, OB.pv, bnds, slcOk, slcEx, cutL, intsOf, spliceL, lookE, maxL, minL, beq_self_eq_true, reduceIte, Nat.reduceEqDiff, Bool.not_true, Bool.not_false, Option.isSome_none, Option.isSome_some, true_implies, List.all, ne_eq, not_false_eq_true, not_true_eq_false, Int.reduceNeg, Int.reduceToNat, Int.reduceLT, Int.reduceLE, Int.cast_ofNat_Int, imp_self, Nat.min_def, bits_u64, bits_i64, bits_u8, bits_u32, Bool.not_eq_true', Bool.and_eq_true, Int.toNat_zero, Int.toNat_one, Nat.mul_one, Nat.zero_mul, Nat.one_mul, Nat.zero_le, and_self, Int.zero_le_ofNat, Int.le_refl, Int.natCast_zero, Int.natCast_one, Int.reducePow, Int.reduceMul, Int.reduceAdd, Int.reduceSub, Nat.add_one_ne_zero, List.set_nil, List.getD_nil, eqCells, fillL, aggS, allP, SV.fnNil, SV.ren, SV.renL, posOf, renO, OB.ren, renE, List.isEmpty_cons, List.isEmpty_nil, Bool.cond_false_right, Bool.cond_true_left, Bool.cond_true_right, Bool.cond_false_left, h8, hi, Int.toNat_natCast]
    refine ⟨by omega, by omega, by omega, w - (k + 1), [2], by simp, by omega, k + 1, false, by omega, rfl, ?_⟩
    rw [hif, show IntKind.u8.wrap (IntKind.u64.wrap n / 2 ^ (8 * k)) = pb n k from rfl, hs, Bool.and_false]
    rw [show (nil && decide (k + 1 = 0)) = false by simp]
    rfl
  · have : k = w := by omega
    subst this
    simp only [run_nil, run_skip, run_label, run_eb, run_seq, run_ops, run_opsNil, run_block, run_ret, run_exit, runX_nil, runX_ir, runX_ops, runX_eb, runX_ret, outJ, run_op0, run_opG, run_cond, runC_true, runC_false, run_pick, run_pickG, runP, runPG, run_box, run_alloc, run_st, run_bsl, runB, run_appI, runAI, run_appS, runAS, run_bad, okN, okD, okOwn, okB, growsP, OB.isFro, noIds, Ins.kind, IOp.apps, List.any_cons, List.any_nil, gAct, pev, Ins.calm, Ins.opds, sureL, evS, St.put, List.map, List.map_cons, List.map_nil, List.length_cons, List.length_nil, List.replicate, List.cons_append, List.nil_append, List.append_nil, List.getD_cons_zero, List.getD_cons_succ, List.set_cons_zero, List.set_cons_succ, SV.res, SV.strip, SV.sure, SV.cells, PV.cells, SV.scal, PV.scal, SV.ld, PV.ld, binV, shV, strV, if_true, Bool.false_eq_true, if_false, SV.mix, true_and, and_true, Nat.reduceSub, Nat.zero_add, Nat.add_zero, Nat.reduceAdd, implies_true, cond_true, cond_false, List.all_cons, List.all_nil, Bool.and_self, Bool.and_true, Bool.true_and, Nat.reduceLeDiff, Nat.reduceLT, Nat.reduceMul, List.take, List.drop, St.forget, forgetL, slots, List.contains_cons, List.contains_nil, Nat.reduceBEq, Bool.or_false, Bool.false_or, Bool.or_true, Bool.true_or, Bool.or_self, SV.isSl, PV.isSl, OB.isNil, SV.isNil, PV.isNil, SV.num, Option.map_some, Option.map_none, fzL, fz1, List.foldl_cons, List.foldl_nil, SV.ids, SV.ids0, SV.ids1, boxIds, List.flatMap_cons, List.flatMap_nil, SV.pvS, SV.pvSL, PV.flat, PV.flatL, SV.see, OB.pv, bnds, slcOk, slcEx, cutL, intsOf, spliceL, lookE, maxL, minL, beq_self_eq_true, reduceIte, Nat.reduceEqDiff, Bool.not_true, Bool.not_false, Option.isSome_none, Option.isSome_some, true_implies, List.all, ne_eq, not_false_eq_true, not_true_eq_false, Int.reduceNeg, Int.reduceToNat, Int.reduceLT, Int.reduceLE, Int.cast_ofNat_Int, imp_self, Nat.min_def, bits_u64, bits_i64, bits_u8, bits_u32, Bool.not_eq_true', Bool.and_eq_true, Int.toNat_zero, Int.toNat_one, Nat.mul_one, Nat.zero_mul, Nat.one_mul, Nat.zero_le, and_self, Int.zero_le_ofNat, Int.le_refl, Int.natCast_zero, Int.natCast_one, Int.reducePow, Int.reduceMul, Int.reduceAdd, Int.reduceSub, Nat.add_one_ne_zero, List.set_nil, List.getD_nil, eqCells, fillL, aggS, allP, SV.fnNil, SV.ren, SV.renL, posOf, renO, OB.ren, renE, List.isEmpty_cons, List.isEmpty_nil, Bool.cond_false_right, Bool.cond_true_left, Bool.cond_true_right, Bool.cond_false_left, rowK, Tryd.results58]
    exact ⟨6, 0, e, rfl, rfl, rfl⟩
theorem report_put_at {G : Glob} {nil ex : Bool} {l : List Int} {n w : Int} (h0 : 0 ≤ w) (h1 : w ≤ 8) (hl : l.length ≤ 1000000) : FunRow Tryd.prog G 58 5 .u8 nil ex l [.int .i64 n, .int .i64 w] (nil && decide (w = 0)) (l ++ (List.range w.toNat).map (pb n)) := by
  obtain ⟨m, rfl⟩ := Int.eq_ofNat_of_zero_le h0
  have := fn_report_put G nil ex l n m (by omega) hl
  rw [Int.toNat_natCast, show decide ((m : Int) = 0) = decide (m = 0) from decide_eq_decide.2 (by omega)]
  exact this
end Go.Proofs
namespace Go.Proofs
open Go.Shelf
def Tryd.lays70_ren : Go.Shelf.Ren := ⟨fun | 4 => 70 | n => n, fun | 22 => 22 | 25 => 3 | 3 => 3 | 4 => 4 | 9 => 9 | 20 => 20 | 0 => 0 | n => n, fun | n => n⟩
theorem Tryd.lays70 : Go.Proofs.Lays8.n4 Tryd.prog Tryd.lays70_ren := {
  mixed := by kernel_rfl
  f4 := ⟨Tryd.f70.name, by decide, Tryd.func70.trans (congrArg some (by kernel_rfl))⟩
  t0 := Tryd.underlying0
  a0 := Tryd.isAgg0
  z0 := Tryd.sizeOf0
  v0 := Tryd.zeroValue0
  t3 := Tryd.underlying3
  a3 := Tryd.isAgg3
  z3 := Tryd.sizeOf3
  v3 := Tryd.zeroValue3
  t4 := Tryd.underlying4
  a4 := Tryd.isAgg4
  z4 := Tryd.sizeOf4
  v4 := Tryd.zeroValue4
  t9 := Tryd.underlying9
  a9 := Tryd.isAgg9
  z9 := Tryd.sizeOf9
  v9 := Tryd.zeroValue9
  t20 := Tryd.underlying20
  a20 := Tryd.isAgg20
  z20 := Tryd.sizeOf20
  v20 := Tryd.zeroValue20
  t22 := Tryd.underlying22
  a22 := Tryd.isAgg22
  z22 := Tryd.sizeOf22
  v22 := Tryd.zeroValue22 }
end Go.Proofs
set_option linter.unusedVariables false
set_option linter.unusedSimpArgs false
namespace Go.Proofs
open Go Go.Fx
theorem infoInt : (Tryd.prog.info? 3).map (fun i => (i.zero, i.size, i.bytes)) = some (some (.int .i64 0), 1, 8) := by kernel_rfl
theorem fn_Grow (G : Glob) (ex : Bool) (n : Nat) (hn : n ≤ 1000000) : FunRow Tryd.prog G 70 3 .i64 true ex [] [.int .i64 n] (decide (n = 0)) [] := by
  refine ⟨by kernel_rfl, fun w h v vs hs hG hsat hone hap hargs => ?_⟩
  obtain ⟨_, _, rfl, e1, e2⟩ := hargs
  have e1 : _ = Value.int .i64 n := e1
  subst e1
  have e2 : _ = ([] : List Value) := e2
  subst e2
  rcases hsat with ⟨_, _, rfl⟩ | ⟨h1, _⟩
  · by_cases h0 : n = 0
    · subst h0
      refine (Any8.slices_Grow_room Tryd.lays70 none 0 0 0 w (by omega) (by omega) (by omega) (by omega)).mono fun e w' ⟨he, hw⟩ => ?_
      subst hw
      exact ⟨_, he, .inl ⟨rfl, rfl, rfl⟩, rfl, fun b hb => (by cases hb), Nat.le_refl _, fun _ _ _ => rfl, Out.refl⟩
    · obtain ⟨i0, hi, hh⟩ : ∃ i0, Tryd.prog.info? 3 = some i0 ∧ (i0.zero, i0.size, i0.bytes) = (some (.int .i64 0), 1, 8) := by
        have := infoInt
        cases e : Tryd.prog.info? 3 with
        | none => rw [e] at this; cases this
        | some i0 => rw [e] at this; exact ⟨i0, rfl, Option.some.inj this⟩
      simp only [Prod.mk.injEq] at hh
      obtain ⟨hz, hsz, hby⟩ := hh
      have hc := grownCap_ge w (0 + n) 0 3
      refine (Any8.slices_Grow_grow Tryd.lays70 i0 (.int .i64 0) hi hz (by omega) none 0 0 n [] w (by omega) (by omega) (by rw [hby]; omega) (by omega) (by simp) (fun _ => rfl) (fun a e => by cases e)).mono fun e w' ⟨he, hw⟩ => ?_
      have hcz : ∀ k, (Builtin.zeroCells (Value.int .i64 0).cells k).size = k := fun k => by
        rw [size_zeroCells]
        exact Nat.mul_one k
      have hd : decide (n = 0) = false := decide_eq_false h0
      refine ⟨_, he, ?_⟩
      subst hw
      refine ⟨.inr ⟨hd, w.heap.size, _, _, rfl, Nat.zero_le _, (fun e => by cases e), push_new w.drew _, ?_, fun j hj => absurd hj (Nat.not_lt_zero _)⟩, rfl, fun b hb => ?_, by rw [push_size]; show w.heap.size ≤ w.heap.size + 1; omega, fun b hb _ => push_old w.drew _ hb, rfl, rfl⟩
      · simp only [Array.size_append, hcz, List.size_toArray, List.length_nil]
        show 0 + (0 + n - 0) + (grownCap w (0 + n) 0 3 - (0 + n)) = grownCap w (0 + n) 0 3
        omega
      · cases hb
        exact .inr (Nat.le_refl _)
  · cases h1
theorem grow_at {G : Glob} {nil ex : Bool} {l : List Int} {n : Int} (hb : nil = true) (hl : l = []) (h0 : 0 ≤ n) (h1 : n ≤ 1000000) : FunRow Tryd.prog G 70 3 .i64 nil ex l [.int .i64 n] (decide (n = 0)) [] := by
  subst hb
  subst hl
  obtain ⟨m, rfl⟩ := Int.eq_ofNat_of_zero_le h0
  have := fn_Grow G ex m (by omega)
  rw [show decide ((m : Int) = 0) = decide (m = 0) from decide_eq_decide.2 (by omega)]
  exact this
end Go.Proofs
set_option linter.unusedVariables false
set_option linter.unusedSimpArgs false
set_option maxRecDepth 100000
namespace Go.Proofs
open Go Go.Fx
def nibTab : List Int := [0, 498536548, 997073096, 651767980, 1994146192, 1802195444, 1303535960, 1342533948, 3988292384, 4027552580, 3604390888, 3412177804, 2607071920, 2262029012, 2685067896, 3183342108]
def GG : Glob := fun g => match g with | 0 => some (.iref .u32 nibTab 0) | _ => none
open Classical in
noncomputable def go_report_put (bn : Bool) (be : Bool) (b : List Int) (n : Int) (w : Int) : Option (Bool × Bool × List Int) := if 0 ≤ w ∧ w ≤ 8 ∧ b.length ≤ 1000000 then some ((bn && decide (w = 0)), false, (b ++ (List.range (w).toNat).map (pb n))) else none
def em_report_put (r : (Bool × Bool × List Int)) : PV := (.isl r.1 r.2.1 .u8 r.2.2)
def as_report_put : List Shp := [(.isl .u8), (.ref 5 []), (.int .i64), (.int .i64)]
noncomputable def ga_report_put (vs : List PV) : Option (Bool × Bool × List Int) := go_report_put ((tls 0 vs).headD .nilSl).nl ((tls 0 vs).headD .nilSl).ex ((tls 0 vs).headD .nilSl).ints ((tls 2 vs).headD .nilSl).num ((tls 3 vs).headD .nilSl).num
theorem fe_report_put (bn : Bool) (be : Bool) (b : List Int) (n : Int) (w : Int) (r : (Bool × Bool × List Int)) (hr : go_report_put bn be b n w = some r) : FunRowT Tryd.prog GG 1000058 [(.isl bn be .u8 b), (.ref 5 []), (.int .i64 n), (.int .i64 w)] (em_report_put r) := by
  unfold go_report_put at hr
  split at hr
  · rename_i h
    cases hr
    exact ⟨⟨by decide, by decide⟩, rfl, report_put_at h.1 h.2.1 h.2.2⟩
  · cases hr
theorem at_report_put : FnAt Tryd.prog GG 1000058 as_report_put ga_report_put em_report_put := fun vs h r hr => by
  have e : Shp.buildL as_report_put vs = [(.isl ((tls 0 vs).headD .nilSl).nl ((tls 0 vs).headD .nilSl).ex .u8 ((tls 0 vs).headD .nilSl).ints), (.ref 5 []), (.int .i64 ((tls 2 vs).headD .nilSl).num), (.int .i64 ((tls 3 vs).headD .nilSl).num)] := by kernel_rfl
  rw [← Shp.buildL_eq _ h, e]
  exact .inr (.inl (fe_report_put _ _ _ _ _ r hr))
open Classical in
noncomputable def go_slices_Grow (bn : Bool) (be : Bool) (b : List Int) (n : Int) : Option (Bool × Bool × List Int) := if bn = true ∧ b = [] ∧ 0 ≤ n ∧ n ≤ 1000000 then some (decide (n = 0), false, []) else none
def em_slices_Grow (r : (Bool × Bool × List Int)) : PV := (.isl r.1 r.2.1 .i64 r.2.2)
def as_slices_Grow : List Shp := [(.isl .i64), (.ref 3 []), (.int .i64)]
noncomputable def ga_slices_Grow (vs : List PV) : Option (Bool × Bool × List Int) := go_slices_Grow ((tls 0 vs).headD .nilSl).nl ((tls 0 vs).headD .nilSl).ex ((tls 0 vs).headD .nilSl).ints ((tls 2 vs).headD .nilSl).num
theorem fe_slices_Grow (bn : Bool) (be : Bool) (b : List Int) (n : Int) (r : (Bool × Bool × List Int)) (hr : go_slices_Grow bn be b n = some r) : FunRowT Tryd.prog GG 1000070 [(.isl bn be .i64 b), (.ref 3 []), (.int .i64 n)] (em_slices_Grow r) := by
  unfold go_slices_Grow at hr
  split at hr
  · rename_i h
    cases hr
    exact ⟨⟨by decide, by decide⟩, rfl, grow_at h.1 h.2.1 h.2.2.1 h.2.2.2⟩
  · cases hr
theorem at_slices_Grow : FnAt Tryd.prog GG 1000070 as_slices_Grow ga_slices_Grow em_slices_Grow := fun vs h r hr => by
  have e : Shp.buildL as_slices_Grow vs = [(.isl ((tls 0 vs).headD .nilSl).nl ((tls 0 vs).headD .nilSl).ex .i64 ((tls 0 vs).headD .nilSl).ints), (.ref 3 []), (.int .i64 ((tls 2 vs).headD .nilSl).num)] := by kernel_rfl
  rw [← Shp.buildL_eq _ h, e]
  exact .inr (.inl (fe_slices_Grow _ _ _ _ r hr))
end Go.Proofs
set_option linter.unusedVariables false
set_option maxRecDepth 100000
namespace Go.Proofs
open Go Go.Fx
theorem glob_of_tab {P : Program} {g : Nat} {name : String} {k : IntKind} {zs : List Int} {W : World} (hn : P.globalNamed name = some g) (h : Lib.TabIs P W name k zs) :
    (PV.iref k zs 0).rel (full W) (.pointer (some ⟨g, 0, none⟩)) ∧ tabOk (full W) g (.iref k zs 0) := by
  unfold Lib.TabIs World.var? at h
  rw [hn] at h
  simp only [Option.bind_some] at h
  split at h
  · rename_i cs ty fz e
    have h := Option.some.inj h
    refine ⟨⟨g, 0, rfl, fun j x hj => ⟨cs, ty, fz, e, ?_⟩⟩, cs, ty, fz, e, by rw [h]; simp⟩
    rw [h, Nat.zero_add, List.getElem?_toArray]
    exact hj
  · cases h
theorem funEqG_true {P : Program} {G : Glob} {f : FuncId} {args : List PV} {vs : List Value} (h : FunEq P G f args (.bool true)) (w : World) (hG : GlobOk G (full w)) (hv : PV.relL (full w) args vs) :
    Calls P f vs.toArray w fun e w' => e = .returned (.bool true) ∧ Left' w w' :=
  (h.2 w (full w) vs (fun _ _ e => e) hG hv).mono fun e w' ⟨v, he, hr, hz, hk, ho⟩ => by
    have hv : v = .bool true := hr
    subst hv
    exact ⟨he, hz, hk, ho⟩
namespace YtajphaljpkeecaaDoor
def laid5 : List (String × DataW Unit) := Rows.reportEncodesRow.laid
theorem nib_laid : laid5 = (Tryd.prog.globals[0]!.name, Lib.tabData (H := Unit) .u32 nibTab) :: [] := by kernel_rfl
theorem glob_laid {W : World} (h : laidMetH Tryd.prog laid5 W) : GlobOk GG (full W) := by
  rw [MakeChecks.laidMetH_plain _ _ _ (by kernel_rfl), nib_laid] at h
  have t0 := Lib.tabIs_of_head (g := 0) (t := 91) (e := 69) (n := 16) (by kernel_rfl) (by kernel_rfl) (by kernel_rfl) (by kernel_rfl) (by kernel_rfl) (by kernel_rfl) h
  intro g x e
  unfold GG at e
  split at e
  · cases e; exact glob_of_tab (by kernel_rfl) t0
  · cases e
theorem door_met (os : Os) (args : Array Value) : laidMetH Tryd.prog laid5 ((World.doorLaid Tryd.prog 4000 os).forCall (fun _ _ => 0) ⟨#[], args, []⟩).memory :=
  laidMetH_of_parts3 (fuel := 8) (laidMet_of_run' 8 (by kernel_rfl) (by kernel_rfl)) (by kernel_rfl) (by kernel_rfl)
end YtajphaljpkeecaaDoor
end Go.Proofs
