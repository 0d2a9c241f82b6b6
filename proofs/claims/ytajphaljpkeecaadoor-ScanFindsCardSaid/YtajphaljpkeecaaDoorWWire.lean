/-
  Bytes of numbers, numbers of bytes, the sum of bytes (no program in sight).
-/
import Derived.Test.YtajphaljpkeecaaDoorFxRun
import Derived.Laws.Bits64
import Derived.Test.YtajphaljpkeecaaDoorChecked
import Derived.Shelf.SlGeneric
import Derived.Shelf.Spec.SlicesGrow
import Derived.Test.YtajphaljpkeecaaDoorProg
import Derived.Test.YtajphaljpkeecaaDoorFxFin
import Derived.Test.YtajphaljpkeecaaDoorRows
import Derived.Lib.LaidTab
import Derived.LaidMore
import Derived.MakeChecks
import Derived.Stop.LaidErr
import Derived.Stop.Joined
import Derived.Test.YtajphaljpkeecaaDoorFxRow
import Derived.RangeFuncBox
import Derived.RangeFuncLeaves
import Derived.Shelf.Abstract
import Derived.WalkKit
import Derived.OwnWalkIn
import Derived.TacticsInMore
import Derived.LoopNIn
import Derived.LoopIn
set_option linter.unusedVariables false
set_option linter.unusedSimpArgs false
set_option maxRecDepth 100000
namespace Go.Proofs
open Go Go.Fx
def ir_frame_put : IR := (.seq (.ops false [⟨(some 6), (.mv (.c (.isl true true .u8 []))), none⟩]) (.seq (.seq (.ops false [⟨(some 8), (.mv (.tmp 2)), none⟩, ⟨(some 9), (.mv (.c (.int .i64 (0)))), none⟩]) (.block 0 (.loop [0, 1, 8, 9] (.seq (.ops false [⟨(some 10), (.bin .lss (.tmp 9) (.tmp 8)), none⟩]) (.seq (.cond (.tmp 10) .skip (.exit 0)) (.seq (.block 1 (.seq (.ops false [⟨(some 11), (.mv (.tmp 9)), none⟩, ⟨(some 7), (.mv (.tmp 11)), none⟩]) (.ops false [⟨(some 12), (.mv (.tmp 0)), none⟩, ⟨(some 13), (.mv (.tmp 1)), none⟩, ⟨(some 14), (.cvtI .u64 (.tmp 13)), none⟩, ⟨(some 15), (.mv (.tmp 7)), none⟩, ⟨(some 16), (.bin .mul (.c (.int .i64 (8))) (.tmp 15)), none⟩, ⟨(some 17), (.bin .shr (.tmp 14) (.tmp 16)), none⟩, ⟨(some 18), (.cvtI .u8 (.tmp 17)), none⟩, ⟨(some 19), (.bsl 5 (some .u8) 1 [(.tmp 18)]), none⟩, ⟨(some 20), (.app 5 (some .u8) 1 1 (.tmp 12) (.tmp 19)), none⟩, ⟨(some 0), (.mv (.tmp 20)), none⟩]))) (.ops false [⟨(some 21), (.bin .add (.tmp 9) (.c (.int .i64 (1)))), none⟩, ⟨(some 9), (.mv (.tmp 21)), none⟩]))))))) (.seq (.ops false [⟨(some 22), (.mv (.tmp 0)), none⟩, ⟨(some 6), (.mv (.tmp 22)), none⟩]) .ret)))
theorem ok_frame_put : compCode Tryd.prog (Tryd.f47.body.getD .skip) [[0, 1, 8, 9]] = some (ir_frame_put, []) := by kernel_rfl
def live_frame_put : List (List Nat) := [[0, 1, 8, 9]]
def i64 (n : Int) : Prop := -9223372036854775808 ≤ n ∧ n ≤ 9223372036854775807
theorem wrap_i64_id {a : Int} (h : i64 a) : IntKind.i64.wrap a = a := by
  rw [IntKind.wrap_i64]; unfold i64 at h; omega
def pb (n : Int) (k : Nat) : Int := IntKind.u8.wrap (IntKind.u64.wrap n / 2 ^ (8 * k))
theorem pb_snoc (n : Int) (k : Nat) (l : List Int) : (l ++ (List.range k).map (pb n)) ++ [pb n k] = l ++ (List.range (k + 1)).map (pb n) := by
  rw [List.range_succ, List.map_append, List.append_assoc]; rfl
theorem fn_frame_put (G : Glob) (nil ex : Bool) (l : List Int) (n : Int) (w : Nat) (hw : w ≤ 8) (hl : l.length ≤ 1000000) : FunRow Tryd.prog G 47 5 .u8 nil ex l [.int .i64 n, .int .i64 w] (nil && decide (w = 0)) (l ++ (List.range w).map (pb n)) := by
  refine row_of_vc live_frame_put Tryd.func47 rfl (by kernel_rfl) ok_frame_put Tryd.ntmps47 (run_of ?_)
  simp only [run_nil, run_skip, run_label, run_eb, run_seq, run_ops, run_opsNil, run_block, run_ret, run_exit, runX_nil, runX_ir, runX_ops, runX_eb, runX_ret, outJ, run_op0, run_opG, run_cond, runC_true, runC_false, run_pick, run_pickG, runP, runPG, run_box, run_alloc, run_st, run_bsl, runB, run_appI, runAI, run_appS, runAS, run_bad, okN, okD, okOwn, okB, growsP, OB.isFro, noIds, Ins.kind, IOp.apps, List.any_cons, List.any_nil, gAct, pev, Ins.calm, Ins.opds, sureL, evS, St.put, List.map, List.map_cons, List.map_nil, List.length_cons, List.length_nil, List.replicate, List.cons_append, List.nil_append, List.append_nil, List.getD_cons_zero, List.getD_cons_succ, List.set_cons_zero, List.set_cons_succ, SV.res, SV.strip, SV.sure, SV.cells, PV.cells, SV.scal, PV.scal, SV.ld, PV.ld, binV, shV, strV, if_true, Bool.false_eq_true, if_false, SV.mix, true_and, and_true, Nat.reduceSub, Nat.zero_add, Nat.add_zero, Nat.reduceAdd, implies_true, cond_true, cond_false, List.all_cons, List.all_nil, Bool.and_self, Bool.and_true, Bool.true_and, Nat.reduceLeDiff, Nat.reduceLT, Nat.reduceMul, List.take, List.drop, St.forget, forgetL, slots, List.contains_cons, List.contains_nil, Nat.reduceBEq, Bool.or_false, Bool.false_or, Bool.or_true, Bool.true_or, Bool.or_self, SV.isSl, PV.isSl, OB.isNil, SV.isNil, PV.isNil, SV.num, Option.map_some, Option.map_none, fzL, fz1, List.foldl_cons, List.foldl_nil, SV.ids, SV.ids0, SV.ids1, boxIds, List.flatMap_cons, List.flatMap_nil, SV.pvS, SV.pvSL, PV.flat, PV.flatL, SV.see, OB.pv, bnds, slcOk, slcEx, cutL, intsOf, spliceL, lookE, maxL, minL, beq_self_eq_true, reduceIte, Nat.reduceEqDiff, Bool.not_true, Bool.not_false, Option.isSome_none, Option.isSome_some, true_implies, List.all, ne_eq, not_false_eq_true, not_true_eq_false, Int.reduceNeg, Int.reduceToNat, Int.reduceLT, Int.reduceLE, Int.cast_ofNat_Int, imp_self, Nat.min_def, bits_u64, bits_i64, bits_u8, bits_u32, Bool.not_eq_true', Bool.and_eq_true, Int.toNat_zero, Int.toNat_one, Nat.mul_one, Nat.zero_mul, Nat.one_mul, Nat.zero_le, and_self, Int.zero_le_ofNat, Int.le_refl, Int.natCast_zero, Int.natCast_one, Int.reducePow, Int.reduceMul, Int.reduceAdd, Int.reduceSub, Nat.add_one_ne_zero, List.set_nil, List.getD_nil, eqCells, fillL, aggS, allP, SV.fnNil, SV.ren, SV.renL, posOf, renO, OB.ren, renE, List.isEmpty_cons, List.isEmpty_nil, Bool.cond_false_right, Bool.cond_true_left, Bool.cond_true_right, Bool.cond_false_left, ir_frame_put, Tryd.results47]
  refine run_loop (fun m S => ∃ (k : Nat) (e : Bool), k ≤ w ∧ m = w - k ∧ S = ⟨slots 23 0 [(0, .row 0), (1, .p (.int .i64 n)), (8, .p (.int .i64 w)), (9, .p (.int .i64 k))], [.irow 5 .u8 (nil && decide (k = 0)) e (l ++ (List.range k).map (pb n))]⟩) ?_ ?_
  · refine ⟨w, [0], by simp, 0, ex, by omega, rfl, ?_⟩
    simp only [List.range_zero, List.map_nil, List.append_nil, decide_true, Bool.and_true]
    rfl
  rintro m S' ⟨k, e, hk, rfl, rfl⟩
  have h8 : IntKind.i64.wrap (8 * (k : Int)) = ((8 * k : Nat) : Int) := by rw [wrap_i64_id (by unfold i64; omega)]; omega
  have hi : IntKind.i64.wrap ((k : Int) + 1) = ((k + 1 : Nat) : Int) := by rw [wrap_i64_id (by unfold i64; omega)]; rfl
  have hs := pb_snoc n k l
  have hlen : (l ++ (List.range k).map (pb n)).length = l.length + k := by simp
  simp only [run_nil, run_skip, run_label, run_eb, run_seq, run_ops, run_opsNil, run_block, run_ret, run_exit, runX_nil, runX_ir, runX_ops, runX_eb, runX_ret, outJ, run_op0, run_opG, run_cond, runC_true, runC_false, run_pick, run_pickG, runP, runPG, run_box, run_alloc, run_st, run_bsl, runB, run_appI, runAI, run_appS, runAS, run_bad, okN, okD, okOwn, okB, growsP, OB.isFro, noIds, Ins.kind, IOp.apps, List.any_cons, List.any_nil, gAct, pev, Ins.calm, Ins.opds, sureL, evS, St.put, List.map, List.map_cons, List.map_nil, List.length_cons, List.length_nil, List.replicate, List.cons_append, List.nil_append, List.append_nil, List.getD_cons_zero, List.getD_cons_succ, List.set_cons_zero, List.set_cons_succ, SV.res, SV.strip, SV.sure, SV.cells, PV.cells, SV.scal, PV.scal, SV.ld, PV.ld, binV, shV, strV, if_true, Bool.false_eq_true, if_false, SV.mix, true_and, and_true, Nat.reduceSub, Nat.zero_add, Nat.add_zero, Nat.reduceAdd, implies_true, cond_true, cond_false, List.all_cons, List.all_nil, Bool.and_self, Bool.and_true, Bool.true_and, Nat.reduceLeDiff, Nat.reduceLT, Nat.reduceMul, List.take, List.drop, St.forget, forgetL, slots, List.contains_cons, List.contains_nil, Nat.reduceBEq, Bool.or_false, Bool.false_or, Bool.or_true, Bool.true_or, Bool.or_self, SV.isSl, PV.isSl, OB.isNil, SV.isNil, PV.isNil, SV.num, Option.map_some, Option.map_none, fzL, fz1, List.foldl_cons, List.foldl_nil, SV.ids, SV.ids0, SV.ids1, boxIds, List.flatMap_cons, List.flatMap_nil, SV.pvS, SV.pvSL, PV.flat, PV.flatL, SV.see, OB.pv, bnds, slcOk, slcEx, cutL, intsOf, spliceL, lookE, maxL, minL, beq_self_eq_true, reduceIte, Nat.reduceEqDiff, Bool.not_true, Bool.not_false, Option.isSome_none, Option.isSome_some, true_implies, List.all, ne_eq, not_false_eq_true, not_true_eq_false, Int.reduceNeg, Int.reduceToNat, Int.reduceLT, Int.reduceLE, Int.cast_ofNat_Int, imp_self, Nat.min_def, bits_u64, bits_i64, bits_u8, bits_u32, Bool.not_eq_true', Bool.and_eq_true, Int.toNat_zero, Int.toNat_one, Nat.mul_one, Nat.zero_mul, Nat.one_mul, Nat.zero_le, and_self, Int.zero_le_ofNat, Int.le_refl, Int.natCast_zero, Int.natCast_one, Int.reducePow, Int.reduceMul, Int.reduceAdd, Int.reduceSub, Nat.add_one_ne_zero, List.set_nil, List.getD_nil, eqCells, fillL, aggS, allP, SV.fnNil, SV.ren, SV.renL, posOf, renO, OB.ren, renE, List.isEmpty_cons, List.isEmpty_nil, Bool.cond_false_right, Bool.cond_true_left, Bool.cond_true_right, Bool.cond_false_left]
  refine runC_dec (fun h1 => ?_) (fun h1 => ?_)
  · have hm : min (8 * k) 64 = 8 * k := by omega
    have hif : (if 8 * k ≤ 64 then 8 * k else 64) = 8 * k := if_pos (by omega)
    simp only [run_nil, run_skip, run_label, run_eb, run_seq, run_ops, run_opsNil, run_block, run_ret, run_exit, runX_nil, runX_ir, runX_ops, runX_eb, runX_ret, outJ, run_op0, run_opG, run_cond, runC_true, runC_false, run_pick, run_pickG, runP, runPG, run_box, run_alloc, run_st, run_bsl, runB, run_appI, runAI, run_appS, runAS, run_bad, okN, okD, okOwn, okB, growsP, OB.isFro, noIds, Ins.kind, IOp.apps, List.any_cons, List.any_nil, gAct, pev, Ins.calm, Ins.opds, sureL, evS, St.put, List.map, List.map_cons, List.map_nil, List.length_cons, List.length_nil, List.replicate, List.cons_append, List.nil_append, List.append_nil, List.getD_cons_zero, List.getD_cons_succ, List.set_cons_zero, List.set_cons_succ, SV.res, SV.strip, SV.sure, SV.cells, PV.cells, SV.scal, PV.scal, SV.ld, PV.ld, binV, shV, strV, if_true, Bool.false_eq_true, if_false, SV.mix, true_and, and_true, Nat.reduceSub, Nat.zero_add, Nat.add_zero, Nat.reduceAdd, implies_true, cond_true, cond_false, List.all_cons, List.all_nil, Bool.and_self, Bool.and_true, Bool.true_and, Nat.reduceLeDiff, Nat.reduceLT, Nat.reduceMul, List.take, List.drop, St.forget, forgetL, slots, List.contains_cons, List.contains_nil, Nat.reduceBEq, Bool.or_false, Bool.false_or, Bool.or_true, Bool.true_or, Bool.or_self, SV.isSl, PV.isSl, OB.isNil, SV.isNil, PV.isNil, SV.num, Option.map_some, Option.map_none, fzL, fz1, List.foldl_cons, List.foldl_nil, SV.ids, SV.ids0, SV.ids1, boxIds, List.flatMap_cons, List.flatMap_nil, SV.pvS, SV.pvSL, PV.flat, PV.flatL, SV.see, OB.pv, bnds, slcOk, slcEx, cutL, intsOf, spliceL, lookE, maxL, minL, beq_self_eq_true, reduceIte, Nat.reduceEqDiff, Bool.not_true, Bool.not_false, Option.isSome_none, Option.isSome_some, true_implies, List.all, ne_eq, not_false_eq_true, not_true_eq_false, Int.reduceNeg, Int.reduceToNat, Int.reduceLT, Int.reduceLE, Int.cast_ofNat_Int, imp_self, Nat.min_def, bits_u64, bits_i64, bits_u8, bits_u32, Bool.not_eq_true', Bool.and_eq_true, Int.toNat_zero, Int.toNat_one, Nat.mul_one, Nat.zero_mul, Nat.one_mul, Nat.zero_le, and_self, Int.zero_le_ofNat, Int.le_refl, Int.natCast_zero, Int.natCast_one, Int.reducePow, Int.reduceMul, Int.reduceAdd, Int.reduceSub, Nat.add_one_ne_zero, List.set_nil, List.getD_nil, eqCells, fillL, aggS, allP, SV.fnNil, SV.ren, SV.renL, posOf, renO, OB.ren, renE, List.isEmpty_cons, List.isEmpty_nil, Bool.cond_false_right, Bool.cond_true_left, Bool.cond_true_right, Bool.cond_false_left, h8, hi, Int.toNat_natCast]
    refine ⟨by omega, by omega, by omega, w - (k + 1), [2], by simp, by omega, k + 1, false, by omega, rfl, ?_⟩
    rw [hif, show IntKind.u8.wrap (IntKind.u64.wrap n / 2 ^ (8 * k)) = pb n k from rfl, hs, Bool.and_false]
    rw [show (nil && decide (k + 1 = 0)) = false by simp]
    rfl
  · have : k = w := by omega
    subst this
    simp only [run_nil, run_skip, run_label, run_eb, run_seq, run_ops, run_opsNil, run_block, run_ret, run_exit, runX_nil, runX_ir, runX_ops, runX_eb, runX_ret, outJ, run_op0, run_opG, run_cond, runC_true, runC_false, run_pick, run_pickG, runP, runPG, run_box, run_alloc, run_st, run_bsl, runB, run_appI, runAI, run_appS, runAS, run_bad, okN, okD, okOwn, okB, growsP, OB.isFro, noIds, Ins.kind, IOp.apps, List.any_cons, List.any_nil, gAct, pev, Ins.calm, Ins.opds, sureL, evS, St.put, List.map, List.map_cons, List.map_nil, List.length_cons, List.length_nil, List.replicate, List.cons_append, List.nil_append, List.append_nil, List.getD_cons_zero, List.getD_cons_succ, List.set_cons_zero, List.set_cons_succ, SV.res, SV.strip, SV.sure, SV.cells, PV.cells, SV.scal, PV.scal, SV.ld, PV.ld, binV, shV, strV, if_true, Bool.false_eq_true, if_false, SV.mix, true_and, and_true, Nat.reduceSub, Nat.zero_add, Nat.add_zero, Nat.reduceAdd, implies_true, cond_true, cond_false, List.all_cons, List.all_nil, Bool.and_self, Bool.and_true, Bool.true_and, Nat.reduceLeDiff, Nat.reduceLT, Nat.reduceMul, List.take, List.drop, St.forget, forgetL, slots, List.contains_cons, List.contains_nil, Nat.reduceBEq, Bool.or_false, Bool.false_or, Bool.or_true, Bool.true_or, Bool.or_self, SV.isSl, PV.isSl, OB.isNil, SV.isNil, PV.isNil, SV.num, Option.map_some, Option.map_none, fzL, fz1, List.foldl_cons, List.foldl_nil, SV.ids, SV.ids0, SV.ids1, boxIds, List.flatMap_cons, List.flatMap_nil, SV.pvS, SV.pvSL, PV.flat, PV.flatL, SV.see, OB.pv, bnds, slcOk, slcEx, cutL, intsOf, spliceL, lookE, maxL, minL, beq_self_eq_true, reduceIte, Nat.reduceEqDiff, Bool.not_true, Bool.not_false, Option.isSome_none, Option.isSome_some, true_implies, List.all, ne_eq, not_false_eq_true, not_true_eq_false, Int.reduceNeg, Int.reduceToNat, Int.reduceLT, Int.reduceLE, Int.cast_ofNat_Int, imp_self, Nat.min_def, bits_u64, bits_i64, bits_u8, bits_u32, Bool.not_eq_true', Bool.and_eq_true, Int.toNat_zero, Int.toNat_one, Nat.mul_one, Nat.zero_mul, Nat.one_mul, Nat.zero_le, and_self, Int.zero_le_ofNat, Int.le_refl, Int.natCast_zero, Int.natCast_one, Int.reducePow, Int.reduceMul, Int.reduceAdd, Int.reduceSub, Nat.add_one_ne_zero, List.set_nil, List.getD_nil, eqCells, fillL, aggS, allP, SV.fnNil, SV.ren, SV.renL, posOf, renO, OB.ren, renE, List.isEmpty_cons, List.isEmpty_nil, Bool.cond_false_right, Bool.cond_true_left, Bool.cond_true_right, Bool.cond_false_left, rowK, Tryd.results47]
    exact ⟨6, 0, e, rfl, rfl, rfl⟩
theorem frame_put_at {G : Glob} {nil ex : Bool} {l : List Int} {n w : Int} (h0 : 0 ≤ w) (h1 : w ≤ 8) (hl : l.length ≤ 1000000) : FunRow Tryd.prog G 47 5 .u8 nil ex l [.int .i64 n, .int .i64 w] (nil && decide (w = 0)) (l ++ (List.range w.toNat).map (pb n)) := by
  obtain ⟨m, rfl⟩ := Int.eq_ofNat_of_zero_le h0
  have := fn_frame_put G nil ex l n m (by omega) hl
  rw [Int.toNat_natCast, show decide ((m : Int) = 0) = decide (m = 0) from decide_eq_decide.2 (by omega)]
  exact this
end Go.Proofs
namespace Go.Proofs
open Go.Shelf
end Go.Proofs
set_option linter.unusedVariables false
set_option linter.unusedSimpArgs false
namespace Go.Proofs
open Go Go.Fx
end Go.Proofs
set_option linter.unusedVariables false
set_option linter.unusedSimpArgs false
set_option maxRecDepth 100000
namespace Go.Proofs
open Go Go.Fx
def nibTab : List Int := [0, 498536548, 997073096, 651767980, 1994146192, 1802195444, 1303535960, 1342533948, 3988292384, 4027552580, 3604390888, 3412177804, 2607071920, 2262029012, 2685067896, 3183342108]
def GG : Glob := fun g => match g with | 0 => some (.iref .u32 nibTab 0) | _ => none
open Classical in
noncomputable def go_frame_put (bn : Bool) (be : Bool) (b : List Int) (n : Int) (w : Int) : Option (Bool × Bool × List Int) := if 0 ≤ w ∧ w ≤ 8 ∧ b.length ≤ 1000000 then some ((bn && decide (w = 0)), false, (b ++ (List.range (w).toNat).map (pb n))) else none
def em_frame_put (r : (Bool × Bool × List Int)) : PV := (.isl r.1 r.2.1 .u8 r.2.2)
def as_frame_put : List Shp := [(.isl .u8), (.ref 5 []), (.int .i64), (.int .i64)]
noncomputable def ga_frame_put (vs : List PV) : Option (Bool × Bool × List Int) := go_frame_put ((tls 0 vs).headD .nilSl).nl ((tls 0 vs).headD .nilSl).ex ((tls 0 vs).headD .nilSl).ints ((tls 2 vs).headD .nilSl).num ((tls 3 vs).headD .nilSl).num
theorem fe_frame_put (bn : Bool) (be : Bool) (b : List Int) (n : Int) (w : Int) (r : (Bool × Bool × List Int)) (hr : go_frame_put bn be b n w = some r) : FunRowT Tryd.prog GG 1000047 [(.isl bn be .u8 b), (.ref 5 []), (.int .i64 n), (.int .i64 w)] (em_frame_put r) := by
  unfold go_frame_put at hr
  split at hr
  · rename_i h
    cases hr
    exact ⟨⟨by decide, by decide⟩, rfl, frame_put_at h.1 h.2.1 h.2.2⟩
  · cases hr
theorem at_frame_put : FnAt Tryd.prog GG 1000047 as_frame_put ga_frame_put em_frame_put := fun vs h r hr => by
  have e : Shp.buildL as_frame_put vs = [(.isl ((tls 0 vs).headD .nilSl).nl ((tls 0 vs).headD .nilSl).ex .u8 ((tls 0 vs).headD .nilSl).ints), (.ref 5 []), (.int .i64 ((tls 2 vs).headD .nilSl).num), (.int .i64 ((tls 3 vs).headD .nilSl).num)] := by kernel_rfl
  rw [← Shp.buildL_eq _ h, e]
  exact .inr (.inl (fe_frame_put _ _ _ _ _ r hr))
end Go.Proofs
set_option linter.unusedVariables false
set_option maxRecDepth 100000
namespace Go.Proofs
open Go Go.Fx
theorem glob_of_tab {P : Program} {g : Nat} {name : String} {k : IntKind} {zs : List Int} {W : World} (hn : P.globalNamed name = some g) (h : Lib.TabIs P W name k zs) :
    (PV.iref k zs 0).rel (full W) (.pointer (some ⟨g, 0, none⟩)) ∧ tabOk (full W) g (.iref k zs 0) := by
  unfold Lib.TabIs World.var? at h
  rw [hn] at h
  simp only [Option.bind_some] at h
  split at h
  · rename_i cs ty fz e
    have h := Option.some.inj h
    refine ⟨⟨g, 0, rfl, fun j x hj => ⟨cs, ty, fz, e, ?_⟩⟩, cs, ty, fz, e, by rw [h]; simp⟩
    rw [h, Nat.zero_add, List.getElem?_toArray]
    exact hj
  · cases h
theorem funEqG_true {P : Program} {G : Glob} {f : FuncId} {args : List PV} {vs : List Value} (h : FunEq P G f args (.bool true)) (w : World) (hG : GlobOk G (full w)) (hv : PV.relL (full w) args vs) :
    Calls P f vs.toArray w fun e w' => e = .returned (.bool true) ∧ Left' w w' :=
  (h.2 w (full w) vs (fun _ _ e => e) hG hv).mono fun e w' ⟨v, he, hr, hz, hk, ho⟩ => by
    have hv : v = .bool true := hr
    subst hv
    exact ⟨he, hz, hk, ho⟩
namespace YtajphaljpkeecaaDoor
def laid5 : List (String × DataW Unit) := Rows.reportEncodesRow.laid
theorem nib_laid : laid5 = (Tryd.prog.globals[0]!.name, Lib.tabData (H := Unit) .u32 nibTab) :: [] := by kernel_rfl
theorem glob_laid {W : World} (h : laidMetH Tryd.prog laid5 W) : GlobOk GG (full W) := by
  rw [MakeChecks.laidMetH_plain _ _ _ (by kernel_rfl), nib_laid] at h
  have t0 := Lib.tabIs_of_head (g := 0) (t := 91) (e := 69) (n := 16) (by kernel_rfl) (by kernel_rfl) (by kernel_rfl) (by kernel_rfl) (by kernel_rfl) (by kernel_rfl) h
  intro g x e
  unfold GG at e
  split at e
  · cases e; exact glob_of_tab (by kernel_rfl) t0
  · cases e
theorem door_met (os : Os) (args : Array Value) : laidMetH Tryd.prog laid5 ((World.doorLaid Tryd.prog 4000 os).forCall (fun _ _ => 0) ⟨#[], args, []⟩).memory :=
  laidMetH_of_parts3 (fuel := 8) (laidMet_of_run' 8 (by kernel_rfl) (by kernel_rfl)) (by kernel_rfl) (by kernel_rfl)
end YtajphaljpkeecaaDoor
end Go.Proofs
set_option linter.unusedVariables false
set_option linter.unusedSimpArgs false
namespace Go.Proofs
open Go Go.RowKit Go.Shelf
attribute [local go_sem] Oper.semAt_some
def bkUpto {α : Type} (f : Nat → α) (k : Nat) : List α := (List.range k).map f
theorem bkUpto_succ {α : Type} (f : Nat → α) (k : Nat) : bkUpto f (k + 1) = bkUpto f k ++ [f k] := by simp [bkUpto, List.range_succ]
theorem bkUpto_length {α : Type} (f : Nat → α) (k : Nat) : (bkUpto f k).length = k := by simp [bkUpto]
def BkKp (Bs n₀ : Nat) (A B : World) : Prop := Below n₀ A B ∧ ∀ v, A.cell? ⟨Bs, 0, none⟩ = some v → B.cell? ⟨Bs, 0, none⟩ = some v
def bkAt (zs : List Int) (len k : Nat) : Nat × Int := (len - 1 - k, zs[len - 1 - k]?.getD 0)
set_option maxRecDepth 100000 in
set_option maxHeartbeats 4000000 in
theorem back1_in (F : Fence) (n : Nat) (h7 : F.fn 71) (hro : F.round = none) (hn : 1 ≤ n) (l Bs n₀ b off len cap : Nat) (zs : List Int) (hreach : len * 8 ≤ 140737488351232) (hb : b < n₀) (J Jx : List (Nat × Int) → World → Prop)
    (hY : ∀ pre x W, J pre W → pre.length < len → YieldAt F (n - 1) Tryd.prog l #[.int .i64 (x.1 : Int), .int .u8 x.2] W fun e W' =>
      (e = .returned (.bool true) ∧ J (pre ++ [x]) W' ∧ BkKp Bs n₀ W W') ∨ (e = .returned (.bool false) ∧ Jx (pre ++ [x]) W'))
    (W : World) (hBs : W.cell? ⟨Bs, 0, none⟩ = some (.slice (some ⟨b, off, none⟩) len cap)) (hc : ∀ j, j < len → W.cell? ⟨b, off + j, none⟩ = some (.int .u8 (zs[j]?.getD 0))) (h0 : J [] W) :
    CallsIn F n Tryd.prog 71 #[.func (.yield l) #[] #[], .pointer (some ⟨Bs, 0, none⟩)] W fun e W' => (∃ v, e = .returned v) ∧
      ((∃ ys, ys = bkUpto (bkAt zs len) len ∧ J ys W') ∨ (∃ pre, (∃ k, k ≤ len ∧ pre = bkUpto (bkAt zs len) k) ∧ Jx pre W')) := by
  refine callsIn_of_wp Tryd.func71 rfl h7 ?_ hro
  simp only [Tryd.ntmps71, List.size_toArray, List.length_cons, List.length_nil, Nat.reduceAdd, Nat.reduceSub, Array.replicate_succ, Array.replicate_zero, List.push_toArray, List.append_toArray, List.nil_append, List.cons_append]
  have hw1 : wrap64 ((len : Int) - 1) = (len : Int) - 1 := by unfold wrap64; omega
  gi_wp2
  gi_loopw [3] (fun i wr => ∃ r : Nat, r ≤ len ∧ i = .int .i64 ((r : Int) - 1) ∧ J (bkUpto (bkAt zs len) (len - r)) wr ∧ BkKp Bs n₀ W wr)
    (fun i _ => (intOf i + 1).toNat)
  case atStart => exact ⟨len, Nat.le_refl _, rfl, by rw [Nat.sub_self]; exact h0, Below.refl _ _, fun _ h => h⟩
  case round =>
    obtain ⟨r, hk, rfl, hJs, hnx⟩ := hrel
    have hBs' : wr.cell? ⟨Bs, 0, none⟩ = some (.slice (some ⟨b, off, none⟩) len cap) := hnx.2 _ hBs
    cases r with
    | succ j =>
      rw [show ((j + 1 : Nat) : Int) - 1 = (j : Int) by omega]
      have hjl : j < len := by omega
      have hcx' : wr.cell? ⟨b, off + j, none⟩ = some (.int .u8 (zs[j]?.getD 0)) := (hnx.1.cell (p := ⟨b, off + j, none⟩) hb).trans (hc j hjl)
      obtain ⟨fn, tmps, assign, body, hy, hR⟩ := hY _ (j, zs[j]?.getD 0) wr hJs (by rw [bkUpto_length]; omega)
      dsimp only at hy
      have hs : bkUpto (bkAt zs len) (len - (j + 1)) ++ [(j, zs[j]?.getD 0)] = bkUpto (bkAt zs len) (len - j) := by
        rw [show len - j = (len - (j + 1)) + 1 by omega, bkUpto_succ]
        unfold bkAt
        rw [show len - 1 - (len - (j + 1)) = j by omega]
      rw [hs] at hR
      have hjle : j ≤ len := by omega
      have hw2 : wrap64 ((j : Int) - 1) = (j : Int) - 1 := by unfold wrap64; omega
      clear hs hk hw1
      gi_wp2
      refine hR.mono ?_
      rintro e W3 (⟨rfl, hJ3, hk3⟩ | ⟨rfl, hJx3⟩)
      · gi_wp2
        go_roundw
        case rel => exact ⟨j, hjle, rfl, hJ3, hnx.1.trans hk3.1, fun v h => hk3.2 v (hnx.2 v h)⟩
        case measure => simp [intOf]
      · gi_wp2
        refine bodyPost_ret (results_none rfl _ _ _) rfl ?_
        exact ⟨⟨_, rfl⟩, .inr ⟨_, ⟨len - j, Nat.sub_le _ _, rfl⟩, hJx3⟩⟩
    | zero =>
      rw [show ((0 : Nat) : Int) - 1 = -1 by omega]
      gi_wp2
      go_end0
      exact ⟨⟨_, rfl⟩, .inl ⟨_, rfl, hJs⟩⟩
set_option maxRecDepth 100000 in
set_option maxHeartbeats 1000000 in
theorem back1_nil_in (F : Fence) (n : Nat) (h7 : F.fn 71) (hro : F.round = none) (l Bs cap : Nat) (a : Option Addr) (J : List (Nat × Int) → World → Prop) (W : World) (hBs : W.cell? ⟨Bs, 0, none⟩ = some (.slice a 0 cap)) (h0 : J [] W) :
    CallsIn F n Tryd.prog 71 #[.func (.yield l) #[] #[], .pointer (some ⟨Bs, 0, none⟩)] W fun e W' => (∃ v, e = .returned v) ∧ J [] W' := by
  refine callsIn_of_wp Tryd.func71 rfl h7 ?_ hro
  simp only [Tryd.ntmps71, List.size_toArray, List.length_cons, List.length_nil, Nat.reduceAdd, Nat.reduceSub, Array.replicate_succ, Array.replicate_zero, List.push_toArray, List.append_toArray, List.nil_append, List.cons_append]
  gi_wp2
  gi_loopw [3] (fun i wr => i = .int .i64 (-1) ∧ J [] wr) (fun _ _ => 0)
  case atStart => exact ⟨rfl, h0⟩
  case round =>
    obtain ⟨rfl, hJs⟩ := hrel
    gi_wp2
    go_end0
    exact ⟨⟨_, rfl⟩, hJs⟩
set_option maxHeartbeats 1000000 in
theorem back_in (F : Fence) (n : Nat) (h5 : F.fn 67) (hro : F.round = none) (a : Option Addr) (len cap : Nat) (w : World) :
    CallsIn F n Tryd.prog 67 #[.slice a len cap] w fun e w' => e = .returned (.func (.func 71) #[] #[.pointer (some ⟨w.heap.size, 0, none⟩)]) ∧ w' = w.alloc (.cells #[.slice a len cap] 26) := by
  refine callsIn_of_wp Tryd.func67 rfl h5 ?_ hro
  simp only [Tryd.ntmps67, List.size_toArray, List.length_cons, List.length_nil, Nat.reduceAdd, Nat.reduceSub, Array.replicate_succ, Array.replicate_zero, List.push_toArray, List.append_toArray, List.nil_append, List.cons_append]
  gi_wp2
  go_ret
  exact ⟨rfl, rfl⟩
def BkInts (n₀ : Nat) (W : World) (sv : Value) (zs : List Int) : Prop :=
  (∃ a cap, sv = .slice a 0 cap ∧ zs = []) ∨ ∃ b off cap, sv = .slice (some ⟨b, off, none⟩) zs.length cap ∧ b < n₀ ∧ ∀ j, j < zs.length → W.cell? ⟨b, off + j, none⟩ = some (.int .u8 (zs[j]?.getD 0))
theorem BkInts.below {n₀ : Nat} {A B : World} (h : Below n₀ A B) {sv : Value} {zs : List Int} : BkInts n₀ A sv zs → BkInts n₀ B sv zs
  | .inl e => .inl e
  | .inr ⟨b, off, cap, e, hb, hc⟩ => .inr ⟨b, off, cap, e, hb, fun j hj => (h.cell (p := ⟨b, off + j, none⟩) hb).trans (hc j hj)⟩
theorem BkInts.mono {n₀ n₁ : Nat} {A : World} (h : n₀ ≤ n₁) {sv : Value} {zs : List Int} : BkInts n₀ A sv zs → BkInts n₁ A sv zs
  | .inl e => .inl e
  | .inr ⟨b, off, cap, e, hb, hc⟩ => .inr ⟨b, off, cap, e, by omega, hc⟩
theorem back_stops (F : Fence) (n : Nat) (h7 : F.fn 71) (hro : F.round = none) (hn : 1 ≤ n) (Bs n₀ : Nat) (sv : Value) (zs : List Int) (hreach : zs.length * 8 ≤ 140737488351232) (w : World) (hBs : Bs < w.heap.size) (hn₀ : n₀ ≤ w.heap.size)
    (hc : w.cell? ⟨Bs, 0, none⟩ = some sv) (hI : BkInts n₀ w sv zs) :
    SeqStopsK F n Tryd.prog 71 #[.pointer (some ⟨Bs, 0, none⟩)] (fun x : Nat × Int => #[Value.int .i64 (x.1 : Int), Value.int .u8 x.2]) (BkKp Bs n₀) (fun ys => ys = bkUpto (bkAt zs zs.length) zs.length)
      (fun pre => ∃ k, k ≤ zs.length ∧ pre = bkUpto (bkAt zs zs.length) k) zs.length w := fun l J Jx W hW _ _ hY h0 => by
  have hc' := (hW.cell (p := ⟨Bs, 0, none⟩) hBs).trans hc
  rcases hI.below (hW.mono hn₀) with ⟨a, cap, rfl, rfl⟩ | ⟨b, off, cap, rfl, hb, hcs⟩
  · exact (back1_nil_in F n h7 hro l Bs cap a J W hc' h0).mono fun e W' ⟨he, hj⟩ => ⟨he, .inl ⟨_, rfl, hj⟩⟩
  · exact back1_in F n h7 hro hn l Bs n₀ b off zs.length cap zs hreach hb J Jx hY W hc' hcs h0
def bkStep (s : Int) (x : Nat × Int) : Int := bits BinOp.or IntKind.u64 (IntKind.u64.wrap (s * 256)) (IntKind.u64.wrap x.2)
def bkV (pre : List (Nat × Int)) : Int := pre.foldl bkStep 0
set_option maxRecDepth 100000 in
set_option maxHeartbeats 2000000 in
theorem get_in (F : Fence) (n : Nat) (h3 : F.fn 53) (h5 : F.fn 67) (h7 : F.fn 71) (hro : F.round = none) (hn : 3 ≤ n) (a : Option Addr) (len cap : Nat) (zs : List Int) (hreach : zs.length * 8 ≤ 140737488351232) (w : World) (hI : BkInts w.heap.size w (.slice a len cap) zs) :
    CallsIn F n Tryd.prog 53 #[.slice a len cap] w fun e W' => e = .returned (.int .i64 (wrap64 (bkV (bkUpto (bkAt zs zs.length) zs.length)))) ∧ Below w.heap.size w W' := by
  have h1 : 1 ≤ n := by omega
  refine callsIn_of_wp_marks Tryd.func53 rfl h3 ?_ hro
  simp only [Tryd.ntmps53, List.size_toArray, List.length_cons, List.length_nil, Nat.reduceAdd, Nat.reduceSub, Array.replicate_succ, Array.replicate_zero, List.push_toArray, List.append_toArray, List.nil_append, List.cons_append]
  gi_wp2_with (gi_at_call 67; refine (back_in F (n - 1) h5 hro _ _ _ _).mono ?_; rintro e w' ⟨rfl, rfl⟩)
  have bS := Boxed.new w 74 (.int .u64 0)
  have bN := Boxed.new (w.alloc (.cells #[.int .u64 0] 74)) 26 (.slice a len cap)
  rw [World.size_alloc] at bN
  have hB0 : Below w.heap.size w ((w.alloc (.cells #[.int .u64 0] 74)).alloc (.cells #[.slice a len cap] 26)) := ((Below.refl _ w).alloc (Nat.le_refl _) _).alloc (by simp) _
  refine wpIn_rangeFunc_ownG hro h1 (gf := 71) (lb := #[.pointer (some ⟨w.heap.size + 1, 0, none⟩)]) rfl h7 (enters_of Tryd.func71 (by kernel_rfl) rfl)
    (back_stops F (n - 1) h7 hro (by omega) (w.heap.size + 1) w.heap.size _ zs hreach _ (by simp) (by simp; omega) bN.cell (hI.below hB0)) (fun h1 h2 => ⟨h1.1.trans h2.1, fun v h => h2.2 v (h1.2 v h)⟩)
    (fun W l o o' hl ho hc hw => ⟨belowK_b (n₀ := w.heap.size) (by simp; omega) W l o o' hl ho hc hw, fun v h => ((belowK_b (n₀ := w.heap.size + 2) (by simp) W l o o' hl ho hc hw).cell (p := ⟨w.heap.size + 1, 0, none⟩) (by simp)).trans h⟩) (Below.refl _ _) (fun _ => rfl)
    (fun pre W => (W.cell? ⟨w.heap.size, 0, none⟩ = some (.int .u64 (bkV pre)) ∧ W.frozen? ⟨w.heap.size, 0, none⟩ = false) ∧ Below w.heap.size w W)
    (fun _ _ _ => False)
    (OwnFrom.and (Own.from (fun s A B row hs hg hr => ⟨cell_kept hs.1 hg hr, (frozen_kept hs.1 hg hr).trans hs.2⟩) _) (ownFrom_below (Nat.le_refl _) (by simp; omega)))
    (fun _ _ _ _ _ hs _ _ => hs)
    ⟨⟨(bS.alloc _).cell, (bS.alloc _).frozen⟩, hB0⟩
    (fun x => { tmps := #[.slice a len cap, undef, .int .i64 0, .pointer (some ⟨w.heap.size, 0, none⟩), undef, .int .u8 x.2, .slice a len cap, .func (.func 71) #[] #[.pointer (some ⟨w.heap.size + 1, 0, none⟩)], .int .i64 (x.1 : Int), .int .u8 x.2, undef, undef, undef, undef, undef, undef, undef], defers := [] }) ?assign ?body ?done ?stop
  case assign =>
    intro l x W K hK
    gi_wp2
    exact hK
  case body =>
    rintro l pre x W ⟨⟨hc, hf⟩, hB⟩ _
    gi_wp2
    have hne : (⟨w.heap.size, 0, none⟩ : Addr) ≠ ⟨w.heap.size + 1, 0, none⟩ := by simp
    exact ⟨(KeepsOthers.setCell _ _ _).from _, ⟨(Below.refl w.heap.size W).setCell (p := ⟨w.heap.size, 0, none⟩) (Nat.le_refl _) _, fun v h => (World.cell?_setCell_other _ _ _ _ hne).trans h⟩,
      ⟨by rw [show bkV (pre ++ [x]) = bkStep (bkV pre) x by simp [bkV]]; exact World.cell?_setCell_same' _ _ _ (by rw [hc]; rfl), by rw [World.frozen?_setCell]; exact hf⟩, hB.setCell (p := ⟨w.heap.size, 0, none⟩) (Nat.le_refl _) _⟩
  case done =>
    rintro D ys W hD rfl ⟨⟨hc, _⟩, hB⟩ hK
    gi_wp2
    refine ⟨by simp, .inl ⟨_, _, rfl, run_takeDeferred hK, ?_⟩⟩
    exact ⟨_, results_tmp rfl _ _ _, rfl, hB.trans (belowK_b (w := w) (Nat.le_refl _) W D _ _ (by simp at hD; omega) hK rfl rfl)⟩
  case stop =>
    rintro D c pre W _ _ h _
    exact h.elim
end Go.Proofs
set_option linter.unusedSimpArgs false
set_option linter.unusedVariables false
namespace Go.Proofs
open Go Go.Fx
def isB (l : List Int) : Prop := ∀ x ∈ l, 0 ≤ x ∧ x < 256
theorem isB_nil : isB [] := fun _ h => by cases h
theorem isB_cons {x : Int} {l : List Int} : isB (x :: l) ↔ (0 ≤ x ∧ x < 256) ∧ isB l := by
  unfold isB; simp
theorem isB_append {a b : List Int} : isB (a ++ b) ↔ isB a ∧ isB b := by
  unfold isB
  simp only [List.mem_append]
  exact ⟨fun h => ⟨fun x hx => h x (.inl hx), fun x hx => h x (.inr hx)⟩, fun h x hx => hx.elim (h.1 x) (h.2 x)⟩
theorem isB_take {l : List Int} (h : isB l) (n : Nat) : isB (l.take n) := fun x hx => h x (List.mem_of_mem_take hx)
theorem isB_drop {l : List Int} (h : isB l) (n : Nat) : isB (l.drop n) := fun x hx => h x (List.mem_of_mem_drop hx)
theorem isB_all {l : List Int} (h : isB l) : List.all l (fun x => decide ((0 ≤ x) ∧ (x < 256))) = true := by
  rw [List.all_eq_true]
  exact fun x hx => decide_eq_true (h x hx)
theorem isB_getD {l : List Int} (h : isB l) (k : Nat) : 0 ≤ l.getD k 0 ∧ l.getD k 0 < 256 := by
  by_cases hk : k < l.length
  · rw [List.getD_eq_getElem?_getD, List.getElem?_eq_getElem hk]
    exact h _ (List.getElem_mem hk)
  · rw [List.getD_eq_getElem?_getD, List.getElem?_eq_none (by omega)]
    exact ⟨by decide, by decide⟩
def le : Nat → Nat → List Int
  | 0, _ => []
  | w + 1, n => ((n % 256 : Nat) : Int) :: le w (n / 256)
def val : List Int → Nat
  | [] => 0
  | b :: l => b.toNat + 256 * val l
theorem le_len : ∀ (w n : Nat), (le w n).length = w
  | 0, n => rfl
  | w + 1, n => by simp [le, le_len w]
theorem le_isB : ∀ (w n : Nat), isB (le w n)
  | 0, n => isB_nil
  | w + 1, n => isB_cons.2 ⟨⟨by omega, by omega⟩, le_isB w _⟩
theorem val_le : ∀ (w n : Nat), val (le w n) = n % 256 ^ w
  | 0, n => by simp [le, val, Nat.mod_one]
  | w + 1, n => by
    rw [le, val, val_le w, Int.toNat_natCast, Nat.pow_succ, Nat.mul_comm (256 ^ w) 256, Nat.mod_mul]
theorem le_val : ∀ (l : List Int), isB l → le l.length (val l) = l
  | [], _ => rfl
  | b :: l, h => by
    obtain ⟨h1, h2⟩ := isB_cons.1 h
    rw [List.length_cons, le, val]
    have e1 : (b.toNat + 256 * val l) % 256 = b.toNat := by omega
    have e2 : (b.toNat + 256 * val l) / 256 = val l := by omega
    rw [e1, e2, le_val l h2]
    congr 1
    omega
theorem val_lt : ∀ (l : List Int), isB l → val l < 256 ^ l.length
  | [], _ => by decide
  | b :: l, h => by
    obtain ⟨h1, h2⟩ := isB_cons.1 h
    have := val_lt l h2
    rw [List.length_cons, val, Nat.pow_succ]
    omega
theorem val_inj {a b : List Int} (ha : isB a) (hb : isB b) (hl : a.length = b.length) (h : val a = val b) : a = b := by
  rw [← le_val a ha, ← le_val b hb, h, hl]
theorem le_getD : ∀ (w n k : Nat), k < w → (le w n)[k]? = some (((n / 256 ^ k % 256 : Nat)) : Int)
  | 0, n, k, h => by omega
  | w + 1, n, 0, h => by simp [le]
  | w + 1, n, k + 1, h => by
    rw [le, List.getElem?_cons_succ, le_getD w (n / 256) k (by omega), Nat.div_div_eq_div_mul, Nat.pow_succ, Nat.mul_comm 256]
theorem le_range (w n : Nat) : le w n = (List.range w).map fun k => (((n / 256 ^ k % 256 : Nat)) : Int) := by
  apply List.ext_getElem?
  intro k
  by_cases h : k < w
  · rw [le_getD w n k h]; simp [h]
  · rw [List.getElem?_eq_none (by rw [le_len]; omega), List.getElem?_eq_none (by simp; omega)]
def u64 (n : Int) : Nat := (n % 18446744073709551616).toNat
theorem u64_lt (n : Int) : u64 n < 18446744073709551616 := by unfold u64; omega
theorem wrap_u64' (n : Int) : IntKind.wrap .u64 n = (u64 n : Int) := by rw [IntKind.wrap_u64]; unfold u64; omega
theorem wrap_u64_nat {n : Nat} (h : n < 18446744073709551616) : IntKind.wrap .u64 (n : Int) = (n : Int) := by rw [IntKind.wrap_u64]; omega
theorem wrap_u8' (n : Nat) : IntKind.wrap .u8 (n : Int) = ((n % 256 : Nat) : Int) := by rw [IntKind.wrap_u8]; omega
theorem wrap_i64_u {n : Int} (h1 : -9223372036854775808 ≤ n) (h2 : n ≤ 9223372036854775807) : IntKind.wrap .i64 ((u64 n : Nat) : Int) = n := by
  rw [IntKind.wrap_i64]; unfold u64; omega
theorem u64_wrap {n : Nat} (h : n < 18446744073709551616) : u64 (IntKind.wrap .i64 (n : Int)) = n := by
  rw [IntKind.wrap_i64]; unfold u64; omega
theorem bOr64 {a b : Nat} (ha : a < 18446744073709551616) (hb : b < 18446744073709551616) : IntKind.wrap .u64 (bOr .u64 (a : Int) (b : Int)) = ((a ||| b : Nat) : Int) := by
  have e : bOr .u64 (a : Int) (b : Int) = ((a ||| b : Nat) : Int) := by
    show (((BitVec.ofInt 64 a ||| BitVec.ofInt 64 b).toNat : Nat) : Int) = _
    rw [BitVec.toNat_or, BitVec.toNat_ofInt, BitVec.toNat_ofInt]
    have h64 : ((2 ^ 64 : Nat) : Int) = 18446744073709551616 := rfl
    rw [h64, show ((a : Int) % 18446744073709551616).toNat = a by omega, show ((b : Int) % 18446744073709551616).toNat = b by omega]
  rw [e]
  exact wrap_u64_nat (Nat.or_lt_two_pow (n := 64) ha hb)
theorem bXor32 {a b : Nat} (ha : a < 4294967296) (hb : b < 4294967296) : IntKind.wrap .u32 (bXor .u32 (a : Int) (b : Int)) = ((a ^^^ b : Nat) : Int) := by
  have e : bXor .u32 (a : Int) (b : Int) = ((a ^^^ b : Nat) : Int) := by
    show (((BitVec.ofInt 32 a ^^^ BitVec.ofInt 32 b).toNat : Nat) : Int) = _
    rw [BitVec.toNat_xor, BitVec.toNat_ofInt, BitVec.toNat_ofInt]
    have h32 : ((2 ^ 32 : Nat) : Int) = 4294967296 := rfl
    rw [h32, show ((a : Int) % 4294967296).toNat = a by omega, show ((b : Int) % 4294967296).toNat = b by omega]
  rw [e, IntKind.wrap_u32]
  have := Nat.xor_lt_two_pow (n := 32) ha hb
  omega
theorem bAnd15 (a : Nat) : IntKind.wrap .u32 (bAnd .u32 (a : Int) 15) = ((a % 16 : Nat) : Int) := by
  have e : bAnd .u32 (a : Int) 15 = ((a % 16 : Nat) : Int) := by
    show (((BitVec.ofInt 32 a &&& BitVec.ofInt 32 15).toNat : Nat) : Int) = _
    rw [BitVec.toNat_and, BitVec.toNat_ofInt, BitVec.toNat_ofInt, show ((15 : Int) % ((2 ^ 32 : Nat) : Int)).toNat = 2 ^ 4 - 1 from rfl, Nat.and_two_pow_sub_one_eq_mod]
    have h32 : ((2 ^ 32 : Nat) : Int) = 4294967296 := rfl
    rw [h32]
    omega
  rw [e, IntKind.wrap_u32]
  omega
theorem wrap_u32_nat {n : Nat} (h : n < 4294967296) : IntKind.wrap .u32 (n : Int) = (n : Int) := by rw [IntKind.wrap_u32]; omega
def bitS (x : Nat) : Nat := x / 2 ^^^ (if x % 2 = 1 then 3988292384 else 0)
def bitN : Nat → Nat → Nat
  | 0, x => x
  | k + 1, x => bitN k (bitS x)
def byteS (x : Nat) : Nat := bitN 8 x
def crcF : Nat → List Int → Nat
  | s, [] => s
  | s, b :: l => crcF (byteS (s ^^^ b.toNat)) l
def crcV (l : List Int) : Nat := crcF 4294967295 l ^^^ 4294967295
def nib (x : Nat) : Nat := [0, 498536548, 997073096, 651767980, 1994146192, 1802195444, 1303535960, 1342533948, 3988292384, 4027552580, 3604390888, 3412177804, 2607071920, 2262029012, 2685067896, 3183342108].getD (x % 16) 0 ^^^ x / 16
theorem bitS_xor (a b : Nat) : bitS (a ^^^ b) = bitS a ^^^ bitS b := by
  unfold bitS
  have h := @Nat.xor_mod_two_eq_one a b
  rw [Nat.xor_div_two]
  generalize 3988292384 = p
  have key : (if (a ^^^ b) % 2 = 1 then p else 0) = (if a % 2 = 1 then p else 0) ^^^ (if b % 2 = 1 then p else 0) := by
    by_cases ha : a % 2 = 1 <;> by_cases hb : b % 2 = 1 <;> simp [ha, hb, h, Nat.xor_self]
  rw [key]
  generalize (if a % 2 = 1 then p else 0) = u
  generalize (if b % 2 = 1 then p else 0) = v
  rw [Nat.xor_assoc, Nat.xor_assoc]
  congr 1
  rw [← Nat.xor_assoc, Nat.xor_comm (b / 2) u, Nat.xor_assoc]
theorem bitN_xor : ∀ (k a b : Nat), bitN k (a ^^^ b) = bitN k a ^^^ bitN k b
  | 0, a, b => rfl
  | k + 1, a, b => by rw [bitN, bitN, bitN, bitS_xor, bitN_xor k]
theorem bitN_add : ∀ (j k x : Nat), bitN (j + k) x = bitN k (bitN j x)
  | 0, k, x => by rw [Nat.zero_add]; rfl
  | j + 1, k, x => by rw [show j + 1 + k = (j + k) + 1 by omega, bitN, bitN_add j k, bitN]
theorem bitS_even (a : Nat) : bitS (2 * a) = a := by
  unfold bitS
  rw [if_neg (by omega), Nat.xor_zero]
  omega
theorem split16 (x : Nat) : x = 16 * (x / 16) ^^^ (x % 16) := by
  have h : x % 16 < 2 ^ 4 := by omega
  have e1 : (16 * (x / 16) ^^^ (x % 16)) / 2 ^ 4 = x / 2 ^ 4 := by
    rw [Nat.xor_div_two_pow, show 16 * (x / 16) / 2 ^ 4 = x / 16 by omega, show x % 16 / 2 ^ 4 = 0 by omega, Nat.xor_zero]
  have e2 : (16 * (x / 16) ^^^ (x % 16)) % 2 ^ 4 = x % 2 ^ 4 := by
    rw [Nat.xor_mod_two_pow, show 16 * (x / 16) % 2 ^ 4 = 0 by omega, Nat.zero_xor]
    omega
  omega
theorem nib_eq (x : Nat) : nib x = bitN 4 x := by
  have h4 : bitN 4 (16 * (x / 16)) = x / 16 := by
    rw [show 16 * (x / 16) = 2 * (2 * (2 * (2 * (x / 16)))) by omega]
    simp only [bitN, bitS_even]
  have hl : ∀ l, l < 16 → [0, 498536548, 997073096, 651767980, 1994146192, 1802195444, 1303535960, 1342533948, 3988292384, 4027552580, 3604390888, 3412177804, 2607071920, 2262029012, 2685067896, 3183342108].getD l 0 = bitN 4 l := by decide
  conv => rhs; rw [split16 x]
  rw [bitN_xor, h4, ← hl _ (Nat.mod_lt _ (by decide)), Nat.xor_comm]
  rfl
theorem bitS_lt {x : Nat} (h : x < 4294967296) : bitS x < 4294967296 := by
  unfold bitS
  refine Nat.xor_lt_two_pow (n := 32) (by omega) ?_
  split <;> decide
theorem bitN_lt : ∀ (k : Nat) {x : Nat}, x < 4294967296 → bitN k x < 4294967296
  | 0, x, h => h
  | k + 1, x, h => bitN_lt k (bitS_lt h)
theorem byteS_nib (x : Nat) : byteS x = nib (nib x) := by
  rw [nib_eq, nib_eq, ← bitN_add]
  rfl
theorem byteS_lt {x : Nat} (h : x < 4294967296) : byteS x < 4294967296 := bitN_lt 8 h
theorem xor_b_lt {s : Nat} {b : Int} (hs : s < 4294967296) (hb : b < 256) : s ^^^ b.toNat < 4294967296 := Nat.xor_lt_two_pow (n := 32) hs (by omega)
theorem crcF_lt : ∀ {l : List Int} {s : Nat}, s < 4294967296 → isB l → crcF s l < 4294967296
  | [], s, h, _ => h
  | b :: l, s, h, hl => by
    obtain ⟨h1, h2⟩ := isB_cons.1 hl
    show crcF (byteS (s ^^^ b.toNat)) l < 4294967296
    exact crcF_lt (byteS_lt (xor_b_lt h h1.2)) h2
theorem crcV_lt {l : List Int} (h : isB l) : crcV l < 4294967296 := Nat.xor_lt_two_pow (n := 32) (crcF_lt (by decide) h) (by decide)
end Go.Proofs
