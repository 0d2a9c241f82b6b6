/-
  What is enclosed; the small fixed examples of the chapter on enclosed numbers.
-/
import Derived.Test.YtbfhholefjngpaaFxRun
import Derived.Laws.Bits64
import Derived.Test.YtbfhholefjngpaaWE4
set_option linter.unusedSimpArgs false
set_option linter.unusedVariables false
set_option maxRecDepth 100000
namespace Go.Proofs
open Go Go.Fx Go.Mdlaw Go.Rootlaw Go.Cmplaw

/-- couplet/env.Encloses -/
def ir_env_Encloses : IR := (.seq (.ops false [⟨(some 3), (.box 36 (.tmp 0)), none⟩, ⟨(some 6), (.mv (.c (.bool false))), none⟩]) (.seq (.seq (.ops false [⟨(some 7), (.ld true 4 (.tmp 3)), none⟩, ⟨(some 8), (.call (.func 47) [(.tmp 7)]), none⟩, ⟨(some 9), (.un .not (.tmp 8)), none⟩, ⟨(some 10), (.mv (.tmp 9)), none⟩, ⟨(some 11), (.mv (.tmp 2)), (some (10, false))⟩, ⟨(some 12), (.bin .lss (.tmp 11) (.c (.int .i64 (1)))), (some (10, false))⟩, ⟨(some 13), (.pick (.tmp 10) (.c (.bool true)) (.tmp 12)), none⟩, ⟨(some 14), (.mv (.tmp 13)), none⟩, ⟨(some 15), (.mv (.tmp 1)), (some (14, false))⟩, ⟨(some 16), (.call (.func 26) [(.tmp 15)]), (some (14, false))⟩, ⟨(some 17), (.un .not (.tmp 16)), (some (14, false))⟩, ⟨(some 18), (.pick (.tmp 14) (.c (.bool true)) (.tmp 17)), none⟩, ⟨(some 19), (.mv (.tmp 18)), none⟩, ⟨(some 20), (.mv (.tmp 2)), (some (19, false))⟩, ⟨(some 21), (.call (.func 26) [(.tmp 20)]), (some (19, false))⟩, ⟨(some 22), (.un .not (.tmp 21)), (some (19, false))⟩, ⟨(some 23), (.pick (.tmp 19) (.c (.bool true)) (.tmp 22)), none⟩]) (.cond (.tmp 23) (.seq (.ops false [⟨(some 6), (.mv (.c (.bool false))), none⟩]) .ret) .skip)) (.seq (.ops false [⟨(some 24), (.fldA 1 (.tmp 3)), none⟩, ⟨(some 25), (.ld false 1 (.tmp 24)), none⟩, ⟨(some 26), (.mv (.tmp 2)), none⟩, ⟨(some 27), (.mv (.tmp 1)), none⟩, ⟨(some 28), (.call (.func 29) [(.tmp 25), (.tmp 26), (.tmp 27), (.c (.int .i64 (16777216)))]), none⟩, ⟨(some 29), (.bin .leq (.tmp 28) (.c (.int .i64 (0)))), none⟩, ⟨(some 30), (.mv (.tmp 29)), none⟩, ⟨(some 31), (.mv (.tmp 1)), (some (30, true))⟩, ⟨(some 32), (.fldA 2 (.tmp 3)), (some (30, true))⟩, ⟨(some 33), (.ld false 1 (.tmp 32)), (some (30, true))⟩, ⟨(some 34), (.mv (.tmp 2)), (some (30, true))⟩, ⟨(some 35), (.call (.func 29) [(.tmp 31), (.c (.int .i64 (16777216))), (.tmp 33), (.tmp 34)]), (some (30, true))⟩, ⟨(some 36), (.bin .leq (.tmp 35) (.c (.int .i64 (0)))), (some (30, true))⟩, ⟨(some 37), (.pick (.tmp 30) (.tmp 36) (.c (.bool false))), none⟩, ⟨(some 6), (.mv (.tmp 37)), none⟩]) .ret)))
theorem ok_env_Encloses : compCode Try.prog (Try.f46.body.getD .skip) [] = some (ir_env_Encloses, []) := by kernel_rfl
def live_env_Encloses : List (List Nat) := []

/-- couplet/coupletlaw03.awake -/
def ir_coupletlaw03_awake : IR := (.seq (.ops false [⟨(some 0), (.mv (.c (.bool false))), none⟩]) (.seq (.ops false [⟨(some 2), (.call (.func 35) [(.c (.int .i64 (16777216)))]), none⟩, ⟨(some 3), (.call (.func 35) [(.c (.int .i64 (50331648)))]), none⟩, ⟨(some 4), (.call (.func 49) [(.tmp 2), (.tmp 3)]), none⟩, ⟨(some 1), (.alloc 36 [(.int .i64 (0)), (.int .i64 (0)), (.int .i64 (0)), (.bool false)]), none⟩, ⟨none, (.st 4 (.tmp 1) (.tmp 4)), none⟩]) (.seq (.ops false [⟨(some 5), (.ld true 4 (.tmp 1)), none⟩, ⟨(some 6), (.build [(.int .i64 (0)), (.int .i64 (0)), (.int .i64 (0)), (.bool false)] [(0, (1, (.c (.int .i64 (5592405))))), (1, (1, (.c (.int .i64 (5592405))))), (2, (1, (.c (.int .i64 (5592406)))))]), none⟩, ⟨(some 7), (.eqAgg false [(.int .i64), (.int .i64), (.int .i64), .bool] (.tmp 5) (.tmp 6)), none⟩, ⟨(some 8), (.mv (.tmp 7)), none⟩, ⟨(some 9), (.ld true 4 (.tmp 1)), (some (8, true))⟩, ⟨(some 10), (.call (.func 46) [(.tmp 9), (.c (.int .i64 (1))), (.c (.int .i64 (3)))]), (some (8, true))⟩, ⟨(some 11), (.pick (.tmp 8) (.tmp 10) (.c (.bool false))), none⟩, ⟨(some 12), (.mv (.tmp 11)), none⟩, ⟨(some 13), (.ld true 4 (.tmp 1)), (some (12, true))⟩, ⟨(some 14), (.ld true 4 (.tmp 1)), (some (12, true))⟩, ⟨(some 15), (.call (.func 48) [(.tmp 13), (.tmp 14)]), (some (12, true))⟩, ⟨(some 16), (.pick (.tmp 12) (.tmp 15) (.c (.bool false))), none⟩, ⟨(some 17), (.mv (.tmp 16)), none⟩, ⟨(some 18), (.call (.func 36) []), (some (17, true))⟩, ⟨(some 19), (.fld false 3 1 (.tmp 18)), (some (17, true))⟩, ⟨(some 20), (.pick (.tmp 17) (.tmp 19) (.c (.bool false))), none⟩, ⟨(some 21), (.mv (.tmp 20)), none⟩, ⟨(some 22), (.ld true 4 (.tmp 1)), (some (21, true))⟩, ⟨(some 23), (.call (.func 47) [(.tmp 22)]), (some (21, true))⟩, ⟨(some 24), (.pick (.tmp 21) (.tmp 23) (.c (.bool false))), none⟩, ⟨(some 25), (.mv (.tmp 24)), none⟩, ⟨(some 26), (.ld true 4 (.tmp 1)), (some (25, true))⟩, ⟨(some 27), (.call (.func 38) [(.tmp 26)]), (some (25, true))⟩, ⟨(some 28), (.bin .eql (.tmp 27) (.c (.int .i64 (1)))), (some (25, true))⟩, ⟨(some 29), (.pick (.tmp 25) (.tmp 28) (.c (.bool false))), none⟩, ⟨(some 0), (.mv (.tmp 29)), none⟩]) .ret)))
theorem ok_coupletlaw03_awake : compCode Try.prog (Try.f42.body.getD .skip) [] = some (ir_coupletlaw03_awake, []) := by kernel_rfl
def live_coupletlaw03_awake : List (List Nat) := []


theorem cmp_le {X Y : Int} : decide (cmp X Y ≤ 0) = decide (X ≤ Y) := decide_eq_decide.mpr (by unfold cmp; split <;> (try split) <;> omega)

def enc (a : Nm) (n d : Int) : Bool := fine a && decide (1 ≤ d) && decide (okW n) && decide (okW d) && decide (a.lo * d ≤ n * 16777216) && decide (n * 16777216 ≤ a.hi * d)

theorem fine_okF {a : Nm} (h : fine a = true) : okF a.lo ∧ okF a.hi ∧ a.lo ≤ a.v ∧ a.v ≤ a.hi ∧ a.bad = false := by
  unfold fine at h
  simp only [Bool.and_eq_true, decide_eq_true_eq, Bool.not_eq_true'] at h
  exact ⟨h.1.1.1.2, h.1.1.2, h.1.2, h.2, h.1.1.1.1⟩

theorem fn_Encloses (G : Glob) (a : Nm) (n d : Int) (ha : i64N a) (hn : i64 n) (hd : i64 d) : FunEq Try.prog G 46 [a.pv, .int .i64 n, .int .i64 d] (.bool (enc a n d)) := by
  obtain ⟨rn, cn, hrn⟩ := fn_Right' G n
  obtain ⟨rd, cd, hrd⟩ := fn_Right' G d
  have cf := fn_Fine G a
  have k1 := fn_wide_Compare G a.lo d n 16777216 ha.2.1 hd hn (by unfold i64; omega)
  have k2 := fn_wide_Compare G n 16777216 a.hi d hn (by unfold i64; omega) ha.2.2 hd
  obtain ⟨r, hr⟩ : ∃ r, r = enc a n d := ⟨_, rfl⟩
  rw [← hr]
  refine fun_of_vc live_env_Encloses Try.func46 rfl (by kernel_rfl) ok_env_Encloses (by kernel_rfl) Try.ntmps46 (run_of ?_)
  simp only [run_seq, run_ops, run_opsNil, run_op0, run_opG, run_box, Ins.kind, IOp.apps, List.any_cons, List.any_nil, gAct, pev, Ins.calm, Ins.opds, sureL, evS, St.put, List.map, List.map_cons, List.length_cons, List.length_nil, List.replicate, List.cons_append, List.nil_append, List.getD_cons_zero, List.getD_cons_succ, List.set_cons_zero, List.set_cons_succ, SV.res, SV.strip, SV.sure, SV.cells, PV.cells, SV.scal, PV.scal, SV.ld, if_true, Bool.false_eq_true, if_false, true_and, Nat.reduceSub, Nat.zero_add, Nat.reduceAdd, cond_true, cond_false, List.all_cons, Bool.and_self, Bool.true_and, Nat.reduceLeDiff, List.take, List.drop, Nat.reduceBEq, Bool.or_false, Bool.or_self, Option.map_some, beq_self_eq_true, List.all, and_self, aggS, allP, ir_env_Encloses, Try.results46, Nm.pv]
  refine run_call cf _ rfl (by exact ⟨trivial, trivial⟩) rfl rfl rfl trivial trivial ?_
  simp only [run_opsNil, run_op0, run_opG, run_cond, run_pick, runP, gAct, pev, Ins.calm, Ins.opds, sureL, evS, St.put, List.append_nil, List.getD_cons_zero, List.getD_cons_succ, List.set_cons_zero, List.set_cons_succ, SV.res, SV.strip, SV.sure, binV, if_true, Bool.false_eq_true, if_false, SV.mix, true_and, and_true, implies_true, cond_false, Bool.and_self, Bool.and_true, Bool.true_and, fzL, List.foldl_nil, SV.ids, boxIds, List.flatMap_cons, List.flatMap_nil, PV.flat, imp_self, Bool.not_eq_true', and_self, Bool.cond_true_left, Bool.not_not]
  refine ⟨by simp, ?_⟩
  refine run_callG (fun _ => cn) _ rfl (by exact fun h => ⟨trivial, h⟩) rfl rfl rfl trivial trivial ?_
  simp only [run_opsNil, run_op0, run_opG, run_cond, run_pick, runP, gAct, pev, Ins.calm, Ins.opds, sureL, evS, St.put, List.append_nil, List.getD_cons_zero, List.getD_cons_succ, List.set_cons_zero, List.set_cons_succ, SV.res, SV.strip, SV.sure, if_true, Bool.false_eq_true, if_false, SV.mix, true_and, and_true, implies_true, cond_false, Bool.and_self, Bool.and_true, Bool.true_and, fzL, List.foldl_nil, SV.ids, boxIds, List.flatMap_cons, List.flatMap_nil, PV.flat, imp_self, Bool.not_eq_true', Bool.and_eq_true, and_self, Bool.cond_true_left, Bool.not_not, Bool.not_or]
  refine ⟨by simp, ?_⟩
  refine run_callG (fun _ => cd) _ rfl (by exact fun h => ⟨trivial, h⟩) rfl rfl rfl trivial trivial ?_
  simp only [run_opsNil, run_op0, run_opG, run_cond, run_pick, runP, gAct, pev, Ins.calm, Ins.opds, sureL, evS, St.put, List.append_nil, List.getD_cons_zero, List.getD_cons_succ, List.set_cons_zero, List.set_cons_succ, SV.res, SV.strip, SV.sure, if_true, Bool.false_eq_true, if_false, SV.mix, true_and, and_true, implies_true, cond_false, Bool.and_true, Bool.true_and, fzL, List.foldl_nil, SV.ids, boxIds, List.flatMap_cons, List.flatMap_nil, PV.flat, imp_self, Bool.not_eq_true', Bool.and_eq_true, Bool.cond_true_left, Bool.not_not, Bool.not_or]
  refine ⟨by simp [and_assoc], ?_⟩
  have hcond : (!fine a || decide (d < 1) || !rn || !rd) = true ↔ ¬ (fine a = true ∧ 1 ≤ d ∧ okW n ∧ okW d) := by
    rw [← hrn, ← hrd]
    cases fine a <;> cases rn <;> cases rd <;> simp <;> omega
  refine runC_of (fun h => ?_) (fun h => ?_)
  · have hno := hcond.mp h
    have hr2 : r = false := by
      rw [hr]; unfold enc
      rw [Bool.eq_false_iff]
      intro x
      simp only [Bool.and_eq_true, decide_eq_true_eq] at x
      exact hno ⟨x.1.1.1.1.1, x.1.1.1.1.2, x.1.1.1.2, x.1.1.2⟩
    rw [hr2]
    simp only [run_seq, run_ops, run_opsNil, run_ret, run_op0, Ins.kind, IOp.apps, List.any_cons, List.any_nil, pev, Ins.calm, Ins.opds, sureL, evS, St.put, List.set_cons_zero, List.set_cons_succ, SV.strip, SV.sure, if_true, true_and, cond_false, Bool.true_and, Nat.reduceBEq, Bool.or_self]
    simp only [List.append_nil, List.getD_cons_zero, List.getD_cons_succ, SV.res, Bool.and_self, fzL, List.foldl_nil, SV.ids, List.flatMap_cons, List.flatMap_nil, SV.pvS, and_self, resK, resSV, oneSV]
  · have hyes : fine a = true ∧ 1 ≤ d ∧ okW n ∧ okW d := Decidable.byContradiction fun hn => by rw [hcond.mpr hn] at h; cases h
    obtain ⟨f1, f2, f3, f4⟩ := hyes
    have hf := fine_okF f1
    have hu : okW 16777216 := by decide
    have hlo : okW a.lo := by have := hf.1; unfold okF at this; unfold okW; omega
    have hhi : okW a.hi := by have := hf.2.1; unfold okF at this; unfold okW; omega
    rw [if_pos ⟨hlo, f4, f3, hu⟩] at k1
    rw [if_pos ⟨f3, hu, hhi, f4⟩] at k2
    have hr2 : r = (decide (cmp (a.lo * d) (n * 16777216) ≤ 0) && decide (cmp (n * 16777216) (a.hi * d) ≤ 0)) := by
      rw [hr, cmp_le, cmp_le]; unfold enc
      rw [f1, decide_eq_true f2, decide_eq_true f3, decide_eq_true f4]
      simp
    rw [hr2]
    simp only [run_skip, run_seq, run_ops, run_op0, run_opG, Ins.kind, IOp.apps, List.any_cons, List.any_nil, gAct, pev, Ins.calm, Ins.opds, sureL, evS, St.put, List.length_cons, List.length_nil, List.getD_cons_zero, List.getD_cons_succ, List.set_cons_zero, List.set_cons_succ, SV.res, SV.strip, SV.sure, SV.ld, if_true, Bool.false_eq_true, if_false, true_and, Nat.zero_add, Nat.reduceAdd, cond_false, Bool.and_self, Bool.true_and, Nat.reduceLeDiff, List.take, List.drop, Nat.reduceBEq, Bool.or_self, Option.map_some, and_self, aggS, allP]
    refine run_call k1 _ rfl (by exact ⟨trivial, trivial, trivial, trivial, trivial⟩) rfl rfl rfl trivial trivial ?_
    simp only [run_opsNil, run_ret, run_op0, run_opG, run_pick, runP, gAct, pev, Ins.calm, Ins.opds, sureL, evS, St.put, List.length_cons, List.length_nil, List.append_nil, List.getD_cons_zero, List.getD_cons_succ, List.set_cons_zero, List.set_cons_succ, SV.res, SV.strip, SV.sure, SV.ld, binV, if_true, Bool.false_eq_true, if_false, SV.mix, true_and, and_true, Nat.zero_add, Nat.reduceAdd, implies_true, cond_true, Bool.and_self, Bool.and_true, Bool.true_and, Nat.reduceLeDiff, List.take, List.drop, Option.map_some, fzL, List.foldl_nil, SV.ids, boxIds, List.flatMap_cons, List.flatMap_nil, PV.flat, imp_self, and_self, aggS, allP]
    refine run_callG (fun _ => k2) _ rfl (by exact fun h => ⟨trivial, h, trivial, h, h⟩) rfl rfl rfl trivial trivial ?_
    simp only [run_opsNil, run_ret, run_op0, run_opG, run_pick, runP, gAct, pev, Ins.calm, Ins.opds, sureL, evS, St.put, List.append_nil, List.getD_cons_zero, List.getD_cons_succ, List.set_cons_zero, List.set_cons_succ, SV.res, SV.strip, SV.sure, binV, if_true, Bool.false_eq_true, if_false, SV.mix, true_and, and_true, implies_true, cond_true, Bool.and_self, Bool.and_true, Bool.true_and, fzL, List.foldl_nil, SV.ids, boxIds, List.flatMap_cons, List.flatMap_nil, PV.flat, imp_self, and_self, Bool.cond_false_right]
    simp only [List.append_nil, List.getD_cons_zero, List.getD_cons_succ, SV.res, Bool.and_self, fzL, List.foldl_nil, SV.ids, List.flatMap_cons, List.flatMap_nil, SV.pvS, and_self, resK, resSV, oneSV]

theorem fn_awake3 (G : Glob) : FunEq Try.prog G 42 [] (.bool true) := by
  have c1 := fn_Point G 16777216
  have c2 := fn_Point G 50331648
  have c3 := fn_Num_Div G (point 16777216) (point 50331648) (point_i64 _) (point_i64 _)
  have e3 : nDiv (point 16777216) (point 50331648) = ⟨5592405, 5592405, 5592406, false⟩ := by decide +kernel
  rw [e3] at c3
  have hx : i64N ⟨5592405, 5592405, 5592406, false⟩ := by unfold i64N i64; dsimp only; omega
  have c4 := fn_Encloses G ⟨5592405, 5592405, 5592406, false⟩ 1 3 hx (by unfold i64; omega) (by unfold i64; omega)
  have c5 := fn_Meet G ⟨5592405, 5592405, 5592406, false⟩ ⟨5592405, 5592405, 5592406, false⟩
  have c6 := fn_Wrong G
  have c7 := fn_Fine G ⟨5592405, 5592405, 5592406, false⟩
  have c8 := fn_Num_Sign G ⟨5592405, 5592405, 5592406, false⟩
  rw [show enc ⟨5592405, 5592405, 5592406, false⟩ 1 3 = true by decide +kernel] at c4
  rw [show meet ⟨5592405, 5592405, 5592406, false⟩ ⟨5592405, 5592405, 5592406, false⟩ = true by decide +kernel] at c5
  rw [show fine ⟨5592405, 5592405, 5592406, false⟩ = true by decide +kernel] at c7
  rw [show nSign ⟨5592405, 5592405, 5592406, false⟩ = 1 by decide +kernel] at c8
  refine fun_of_vc live_coupletlaw03_awake Try.func42 rfl (by kernel_rfl) ok_coupletlaw03_awake (by kernel_rfl) Try.ntmps42 (run_of ?_)
  simp only [run_seq, run_ops, run_opsNil, run_ret, run_op0, run_opG, run_pick, runP, run_alloc, run_st, Ins.kind, IOp.apps, List.any_cons, List.any_nil, gAct, pev, Ins.calm, Ins.opds, sureL, evS, St.put, List.map, List.map_cons, List.length_cons, List.length_nil, List.replicate, List.cons_append, List.nil_append, List.getD_cons_zero, List.getD_cons_succ, List.set_cons_zero, List.set_cons_succ, SV.res, SV.strip, SV.sure, SV.cells, PV.cells, SV.scal, PV.scal, SV.ld, if_true, Bool.false_eq_true, if_false, SV.mix, true_and, and_true, Nat.reduceSub, Nat.zero_add, Nat.reduceAdd, implies_true, cond_true, cond_false, List.all_cons, Bool.and_self, Bool.and_true, Bool.true_and, Nat.reduceLeDiff, List.take, List.drop, Nat.reduceBEq, Bool.or_false, Bool.or_true, Bool.or_self, Option.map_some, Option.map_none, SV.pvS, SV.pvSL, spliceL, beq_self_eq_true, Nat.reduceEqDiff, List.all, imp_self, Bool.and_eq_true, and_self, eqCells, fillL, aggS, allP, ir_coupletlaw03_awake, Try.results42]
  refine run_call c1 _ rfl (by exact ⟨trivial, trivial⟩) rfl rfl rfl trivial trivial ?_
  simp only [run_seq, run_ops, run_opsNil, run_ret, run_op0, run_opG, run_pick, runP, run_alloc, run_st, Ins.kind, IOp.apps, List.any_cons, List.any_nil, gAct, pev, Ins.calm, Ins.opds, sureL, evS, St.put, List.map, List.map_cons, List.length_cons, List.length_nil, List.cons_append, List.nil_append, List.append_nil, List.getD_cons_zero, List.getD_cons_succ, List.set_cons_zero, List.set_cons_succ, SV.res, SV.strip, SV.sure, SV.cells, PV.cells, SV.scal, PV.scal, SV.ld, PV.ld, if_true, Bool.false_eq_true, if_false, SV.mix, true_and, and_true, Nat.zero_add, Nat.reduceAdd, implies_true, cond_false, List.all_cons, Bool.and_self, Bool.and_true, Bool.true_and, Nat.reduceLeDiff, List.take, List.drop, Nat.reduceBEq, Bool.or_self, Option.map_some, fzL, List.foldl_nil, SV.ids, boxIds, List.flatMap_cons, List.flatMap_nil, SV.pvS, spliceL, Nat.reduceEqDiff, List.all, and_self, List.getD_nil, fillL, aggS, allP]
  refine run_call c2 _ rfl (by exact ⟨trivial, trivial⟩) rfl rfl rfl trivial trivial ?_
  simp only [run_seq, run_ops, run_opsNil, run_ret, run_op0, run_opG, run_pick, runP, run_alloc, run_st, Ins.kind, IOp.apps, List.any_cons, List.any_nil, gAct, pev, Ins.calm, Ins.opds, sureL, evS, St.put, List.map, List.map_cons, List.length_cons, List.length_nil, List.cons_append, List.nil_append, List.append_nil, List.getD_cons_zero, List.getD_cons_succ, List.set_cons_zero, List.set_cons_succ, SV.res, SV.strip, SV.sure, SV.cells, PV.cells, SV.scal, PV.scal, SV.ld, PV.ld, if_true, Bool.false_eq_true, if_false, SV.mix, true_and, and_true, Nat.zero_add, Nat.reduceAdd, implies_true, cond_false, List.all_cons, Bool.and_self, Bool.and_true, Bool.true_and, Nat.reduceLeDiff, List.take, List.drop, Nat.reduceBEq, Bool.or_self, Option.map_some, fzL, List.foldl_nil, SV.ids, boxIds, List.flatMap_cons, List.flatMap_nil, SV.pvS, spliceL, Nat.reduceEqDiff, List.all, and_self, fillL, aggS, allP]
  refine run_call c3 _ rfl (by exact ⟨trivial, trivial, trivial⟩) rfl rfl rfl trivial trivial ?_
  simp only [run_seq, run_ops, run_opsNil, run_ret, run_op0, run_opG, run_pick, runP, run_alloc, run_st, Ins.kind, IOp.apps, List.any_cons, List.any_nil, gAct, pev, Ins.calm, Ins.opds, sureL, evS, St.put, List.map, List.map_cons, List.length_cons, List.length_nil, List.cons_append, List.nil_append, List.append_nil, List.getD_cons_zero, List.getD_cons_succ, List.set_cons_zero, List.set_cons_succ, SV.res, SV.strip, SV.sure, SV.cells, PV.cells, SV.scal, PV.scal, SV.ld, if_true, Bool.false_eq_true, if_false, SV.mix, true_and, and_true, Nat.zero_add, Nat.reduceAdd, implies_true, cond_true, cond_false, List.all_cons, Bool.and_self, Bool.and_true, Bool.true_and, Nat.reduceLeDiff, List.take, List.drop, Nat.reduceBEq, Bool.or_self, Option.map_some, fzL, List.foldl_nil, SV.ids, boxIds, List.flatMap_cons, List.flatMap_nil, SV.pvS, PV.flat, PV.flatL, spliceL, beq_self_eq_true, Bool.not_true, true_implies, List.all, imp_self, Bool.and_eq_true, and_self, List.getD_nil, eqCells, fillL, aggS, allP, Nm.pv]
  refine run_callG (fun _ => c4) _ rfl (by exact fun h => ⟨trivial, h, trivial, trivial⟩) rfl rfl rfl trivial trivial ?_
  simp only [run_op0, run_opG, run_pick, runP, gAct, pev, Ins.calm, Ins.opds, sureL, evS, St.put, List.length_cons, List.length_nil, List.append_nil, List.getD_cons_zero, List.getD_cons_succ, List.set_cons_zero, List.set_cons_succ, SV.res, SV.strip, SV.sure, SV.ld, if_true, Bool.false_eq_true, if_false, SV.mix, true_and, Nat.zero_add, Nat.reduceAdd, implies_true, cond_true, Bool.and_self, Bool.true_and, Nat.reduceLeDiff, List.take, List.drop, Option.map_some, fzL, List.foldl_nil, SV.ids, boxIds, List.flatMap_cons, List.flatMap_nil, PV.flat, Bool.not_true, true_implies, and_self, aggS, allP]
  refine run_callG (fun _ => c5) _ rfl (by exact fun h => ⟨trivial, h, h⟩) rfl rfl rfl trivial trivial ?_
  simp only [run_op0, run_opG, run_pick, runP, gAct, pev, Ins.calm, Ins.opds, sureL, evS, St.put, List.append_nil, List.getD_cons_zero, List.getD_cons_succ, List.set_cons_zero, List.set_cons_succ, SV.res, SV.strip, SV.sure, if_true, Bool.false_eq_true, if_false, SV.mix, true_and, implies_true, cond_true, Bool.and_self, Bool.true_and, fzL, List.foldl_nil, SV.ids, boxIds, List.flatMap_cons, List.flatMap_nil, PV.flat, Bool.not_true, true_implies, and_self]
  refine run_callG (fun _ => c6) _ rfl (by exact fun h => trivial) rfl rfl rfl trivial trivial ?_
  simp only [run_op0, run_opG, run_pick, runP, gAct, pev, Ins.calm, Ins.opds, sureL, evS, St.put, List.length_cons, List.length_nil, List.append_nil, List.getD_cons_zero, List.getD_cons_succ, List.set_cons_zero, List.set_cons_succ, SV.res, SV.strip, SV.sure, SV.ld, if_true, Bool.false_eq_true, if_false, SV.mix, true_and, Nat.zero_add, Nat.reduceAdd, implies_true, cond_true, Bool.and_self, Bool.true_and, Nat.reduceLeDiff, List.take, List.drop, Option.map_some, fzL, List.foldl_nil, SV.ids, boxIds, List.flatMap_cons, List.flatMap_nil, PV.flat, PV.flatL, Bool.not_true, true_implies, and_self, aggS, allP, Nm.pv, wrong]
  refine run_callG (fun _ => c7) _ rfl (by exact fun h => ⟨trivial, h⟩) rfl rfl rfl trivial trivial ?_
  simp only [run_opsNil, run_ret, run_op0, run_opG, run_pick, runP, gAct, pev, Ins.calm, Ins.opds, sureL, evS, St.put, List.length_cons, List.length_nil, List.append_nil, List.getD_cons_zero, List.getD_cons_succ, List.set_cons_zero, List.set_cons_succ, SV.res, SV.strip, SV.sure, SV.ld, if_true, Bool.false_eq_true, if_false, SV.mix, true_and, Nat.zero_add, Nat.reduceAdd, implies_true, cond_true, Bool.and_self, Bool.true_and, Nat.reduceLeDiff, List.take, List.drop, Option.map_some, fzL, List.foldl_nil, SV.ids, boxIds, List.flatMap_cons, List.flatMap_nil, PV.flat, Bool.not_true, true_implies, and_self, aggS, allP]
  refine run_callG (fun _ => c8) _ rfl (by exact fun h => ⟨trivial, h⟩) rfl rfl rfl trivial trivial ?_
  simp only [run_opsNil, run_ret, run_op0, run_opG, run_pick, runP, gAct, pev, Ins.calm, Ins.opds, sureL, evS, St.put, List.append_nil, List.getD_cons_zero, List.getD_cons_succ, List.set_cons_zero, List.set_cons_succ, SV.res, SV.strip, SV.sure, binV, if_true, Bool.false_eq_true, if_false, SV.mix, true_and, implies_true, cond_true, Bool.and_self, Bool.true_and, fzL, List.foldl_nil, SV.ids, boxIds, List.flatMap_cons, List.flatMap_nil, PV.flat, beq_self_eq_true, Bool.not_true, and_self]
  simp only [List.append_nil, List.getD_cons_zero, SV.res, Bool.and_self, fzL, List.foldl_nil, SV.ids, List.flatMap_cons, List.flatMap_nil, SV.pvS, and_self, resK, resSV, oneSV]
end Go.Proofs
