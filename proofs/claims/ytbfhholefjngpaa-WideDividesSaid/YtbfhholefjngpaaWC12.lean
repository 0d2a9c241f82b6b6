/-
  The law on quotients: its contract.
-/
import Derived.Test.YtbfhholefjngpaaFxRun
import Derived.Laws.Bits64
import Derived.Test.YtbfhholefjngpaaWAw
import Derived.Test.YtbfhholefjngpaaWC10
set_option linter.unusedSimpArgs false
set_option linter.unusedVariables false
set_option maxRecDepth 100000
namespace Go.Proofs
open Go Go.Fx Go.Mdlaw Go.Cmplaw Go.Rootlaw

/-- couplet/coupletlaw01.WideDivides -/
def ir_coupletlaw01_WideDivides : IR := (.seq (.ops false [⟨(some 8), (.mv (.c (.bool false))), none⟩]) (.seq (.ops false [⟨(some 14), (.mv (.tmp 0)), none⟩, ⟨(some 15), (.mv (.tmp 1)), none⟩, ⟨(some 16), (.mv (.tmp 2)), none⟩, ⟨(some 17), (.mv (.tmp 3)), none⟩, ⟨(some 18), (.call (.func 24) [(.tmp 14), (.tmp 15), (.tmp 16), (.tmp 17)]), none⟩, ⟨(some 13), (.mv (.tmp 18)), none⟩, ⟨(some 19), (.ext (.tmp 13) 0), none⟩, ⟨(some 20), (.ext (.tmp 13) 1), none⟩, ⟨(some 9), (.mv (.tmp 19)), none⟩, ⟨(some 10), (.mv (.tmp 20)), none⟩]) (.seq (.ops false [⟨(some 22), (.mv (.tmp 0)), none⟩, ⟨(some 23), (.mv (.tmp 1)), none⟩, ⟨(some 24), (.mv (.tmp 2)), none⟩, ⟨(some 25), (.mv (.tmp 3)), none⟩, ⟨(some 26), (.call (.func 25) [(.tmp 22), (.tmp 23), (.tmp 24), (.tmp 25)]), none⟩, ⟨(some 21), (.mv (.tmp 26)), none⟩, ⟨(some 27), (.ext (.tmp 21) 0), none⟩, ⟨(some 28), (.ext (.tmp 21) 1), none⟩, ⟨(some 11), (.mv (.tmp 27)), none⟩, ⟨(some 12), (.mv (.tmp 28)), none⟩]) (.seq (.ops false [⟨(some 29), (.mv (.tmp 9)), none⟩, ⟨(some 30), (.mv (.tmp 11)), none⟩, ⟨(some 31), (.bin .eql (.tmp 29) (.tmp 30)), none⟩, ⟨(some 32), (.mv (.tmp 31)), none⟩, ⟨(some 33), (.mv (.tmp 10)), (some (32, true))⟩, ⟨(some 34), (.mv (.tmp 12)), (some (32, true))⟩, ⟨(some 35), (.binB false (.tmp 33) (.tmp 34)), (some (32, true))⟩, ⟨(some 36), (.pick (.tmp 32) (.tmp 35) (.c (.bool false))), none⟩, ⟨(some 37), (.mv (.tmp 36)), none⟩, ⟨(some 38), (.mv (.tmp 0)), (some (37, true))⟩, ⟨(some 39), (.call (.func 26) [(.tmp 38)]), (some (37, true))⟩, ⟨(some 40), (.mv (.tmp 0)), (some (37, true))⟩, ⟨(some 41), (.call (.func 27) [(.tmp 40)]), (some (37, true))⟩, ⟨(some 42), (.binB false (.tmp 39) (.tmp 41)), (some (37, true))⟩, ⟨(some 43), (.pick (.tmp 37) (.tmp 42) (.c (.bool false))), none⟩, ⟨(some 44), (.mv (.tmp 43)), none⟩, ⟨(some 45), (.call (.func 28) []), (some (44, true))⟩, ⟨(some 46), (.pick (.tmp 44) (.tmp 45) (.c (.bool false))), none⟩, ⟨(some 8), (.mv (.tmp 46)), none⟩]) .ret))))
theorem ok_coupletlaw01_WideDivides : compCode Try.prog (Try.f3.body.getD .skip) [] = some (ir_coupletlaw01_WideDivides, []) := by kernel_rfl
def live_coupletlaw01_WideDivides : List (List Nat) := []


theorem fn_WideDivides (G : Glob) (a b c m : Int) (ha : i64 a) (hb : i64 b) (hc : i64 c) (hm : i64 m) : FunEq Try.prog G 3 [.int .i64 a, .int .i64 b, .int .i64 c, .int .i64 m] (.bool true) := by
  obtain ⟨ra, ca, hra⟩ := fn_ref_Right G a
  obtain ⟨rb, cb, hrb⟩ := fn_Right' G a
  have hr : rb = ra := by rw [Bool.eq_iff_iff, hra, hrb]
  subst hr
  have c1 := fn_wide_MulDiv G a b c m ha hb hc hm
  have c2 := fn_ref_MulDiv G a b c m
  have cw := fn_awake G
  generalize md a b c m = x at *
  obtain ⟨x, is⟩ := x
  refine fun_of_vc live_coupletlaw01_WideDivides Try.func3 rfl (by kernel_rfl) ok_coupletlaw01_WideDivides (by kernel_rfl) Try.ntmps3 (run_of ?_)
  simp only [run_seq, run_ops, run_opsNil, run_op0, run_opG, Ins.kind, IOp.apps, List.any_cons, List.any_nil, gAct, pev, Ins.calm, Ins.opds, sureL, evS, St.put, List.map, List.length_cons, List.length_nil, List.replicate, List.cons_append, List.nil_append, List.getD_cons_zero, List.getD_cons_succ, List.set_cons_zero, List.set_cons_succ, SV.res, SV.strip, SV.sure, if_true, Bool.false_eq_true, if_false, true_and, Nat.reduceSub, Nat.zero_add, Nat.reduceAdd, cond_false, Bool.and_self, Bool.true_and, Nat.reduceBEq, Bool.or_self, and_self, ir_coupletlaw01_WideDivides, Try.results3]
  refine run_call c1 _ rfl (by exact ⟨trivial, trivial, trivial, trivial, trivial⟩) rfl rfl rfl trivial trivial ?_
  simp only [run_seq, run_ops, run_opsNil, run_op0, run_opG, Ins.kind, IOp.apps, List.any_cons, List.any_nil, gAct, pev, Ins.calm, Ins.opds, sureL, evS, St.put, List.length_cons, List.length_nil, List.nil_append, List.append_nil, List.getD_cons_zero, List.getD_cons_succ, List.set_cons_zero, List.set_cons_succ, SV.res, SV.strip, SV.sure, if_true, Bool.false_eq_true, if_false, true_and, Nat.zero_add, Nat.reduceAdd, cond_false, Bool.and_self, Bool.true_and, Nat.reduceLT, Nat.reduceBEq, Bool.or_self, fzL, List.foldl_nil, SV.ids, boxIds, List.flatMap_cons, List.flatMap_nil, PV.flat, PV.flatL, and_self, List.getD_nil]
  refine run_call c2 _ rfl (by exact ⟨trivial, trivial, trivial, trivial, trivial⟩) rfl rfl rfl trivial trivial ?_
  simp only [run_seq, run_ops, run_opsNil, run_op0, run_opG, run_pick, runP, Ins.kind, IOp.apps, List.any_cons, List.any_nil, gAct, pev, Ins.calm, Ins.opds, sureL, evS, St.put, List.length_cons, List.length_nil, List.nil_append, List.append_nil, List.getD_cons_zero, List.getD_cons_succ, List.set_cons_zero, List.set_cons_succ, SV.res, SV.strip, SV.sure, binV, if_true, Bool.false_eq_true, if_false, SV.mix, true_and, Nat.zero_add, Nat.reduceAdd, implies_true, cond_true, cond_false, Bool.and_self, Bool.true_and, Nat.reduceLT, Nat.reduceBEq, Bool.or_self, fzL, List.foldl_nil, SV.ids, boxIds, List.flatMap_cons, List.flatMap_nil, PV.flat, PV.flatL, beq_self_eq_true, Bool.not_true, true_implies, and_self, List.getD_nil]
  refine run_callG (fun _ => cb) _ rfl (by exact fun h => ⟨trivial, h⟩) rfl rfl rfl trivial trivial ?_
  simp only [run_op0, run_opG, run_pick, runP, gAct, pev, Ins.calm, Ins.opds, sureL, evS, St.put, List.nil_append, List.append_nil, List.getD_cons_zero, List.getD_cons_succ, List.set_cons_zero, List.set_cons_succ, SV.res, SV.strip, SV.sure, if_true, Bool.false_eq_true, if_false, SV.mix, true_and, implies_true, cond_true, Bool.and_self, Bool.true_and, fzL, List.foldl_nil, SV.ids, boxIds, List.flatMap_cons, List.flatMap_nil, PV.flat, Bool.not_true, true_implies, and_self, List.getD_nil]
  refine run_callG (fun _ => ca) _ rfl (by exact fun h => ⟨trivial, h⟩) rfl rfl rfl trivial trivial ?_
  simp only [run_opsNil, run_ret, run_op0, run_opG, run_pick, runP, gAct, pev, Ins.calm, Ins.opds, sureL, evS, St.put, List.nil_append, List.append_nil, List.getD_cons_zero, List.getD_cons_succ, List.set_cons_zero, List.set_cons_succ, SV.res, SV.strip, SV.sure, if_true, Bool.false_eq_true, if_false, SV.mix, true_and, implies_true, cond_true, Bool.and_self, Bool.true_and, fzL, List.foldl_nil, SV.ids, boxIds, List.flatMap_cons, List.flatMap_nil, PV.flat, beq_self_eq_true, Bool.not_true, true_implies, and_self, List.getD_nil]
  refine run_callG (fun _ => cw) _ rfl (by exact fun h => trivial) rfl rfl rfl trivial trivial ?_
  simp only [run_opsNil, run_ret, run_op0, run_pick, runP, pev, Ins.calm, Ins.opds, sureL, evS, St.put, List.nil_append, List.append_nil, List.getD_cons_zero, List.getD_cons_succ, List.set_cons_zero, List.set_cons_succ, SV.res, SV.strip, SV.sure, if_true, Bool.false_eq_true, if_false, SV.mix, true_and, implies_true, cond_true, Bool.true_and, fzL, List.foldl_nil, SV.ids, boxIds, List.flatMap_cons, List.flatMap_nil, PV.flat, List.getD_nil]
  simp only [List.append_nil, List.getD_cons_zero, List.getD_cons_succ, SV.res, Bool.and_self, fzL, List.foldl_nil, SV.ids, List.flatMap_cons, List.flatMap_nil, SV.pvS, and_self, resK, resSV, oneSV]
end Go.Proofs
