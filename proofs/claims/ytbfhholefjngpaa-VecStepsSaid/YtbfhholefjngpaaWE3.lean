/-
  What is told of enclosed numbers, by what is told of their bounds.
-/
import Derived.Test.YtbfhholefjngpaaFxCut
import Derived.Laws.Bits64
import Derived.Test.YtbfhholefjngpaaWE2
set_option linter.unusedSimpArgs false
set_option linter.unusedVariables false
set_option maxRecDepth 100000
namespace Go.Proofs
open Go Go.Fx Go.Mdlaw Go.Rootlaw
def ir_env_made : IR := (.seq (.ops false [⟨(some 4), (.box 36 (.tmp 0)), none⟩, ⟨(some 5), (.box 36 (.tmp 1)), none⟩, ⟨(some 8), (.alloc 36 [(.int .i64 (0)), (.int .i64 (0)), (.int .i64 (0)), (.bool false)]), none⟩]) (.seq (.ops false [⟨(some 20), (.mv (.tmp 2)), none⟩, ⟨(some 21), (.fldA 0 (.tmp 4)), none⟩, ⟨(some 22), (.ld false 1 (.tmp 21)), none⟩, ⟨(some 23), (.fldA 0 (.tmp 5)), none⟩, ⟨(some 24), (.ld false 1 (.tmp 23)), none⟩, ⟨(some 25), (.call (.tmp 20) [(.tmp 22), (.tmp 24), (.c (.int .i64 (0)))]), none⟩, ⟨(some 19), (.mv (.tmp 25)), none⟩, ⟨(some 26), (.ext (.tmp 19) 0), none⟩, ⟨(some 27), (.ext (.tmp 19) 1), none⟩, ⟨(some 9), (.mv (.tmp 26)), none⟩, ⟨(some 10), (.mv (.tmp 27)), none⟩]) (.seq (.ops false [⟨(some 11), (.mv (.c (.isl true true .i64 []))), none⟩, ⟨(some 12), (.mv (.c (.isl true true .i64 []))), none⟩]) (.seq (.seq (.ops false [⟨(some 28), (.mv (.tmp 3)), none⟩, ⟨(some 29), (.len (.tmp 28)), none⟩, ⟨(some 30), (.mv (.c (.int .i64 (0)))), none⟩]) (.block 0 (.loop [2, 4, 5, 8, 9, 10, 11, 12, 28, 29, 30] (.seq (.ops false [⟨(some 31), (.bin .lss (.tmp 30) (.tmp 29)), none⟩]) (.seq (.cond (.tmp 31) .skip (.exit 0)) (.seq (.block 1 (.seq (.ops false [⟨(some 32), (.ixA 2 (.tmp 28) (.tmp 30)), none⟩, ⟨(some 33), (.ld true 2 (.tmp 32)), none⟩, ⟨(some 14), (.alloc 91 [(.int .i64 (0)), (.int .i64 (0))]), none⟩, ⟨none, (.st 2 (.tmp 14) (.tmp 33)), none⟩]) (.seq (.ops false [⟨(some 35), (.mv (.tmp 2)), none⟩, ⟨(some 36), (.ixArr 1 2 (.tmp 14) (.c (.int .i64 (0)))), none⟩, ⟨(some 37), (.ld false 1 (.tmp 36)), none⟩, ⟨(some 38), (.ixArr 1 2 (.tmp 14) (.c (.int .i64 (1)))), none⟩, ⟨(some 39), (.ld false 1 (.tmp 38)), none⟩, ⟨(some 40), (.call (.tmp 35) [(.tmp 37), (.tmp 39), (.c (.int .i64 (1)))]), none⟩, ⟨(some 34), (.mv (.tmp 40)), none⟩, ⟨(some 41), (.ext (.tmp 34) 0), none⟩, ⟨(some 42), (.ext (.tmp 34) 1), none⟩, ⟨(some 15), (.mv (.tmp 41)), none⟩, ⟨(some 16), (.mv (.tmp 42)), none⟩]) (.seq (.ops false [⟨(some 44), (.mv (.tmp 2)), none⟩, ⟨(some 45), (.ixArr 1 2 (.tmp 14) (.c (.int .i64 (0)))), none⟩, ⟨(some 46), (.ld false 1 (.tmp 45)), none⟩, ⟨(some 47), (.ixArr 1 2 (.tmp 14) (.c (.int .i64 (1)))), none⟩, ⟨(some 48), (.ld false 1 (.tmp 47)), none⟩, ⟨(some 49), (.call (.tmp 44) [(.tmp 46), (.tmp 48), (.c (.int .i64 (2)))]), none⟩, ⟨(some 43), (.mv (.tmp 49)), none⟩, ⟨(some 50), (.ext (.tmp 43) 0), none⟩, ⟨(some 51), (.ext (.tmp 43) 1), none⟩, ⟨(some 17), (.mv (.tmp 50)), none⟩, ⟨(some 18), (.mv (.tmp 51)), none⟩]) (.seq (.ops false [⟨(some 52), (.mv (.tmp 10)), none⟩, ⟨(some 53), (.mv (.tmp 52)), none⟩, ⟨(some 54), (.mv (.tmp 16)), (some (53, true))⟩, ⟨(some 55), (.pick (.tmp 53) (.tmp 54) (.c (.bool false))), none⟩, ⟨(some 56), (.mv (.tmp 55)), none⟩, ⟨(some 57), (.mv (.tmp 18)), (some (56, true))⟩, ⟨(some 58), (.pick (.tmp 56) (.tmp 57) (.c (.bool false))), none⟩, ⟨(some 10), (.mv (.tmp 58)), none⟩]) (.ops false [⟨(some 59), (.mv (.tmp 11)), none⟩, ⟨(some 60), (.mv (.tmp 15)), none⟩, ⟨(some 61), (.bsl 3 (some .i64) 1 [(.tmp 60)]), none⟩, ⟨(some 62), (.app 3 (some .i64) 1 8 (.tmp 59) (.tmp 61)), none⟩, ⟨(some 63), (.mv (.tmp 12)), none⟩, ⟨(some 64), (.mv (.tmp 17)), none⟩, ⟨(some 65), (.bsl 3 (some .i64) 1 [(.tmp 64)]), none⟩, ⟨(some 66), (.app 3 (some .i64) 1 8 (.tmp 63) (.tmp 65)), none⟩, ⟨(some 11), (.mv (.tmp 62)), none⟩, ⟨(some 12), (.mv (.tmp 66)), none⟩])))))) (.ops false [⟨(some 67), (.bin .add (.tmp 30) (.c (.int .i64 (1)))), none⟩, ⟨(some 30), (.mv (.tmp 67)), none⟩]))))))) (.seq (.seq (.ops false [⟨(some 68), (.mv (.tmp 10)), none⟩, ⟨(some 69), (.un .not (.tmp 68)), none⟩, ⟨(some 70), (.mv (.tmp 69)), none⟩, ⟨(some 71), (.ld true 4 (.tmp 4)), (some (70, false))⟩, ⟨(some 72), (.call (.func 47) [(.tmp 71)]), (some (70, false))⟩, ⟨(some 73), (.un .not (.tmp 72)), (some (70, false))⟩, ⟨(some 74), (.pick (.tmp 70) (.c (.bool true)) (.tmp 73)), none⟩, ⟨(some 75), (.mv (.tmp 74)), none⟩, ⟨(some 76), (.ld true 4 (.tmp 5)), (some (75, false))⟩, ⟨(some 77), (.call (.func 47) [(.tmp 76)]), (some (75, false))⟩, ⟨(some 78), (.un .not (.tmp 77)), (some (75, false))⟩, ⟨(some 79), (.pick (.tmp 75) (.c (.bool true)) (.tmp 78)), none⟩]) (.cond (.tmp 79) (.seq (.ops false [⟨(some 80), (.call (.func 36) []), none⟩, ⟨none, (.st 4 (.tmp 8) (.tmp 80)), none⟩]) .ret) .skip)) (.seq (.ops false [⟨(some 81), (.mv (.tmp 9)), none⟩, ⟨(some 82), (.mv (.tmp 11)), none⟩, ⟨(some 83), (.call (.func 117) [(.tmp 82)]), none⟩, ⟨(some 84), (.mv (.tmp 12)), none⟩, ⟨(some 85), (.call (.func 118) [(.tmp 84)]), none⟩, ⟨(some 86), (.build [(.int .i64 (0)), (.int .i64 (0)), (.int .i64 (0)), (.bool false)] [(0, (1, (.tmp 81))), (1, (1, (.tmp 83))), (2, (1, (.tmp 85)))]), none⟩, ⟨none, (.st 4 (.tmp 8) (.tmp 86)), none⟩]) .ret))))))
theorem ok_env_made : compCode Try.prog (Try.f88.body.getD .skip) [[2, 4, 5, 8, 9, 10, 11, 12, 28, 29, 30]] = some (ir_env_made, []) := by kernel_rfl
def live_env_made : List (List Nat) := [[2, 4, 5, 8, 9, 10, 11, 12, 28, 29, 30]]
abbrev Fn := Int → Int → Int → Int × Bool
def lows (f : Fn) (P : List (Int × Int)) : List Int := P.map fun p => (f p.1 p.2 1).1
def highs (f : Fn) (P : List (Int × Int)) : List Int := P.map fun p => (f p.1 p.2 2).1
def isAll (f : Fn) (P : List (Int × Int)) : Bool := P.all fun p => (f p.1 p.2 1).2 && (f p.1 p.2 2).2
def least : List Int → Int
  | [] => 0
  | x :: L => L.foldl min x
def greatest : List Int → Int
  | [] => 0
  | x :: L => L.foldl max x
def made (f : Fn) (a b : Nm) (P : List (Int × Int)) : Nm :=
  if ((f a.v b.v 0).2 && isAll f P && fine a && fine b) = true then ⟨(f a.v b.v 0).1, least (lows f P), greatest (highs f P), false⟩ else wrong
def pairV (p : Int × Int) : PV := .agg [.int .i64 p.1, .int .i64 p.2]
def Nm.ob (x : Nm) : OB := .box 36 [.p (.int .i64 x.v), .p (.int .i64 x.lo), .p (.int .i64 x.hi), .p (.bool x.bad)]
def zeroOb : OB := .box 36 [.p (.int .i64 0), .p (.int .i64 0), .p (.int .i64 0), .p (.bool false)]
def rowT (k i : Nat) : SV := match k with | 0 => .p (.isl true true .i64 []) | _ + 1 => .row i
def rowsO (k : Nat) (x y : List Int) : List OB := match k with | 0 => [] | _ + 1 => [.irow 3 .i64 false false x, .irow 3 .i64 false false y]
set_option maxHeartbeats 4000000 in
theorem fn_made (G : Glob) (g : FuncId) (f : Fn) (a b : Nm) (nl ex : Bool) (P : List (Int × Int)) (h0 : P ≠ []) (h4 : P.length ≤ 4) (hi : ∀ p ∈ P, i64 p.1 ∧ i64 p.2) (ha : i64 a.v) (hb : i64 b.v)
    (hf : ∀ x y m, i64 x → i64 y → 0 ≤ m → m ≤ 2 → FunEq Try.prog G g [.int .i64 x, .int .i64 y, .int .i64 m] (.tup [.int .i64 (f x y m).1, .bool (f x y m).2])) :
    FunEq Try.prog G 88 [a.pv, b.pv, .fn g [], .sl nl ex 2 (P.map pairV)] (made f a b P).pv := by
  have c1 := hf a.v b.v 0 ha hb (by omega) (by omega)
  have fa := fn_Fine G a
  have fb := fn_Fine G b
  have cw := fn_Wrong G
  have hlen : (P.map pairV).length = P.length := List.length_map _
  refine fun_of_does live_env_made Try.func88 rfl (by kernel_rfl) ok_env_made (by kernel_rfl) Try.ntmps88 ?_
  obtain ⟨v, hv⟩ : ∃ v, v = f a.v b.v 0 := ⟨_, rfl⟩
  rw [← hv] at c1
  refine does_cut 4 [4, 5, 8, 9, 10, 11, 12] (fun S => S = ⟨slots 87 0 [(4, .ptr 0 0), (5, .ptr 1 0), (8, .ptr 2 0), (9, .p (.int .i64 v.1)), (10, .p (.bool (v.2 && isAll f P))), (11, .row 3), (12, .row 4)], [a.ob, b.ob, zeroOb, .irow 3 .i64 false false (lows f P), .irow 3 .i64 false false (highs f P)]⟩) (by decide +kernel) ?_ ?_
  · simp only [run_seq, run_ops, run_opsNil, run_block, run_op0, run_box, run_alloc, Ins.kind, IOp.apps, List.any_cons, List.any_nil, pev, Ins.calm, Ins.opds, sureL, evS, St.put, List.map, List.map_cons, List.length_cons, List.length_nil, List.replicate, List.cons_append, List.nil_append, List.getD_cons_zero, List.getD_cons_succ, List.set_cons_zero, List.set_cons_succ, SV.res, SV.strip, SV.sure, SV.cells, PV.cells, SV.scal, PV.scal, SV.ld, if_true, Bool.false_eq_true, if_false, true_and, Nat.reduceSub, Nat.zero_add, Nat.add_zero, Nat.reduceAdd, cond_true, cond_false, List.all_cons, Bool.and_self, Bool.true_and, Nat.reduceLeDiff, List.take, List.drop, St.forget, slots, Nat.reduceBEq, Bool.or_false, Bool.or_self, Option.map_some, beq_self_eq_true, Nat.reduceEqDiff, List.all, and_self, Nat.add_one_ne_zero, aggS, allP, ir_env_made, IR.pre, Nm.pv]
    refine run_call c1 _ rfl (by exact ⟨trivial, trivial, trivial, trivial⟩) rfl rfl rfl trivial trivial ?_
    simp only [run_seq, run_ops, run_opsNil, run_block, run_op0, Ins.kind, IOp.apps, List.any_cons, List.any_nil, pev, Ins.calm, Ins.opds, sureL, evS, St.put, List.length_cons, List.length_nil, List.append_nil, List.getD_cons_zero, List.getD_cons_succ, List.set_cons_zero, List.set_cons_succ, SV.res, SV.strip, SV.sure, if_true, true_and, Nat.zero_add, Nat.reduceAdd, cond_false, Bool.and_self, Bool.true_and, Nat.reduceLT, Nat.reduceBEq, Bool.or_self, fzL, List.foldl_nil, SV.ids, boxIds, List.flatMap_cons, List.flatMap_nil, PV.flat, PV.flatL, and_self, hlen]
    refine run_loop (fun n S => ∃ k : Nat, k ≤ P.length ∧ n = P.length - k ∧ S = ⟨slots 87 0 [(2, .p (.fn g [])), (4, .ptr 0 0), (5, .ptr 1 0), (8, .ptr 2 0), (9, .p (.int .i64 v.1)), (10, .p (.bool (v.2 && isAll f (P.take k)))), (11, rowT k 3), (12, rowT k 4), (28, .p (.sl nl ex 2 (P.map pairV))), (29, .p (.int .i64 ((P.length : Nat) : Int))), (30, .p (.int .i64 k))], [a.ob, b.ob, zeroOb] ++ rowsO k (lows f (P.take k)) (highs f (P.take k))⟩) ?_ ?_
    · refine ⟨P.length, [0, 1, 2], by simp, 0, by omega, rfl, ?_⟩
      rw [show isAll f (P.take 0) = true from rfl, Bool.and_true]
      rfl
    rintro n S' ⟨k, hk, rfl, rfl⟩
    simp only [run_seq, run_ops, run_opsNil, run_op0, run_cond, Ins.kind, IOp.apps, List.any_cons, List.any_nil, pev, Ins.calm, Ins.opds, sureL, evS, St.put, List.cons_append, List.nil_append, List.getD_cons_zero, List.getD_cons_succ, List.set_cons_zero, List.set_cons_succ, SV.res, SV.strip, SV.sure, binV, if_true, if_false, true_and, Nat.zero_add, Nat.reduceAdd, cond_false, Bool.and_self, Bool.true_and, St.forget, slots, Nat.reduceBEq, Bool.or_self, Nat.reduceEqDiff, and_self, Nat.add_one_ne_zero]
    refine runC_dec (fun h => ?_) (fun h => ?_)
    · have hk2 : k < P.length := by omega
      obtain ⟨p, hp⟩ : ∃ p, p = P[k] := ⟨_, rfl⟩
      have hget : (P.map pairV).getD k .nilSl = .agg [.int .i64 p.1, .int .i64 p.2] := by
        rw [List.getD_eq_getElem?_getD, List.getElem?_map, List.getElem?_eq_getElem hk2, hp]; rfl
      have hlo : lows f (P.take (k + 1)) = lows f (P.take k) ++ [(f p.1 p.2 1).1] := by
        unfold lows; rw [List.take_add_one, List.map_append, List.getElem?_eq_getElem hk2, hp]; rfl
      have hhi : highs f (P.take (k + 1)) = highs f (P.take k) ++ [(f p.1 p.2 2).1] := by
        unfold highs; rw [List.take_add_one, List.map_append, List.getElem?_eq_getElem hk2, hp]; rfl
      have hall : isAll f (P.take (k + 1)) = (isAll f (P.take k) && ((f p.1 p.2 1).2 && (f p.1 p.2 2).2)) := by
        unfold isAll; rw [List.take_add_one, List.all_append, List.getElem?_eq_getElem hk2, hp]; simp
      have hip := hi p (by rw [hp]; exact List.getElem_mem _)
      have d1 := hf p.1 p.2 1 hip.1 hip.2 (by omega) (by omega)
      have d2 := hf p.1 p.2 2 hip.1 hip.2 (by omega) (by omega)
      have hll : (lows f (P.take k)).length ≤ 4 := by unfold lows; rw [List.length_map, List.length_take]; omega
      have hhl : (highs f (P.take k)).length ≤ 4 := by unfold highs; rw [List.length_map, List.length_take]; omega
      generalize hlo0 : lows f (P.take k) = lo at *
      generalize hhi0 : highs f (P.take k) = hg at *
      generalize his0 : isAll f (P.take k) = is at *
      have hw : IntKind.i64.wrap ((k : Int) + 1) = ((k + 1 : Nat) : Int) := (wrap_i64_id (by unfold i64; omega)).trans (by omega)
      rcases k with _ | k
      · skip
        simp only [run_nil, run_skip, run_eb, run_seq, run_ops, run_opsNil, run_block, run_op0, run_opG, run_pick, runP, run_alloc, run_st, run_bsl, runB, run_appI, runAI, Ins.kind, IOp.apps, List.any_cons, List.any_nil, gAct, pev, Ins.calm, Ins.opds, sureL, evS, St.put, List.map, List.map_cons, List.length_cons, List.length_nil, List.cons_append, List.nil_append, List.append_nil, List.getD_cons_zero, List.getD_cons_succ, List.set_cons_zero, List.set_cons_succ, SV.res, SV.strip, SV.sure, SV.cells, PV.cells, SV.scal, PV.scal, SV.ld, PV.ld, binV, if_true, Bool.false_eq_true, if_false, SV.mix, true_and, and_true, Nat.zero_add, Nat.add_zero, Nat.reduceAdd, implies_true, cond_true, cond_false, List.all_cons, Bool.and_self, Bool.and_true, Bool.true_and, Nat.reduceLeDiff, List.take, List.drop, forgetL, List.contains_cons, List.contains_nil, Nat.reduceBEq, Bool.or_false, Bool.or_true, Bool.or_self, Option.map_some, fzL, List.foldl_nil, SV.ids, List.flatMap_cons, List.flatMap_nil, SV.pvS, SV.pvSL, SV.see, spliceL, beq_self_eq_true, List.all, Int.reduceLT, Int.cast_ofNat_Int, imp_self, Bool.and_eq_true, Int.toNat_zero, Int.toNat_one, Nat.mul_one, and_self, Int.zero_le_ofNat, Int.le_refl, Int.reduceAdd, aggS, allP, SV.ren, SV.renL, rowsO, rowT, Nm.ob, zeroOb, hget, hlen]
        refine ⟨by omega, by omega, ?_⟩
        refine run_call d1 _ rfl (by exact ⟨trivial, trivial, trivial, trivial⟩) rfl rfl rfl trivial trivial ?_
        simp only [run_nil, run_eb, run_seq, run_ops, run_opsNil, run_op0, run_opG, run_pick, runP, run_bsl, runB, run_appI, runAI, okB, Ins.kind, IOp.apps, List.any_cons, List.any_nil, gAct, pev, Ins.calm, Ins.opds, sureL, evS, St.put, List.map, List.length_cons, List.length_nil, List.cons_append, List.nil_append, List.append_nil, List.getD_cons_zero, List.getD_cons_succ, List.set_cons_zero, List.set_cons_succ, SV.res, SV.strip, SV.sure, SV.ld, binV, if_true, Bool.false_eq_true, if_false, SV.mix, true_and, Nat.zero_add, Nat.add_zero, Nat.reduceAdd, implies_true, cond_true, cond_false, Bool.and_self, Bool.true_and, Nat.reduceLeDiff, Nat.reduceLT, List.take, List.drop, forgetL, List.contains_cons, List.contains_nil, Nat.reduceBEq, Bool.or_false, Bool.or_true, Bool.or_self, Option.map_some, fzL, List.foldl_nil, SV.ids, boxIds, List.flatMap_cons, List.flatMap_nil, SV.pvS, SV.pvSL, PV.flat, PV.flatL, SV.see, OB.pv, intsOf, beq_self_eq_true, Int.reduceLT, Int.cast_ofNat_Int, imp_self, Bool.and_eq_true, Int.toNat_zero, Int.toNat_one, Nat.mul_one, Nat.one_mul, and_self, Int.zero_le_ofNat, Int.le_refl, Int.reduceAdd, aggS, allP, SV.ren, SV.renL, List.isEmpty_cons, Bool.cond_false_right]
        refine run_call d2 _ rfl (by exact ⟨trivial, trivial, trivial, trivial⟩) rfl rfl rfl trivial trivial ?_
        simp only [run_nil, run_eb, run_seq, run_ops, run_opsNil, run_op0, run_opG, run_pick, runP, run_bsl, runB, run_appI, runAI, okB, Ins.kind, IOp.apps, List.any_cons, List.any_nil, gAct, pev, Ins.calm, Ins.opds, sureL, evS, St.put, List.map, List.length_cons, List.length_nil, List.cons_append, List.nil_append, List.append_nil, List.getD_cons_zero, List.getD_cons_succ, List.set_cons_zero, List.set_cons_succ, SV.res, SV.strip, SV.sure, binV, if_true, Bool.false_eq_true, if_false, SV.mix, true_and, Nat.zero_add, Nat.reduceAdd, implies_true, cond_true, cond_false, Bool.and_self, Bool.true_and, Nat.reduceLeDiff, Nat.reduceLT, forgetL, List.contains_cons, List.contains_nil, Nat.reduceBEq, Bool.or_false, Bool.or_true, Bool.or_self, Option.map_some, fzL, List.foldl_nil, SV.ids, boxIds, List.flatMap_cons, List.flatMap_nil, SV.pvS, SV.pvSL, PV.flat, PV.flatL, SV.see, OB.pv, intsOf, beq_self_eq_true, imp_self, Bool.and_eq_true, Nat.one_mul, and_self, Int.reduceAdd, SV.ren, SV.renL, List.isEmpty_cons, Bool.cond_false_right]
        have e1 : lo = [] := by rw [← hlo0]; rfl
        have e2 : hg = [] := by rw [← hhi0]; rfl
        refine ⟨P.length - 1, [0, 1, 2, 5, 7], by simp, by omega, 0 + 1, by omega, by omega, ?_⟩
        rw [hlo, hhi, hall, ← Bool.and_assoc, ← Bool.and_assoc, e1, e2]
        rfl
      · skip
        simp only [run_nil, run_skip, run_eb, run_seq, run_ops, run_opsNil, run_block, run_op0, run_opG, run_pick, runP, run_alloc, run_st, run_bsl, runB, run_appI, runAI, Ins.kind, IOp.apps, List.any_cons, List.any_nil, gAct, pev, Ins.calm, Ins.opds, sureL, evS, St.put, List.map, List.map_cons, List.length_cons, List.length_nil, List.cons_append, List.nil_append, List.append_nil, List.getD_cons_zero, List.getD_cons_succ, List.set_cons_zero, List.set_cons_succ, SV.res, SV.strip, SV.sure, SV.cells, PV.cells, SV.scal, PV.scal, SV.ld, PV.ld, binV, if_true, Bool.false_eq_true, if_false, SV.mix, true_and, and_true, Nat.zero_add, Nat.add_zero, Nat.reduceAdd, implies_true, cond_true, cond_false, List.all_cons, Bool.and_self, Bool.and_true, Bool.true_and, Nat.reduceLeDiff, List.take, List.drop, forgetL, List.contains_cons, List.contains_nil, Nat.reduceBEq, Bool.or_false, Bool.or_true, Bool.or_self, Option.map_some, fzL, List.foldl_nil, SV.ids, List.flatMap_cons, List.flatMap_nil, SV.pvS, SV.pvSL, SV.see, spliceL, beq_self_eq_true, List.all, Int.reduceLT, Int.cast_ofNat_Int, imp_self, Bool.and_eq_true, Int.toNat_zero, Int.toNat_one, Nat.mul_one, and_self, Int.zero_le_ofNat, Int.le_refl, aggS, allP, SV.ren, SV.renL, rowsO, rowT, Nm.ob, zeroOb, hget, hlen, Int.toNat_natCast]
        refine ⟨by omega, by omega, ?_⟩
        refine run_call d1 _ rfl (by exact ⟨trivial, trivial, trivial, trivial⟩) rfl rfl rfl trivial trivial ?_
        simp only [run_nil, run_eb, run_seq, run_ops, run_opsNil, run_op0, run_opG, run_pick, runP, run_bsl, runB, run_appI, runAI, okB, Ins.kind, IOp.apps, List.any_cons, List.any_nil, gAct, pev, Ins.calm, Ins.opds, sureL, evS, St.put, List.map, List.length_cons, List.length_nil, List.cons_append, List.nil_append, List.append_nil, List.getD_cons_zero, List.getD_cons_succ, List.set_cons_zero, List.set_cons_succ, SV.res, SV.strip, SV.sure, SV.ld, binV, if_true, Bool.false_eq_true, if_false, SV.mix, true_and, Nat.zero_add, Nat.add_zero, Nat.reduceAdd, implies_true, cond_true, cond_false, Bool.and_self, Bool.true_and, Nat.reduceLeDiff, Nat.reduceLT, List.take, List.drop, forgetL, List.contains_cons, List.contains_nil, Nat.reduceBEq, Bool.or_false, Bool.or_true, Bool.or_self, Option.map_some, fzL, List.foldl_nil, SV.ids, boxIds, List.flatMap_cons, List.flatMap_nil, SV.pvS, SV.pvSL, PV.flat, PV.flatL, SV.see, OB.pv, intsOf, beq_self_eq_true, Int.reduceLT, Int.cast_ofNat_Int, imp_self, Bool.and_eq_true, Int.toNat_zero, Int.toNat_one, Nat.mul_one, and_self, Int.zero_le_ofNat, Int.le_refl, aggS, allP, SV.ren, SV.renL, List.isEmpty_cons, Bool.cond_false_right]
        refine run_call d2 _ rfl (by exact ⟨trivial, trivial, trivial, trivial⟩) rfl rfl rfl trivial trivial ?_
        simp only [run_nil, run_eb, run_seq, run_ops, run_opsNil, run_op0, run_opG, run_pick, runP, run_bsl, runB, run_appI, runAI, okB, Ins.kind, IOp.apps, List.any_cons, List.any_nil, gAct, pev, Ins.calm, Ins.opds, sureL, evS, St.put, List.map, List.length_cons, List.length_nil, List.cons_append, List.nil_append, List.append_nil, List.getD_cons_zero, List.getD_cons_succ, List.set_cons_zero, List.set_cons_succ, SV.res, SV.strip, SV.sure, binV, if_true, Bool.false_eq_true, if_false, SV.mix, true_and, Nat.zero_add, Nat.reduceAdd, implies_true, cond_true, cond_false, Bool.and_self, Bool.true_and, Nat.reduceLeDiff, Nat.reduceLT, forgetL, List.contains_cons, List.contains_nil, Nat.reduceBEq, Bool.or_false, Bool.or_true, Bool.or_self, Option.map_some, fzL, List.foldl_nil, SV.ids, boxIds, List.flatMap_cons, List.flatMap_nil, SV.pvS, SV.pvSL, PV.flat, PV.flatL, SV.see, OB.pv, intsOf, beq_self_eq_true, imp_self, Bool.and_eq_true, and_self, SV.ren, SV.renL, List.isEmpty_cons, Bool.cond_false_right, hw]
        refine ⟨by omega, by omega, by omega, by omega, P.length - (k + 1 + 1), [0, 1, 2, 7, 9], by simp, by omega, k + 1 + 1, by omega, by omega, ?_⟩
        rw [hlo, hhi, hall, ← Bool.and_assoc, ← Bool.and_assoc]
        rfl
    · have hk2 : k = P.length := by omega
      subst hk2
      rw [List.take_length]
      obtain ⟨q, hq⟩ : ∃ q, P.length = q + 1 := ⟨P.length - 1, by have := List.length_pos_iff.mpr h0; omega⟩
      have r3 : rowT P.length 3 = .row 3 := by rw [hq]; rfl
      have r4 : rowT P.length 4 = .row 4 := by rw [hq]; rfl
      have ro : rowsO P.length (lows f P) (highs f P) = [.irow 3 .i64 false false (lows f P), .irow 3 .i64 false false (highs f P)] := by rw [hq]; rfl
      rw [r3, r4, ro]
      simp only [run_nil, run_exit, runX_nil, runX_ir, runX_eb, List.getD_cons_zero, List.getD_cons_succ, if_true, Bool.false_eq_true, if_false, Nat.zero_add, Nat.reduceAdd, forgetL, List.contains_cons, List.contains_nil, Nat.reduceBEq, Bool.or_false, Bool.or_true, Bool.or_self, beq_self_eq_true, SV.ren, SV.renL]
      exact ⟨[0, 1, 2, 3, 4], by simp, rfl⟩
  rintro S' rfl
  obtain ⟨p, Q, rfl⟩ : ∃ p Q, P = p :: Q := by cases P with | nil => exact absurd rfl h0 | cons p Q => exact ⟨p, Q, rfl⟩
  have cl := fn_slices_Min G false false (f p.1 p.2 1).1 (lows f Q) (by unfold lows; rw [List.length_map]; simp at h4; omega)
  have ch := fn_slices_Max G false false (f p.1 p.2 2).1 (highs f Q) (by unfold highs; rw [List.length_map]; simp at h4; omega)
  have el : lows f (p :: Q) = (f p.1 p.2 1).1 :: lows f Q := rfl
  have eh : highs f (p :: Q) = (f p.1 p.2 2).1 :: highs f Q := rfl
  refine does_of ?_
  unfold made
  rw [← hv]
  generalize isAll f (p :: Q) = is at *
  rw [el, eh]
  obtain ⟨r, hr⟩ : ∃ r, r = (if (v.2 && is && fine a && fine b) = true then (⟨v.1, least ((f p.1 p.2 1).1 :: lows f Q), greatest ((f p.1 p.2 2).1 :: highs f Q), false⟩ : Nm) else wrong) := ⟨_, rfl⟩
  rw [← hr]
  simp only [run_seq, run_ops, run_opsNil, run_op0, run_opG, run_cond, run_pick, runP, Ins.kind, IOp.apps, List.any_cons, List.any_nil, gAct, pev, Ins.calm, Ins.opds, sureL, evS, St.put, List.length_cons, List.length_nil, List.getD_cons_zero, List.getD_cons_succ, List.set_cons_zero, List.set_cons_succ, SV.res, SV.strip, SV.sure, SV.ld, if_true, Bool.false_eq_true, if_false, SV.mix, true_and, Nat.zero_add, Nat.reduceAdd, implies_true, cond_false, Bool.and_self, Bool.true_and, Nat.reduceLeDiff, List.take, List.drop, slots, Nat.reduceBEq, Bool.or_self, Option.map_some, Nat.reduceEqDiff, imp_self, Bool.not_eq_true', and_self, Nat.add_one_ne_zero, aggS, allP, ir_env_made, IR.post, Nm.ob, zeroOb, Try.results88]
  refine run_callG (fun _ => fa) _ rfl (by exact fun h => ⟨trivial, h⟩) rfl rfl rfl trivial trivial ?_
  simp only [run_opsNil, run_op0, run_opG, run_cond, run_pick, runP, gAct, pev, Ins.calm, Ins.opds, sureL, evS, St.put, List.length_cons, List.length_nil, List.append_nil, List.getD_cons_zero, List.getD_cons_succ, List.set_cons_zero, List.set_cons_succ, SV.res, SV.strip, SV.sure, SV.ld, if_true, Bool.false_eq_true, if_false, SV.mix, true_and, and_true, Nat.zero_add, Nat.reduceAdd, implies_true, cond_false, Bool.and_self, Bool.and_true, Bool.true_and, Nat.reduceLeDiff, List.take, List.drop, Option.map_some, fzL, List.foldl_nil, SV.ids, boxIds, List.flatMap_cons, List.flatMap_nil, PV.flat, imp_self, Bool.not_eq_true', Bool.and_eq_true, and_self, aggS, allP, Bool.cond_true_left, Bool.not_not, Bool.not_or]
  refine ⟨by simp, ?_⟩
  refine run_callG (fun _ => fb) _ rfl (by exact fun h => ⟨trivial, h⟩) rfl rfl rfl trivial trivial ?_
  simp only [run_opsNil, run_op0, run_opG, run_cond, run_pick, runP, gAct, pev, Ins.calm, Ins.opds, sureL, evS, St.put, List.append_nil, List.getD_cons_zero, List.getD_cons_succ, List.set_cons_zero, List.set_cons_succ, SV.res, SV.strip, SV.sure, if_true, Bool.false_eq_true, if_false, SV.mix, true_and, and_true, implies_true, cond_false, Bool.and_true, Bool.true_and, fzL, List.foldl_nil, SV.ids, boxIds, List.flatMap_cons, List.flatMap_nil, PV.flat, imp_self, Bool.and_eq_true, Bool.cond_true_left, Bool.not_not, Bool.not_or]
  refine ⟨by simp [and_assoc], ?_⟩
  have hcond : ((!(v.2 && is) || !fine a || !fine b) = true) ↔ ¬ (v.2 && is && fine a && fine b) = true := by
    cases v.2 <;> cases is <;> cases fine a <;> cases fine b <;> simp
  refine runC_of (fun h => ?_) (fun h => ?_)
  · rw [if_neg (hcond.mp h)] at hr
    rw [hr]
    simp only [run_seq, run_ops, run_opsNil, run_ret, run_op0, run_st, Ins.kind, IOp.apps, List.any_cons, List.any_nil, pev, Ins.calm, Ins.opds, sureL, evS, St.put, List.length_cons, List.length_nil, List.cons_append, List.nil_append, List.getD_cons_zero, List.getD_cons_succ, List.set_cons_zero, List.set_cons_succ, SV.res, SV.strip, SV.sure, SV.cells, SV.scal, PV.scal, Bool.false_eq_true, if_false, true_and, and_true, Nat.zero_add, Nat.reduceAdd, cond_false, List.all_cons, Bool.and_self, Bool.and_true, Bool.true_and, Nat.reduceLeDiff, List.take, List.drop, Nat.reduceBEq, Bool.or_self, spliceL, Nat.reduceEqDiff, List.all, and_self]
    refine run_call cw _ rfl (by exact trivial) rfl rfl rfl trivial trivial ?_
    simp only [run_opsNil, run_ret, run_op0, run_st, pev, Ins.calm, Ins.opds, sureL, evS, St.put, List.map, List.map_cons, List.length_cons, List.length_nil, List.nil_append, List.append_nil, List.getD_cons_zero, List.getD_cons_succ, List.set_cons_zero, List.set_cons_succ, SV.res, SV.strip, SV.sure, SV.cells, PV.cells, SV.scal, PV.scal, if_true, Bool.false_eq_true, if_false, true_and, Nat.zero_add, Nat.reduceAdd, List.all_cons, Bool.and_self, Bool.true_and, Nat.reduceLeDiff, List.take, List.drop, fzL, List.foldl_nil, SV.ids, boxIds, List.flatMap_cons, List.flatMap_nil, PV.flat, PV.flatL, spliceL, List.all, and_self, wrong, Nm.pv]
    simp only [List.length_cons, List.length_nil, List.append_nil, List.getD_cons_zero, List.getD_cons_succ, SV.res, SV.ld, if_true, Nat.zero_add, Nat.reduceAdd, Bool.and_self, Nat.reduceLeDiff, List.take, List.drop, Option.map_some, fzL, List.foldl_nil, SV.ids, List.flatMap_cons, List.flatMap_nil, SV.pvS, and_self, aggS, allP, resK, resSV, oneSV, cells36, agg36]
  · have hyes : (v.2 && is && fine a && fine b) = true := Decidable.byContradiction fun hn => by rw [hcond.mpr hn] at h; cases h
    rw [if_pos hyes] at hr
    rw [hr]
    simp only [run_skip, run_seq, run_ops, run_opsNil, run_ret, run_op0, run_st, Ins.kind, IOp.apps, List.any_cons, List.any_nil, pev, Ins.calm, Ins.opds, sureL, evS, St.put, List.map, List.map_cons, List.length_cons, List.length_nil, List.cons_append, List.nil_append, List.getD_cons_zero, List.getD_cons_succ, List.set_cons_zero, List.set_cons_succ, SV.res, SV.strip, SV.sure, SV.cells, PV.cells, SV.scal, PV.scal, if_true, Bool.false_eq_true, if_false, true_and, and_true, Nat.zero_add, Nat.reduceAdd, cond_false, List.all_cons, Bool.and_self, Bool.and_true, Bool.true_and, Nat.reduceLeDiff, List.take, List.drop, Nat.reduceBEq, Bool.or_self, spliceL, Nat.reduceEqDiff, List.all, and_self, fillL]
    refine run_call cl _ rfl (by exact ⟨trivial, trivial⟩) rfl rfl rfl trivial trivial ?_
    simp only [run_opsNil, run_ret, run_op0, run_st, pev, Ins.calm, Ins.opds, sureL, evS, St.put, List.map, List.map_cons, List.length_cons, List.length_nil, List.cons_append, List.nil_append, List.append_nil, List.getD_cons_zero, List.getD_cons_succ, List.set_cons_zero, List.set_cons_succ, SV.res, SV.strip, SV.sure, SV.cells, PV.cells, SV.scal, PV.scal, if_true, Bool.false_eq_true, if_false, true_and, and_true, Nat.zero_add, Nat.reduceAdd, List.all_cons, Bool.and_self, Bool.and_true, Bool.true_and, Nat.reduceLeDiff, List.take, List.drop, fzL, fz1, List.foldl_cons, List.foldl_nil, SV.ids, boxIds, List.flatMap_cons, List.flatMap_nil, PV.flat, spliceL, Nat.reduceEqDiff, List.all, and_self, fillL]
    refine run_call ch _ rfl (by exact ⟨trivial, trivial⟩) rfl rfl rfl trivial trivial ?_
    simp only [run_opsNil, run_ret, run_op0, run_st, pev, Ins.calm, Ins.opds, sureL, evS, St.put, List.map, List.map_cons, List.length_cons, List.length_nil, List.cons_append, List.nil_append, List.append_nil, List.getD_cons_zero, List.getD_cons_succ, List.set_cons_zero, List.set_cons_succ, SV.res, SV.strip, SV.sure, SV.cells, PV.cells, SV.scal, PV.scal, if_true, Bool.false_eq_true, if_false, true_and, Nat.zero_add, Nat.reduceAdd, List.all_cons, Bool.and_self, Bool.true_and, Nat.reduceLeDiff, List.take, List.drop, Option.map_some, fzL, fz1, List.foldl_cons, List.foldl_nil, SV.ids, boxIds, List.flatMap_cons, List.flatMap_nil, PV.flat, spliceL, List.all, and_self, fillL, aggS, allP, Nm.pv, least, greatest]
    simp only [List.length_cons, List.length_nil, List.append_nil, List.getD_cons_zero, List.getD_cons_succ, SV.res, SV.ld, if_true, Nat.zero_add, Nat.reduceAdd, Bool.and_self, Nat.reduceLeDiff, List.take, List.drop, Option.map_some, fzL, List.foldl_nil, SV.ids, List.flatMap_cons, List.flatMap_nil, SV.pvS, and_self, aggS, allP, resK, resSV, oneSV, cells36, agg36]
end Go.Proofs
