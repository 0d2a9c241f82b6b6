/-
  Numbers in units: contracts of package fx.
-/
import Derived.Test.YtbfhholefjngpaaWC5
import Derived.Test.YtbfhholefjngpaaFxRun
import Derived.Laws.Bits64
namespace Go.Rootlaw
open Go.Mdlaw
theorem exists_root (p : Nat) : ∃ r, r * r ≤ p ∧ p < (r + 1) * (r + 1) := by
  induction p with
  | zero => exact ⟨0, by decide, by decide⟩
  | succ p ih =>
    obtain ⟨r, h1, h2⟩ := ih
    by_cases h : p + 1 < (r + 1) * (r + 1)
    · exact ⟨r, by omega, h⟩
    · refine ⟨r + 1, by omega, ?_⟩
      have : (r + 1) * (r + 1) < (r + 1 + 1) * (r + 1 + 1) := Nat.mul_lt_mul_of_lt_of_le (by omega) (by omega) (by omega)
      omega
theorem le_root {R p : Nat} (h1 : R * R ≤ p) (h2 : p < (R + 1) * (R + 1)) (x : Nat) : x * x ≤ p ↔ x ≤ R := by
  constructor
  · intro h
    apply Nat.le_of_not_lt
    intro hx
    have : (R + 1) * (R + 1) ≤ x * x := Nat.mul_le_mul (by omega) (by omega)
    omega
  · intro h
    have : x * x ≤ R * R := Nat.mul_le_mul h h
    omega
theorem root_high {R j : Nat} (h : R / 2 ^ (j + 1) * 2 ^ (j + 1) + 2 ^ j ≤ R) : R / 2 ^ j * 2 ^ j = R / 2 ^ (j + 1) * 2 ^ (j + 1) + 2 ^ j := by
  have hp : 0 < 2 ^ j := Nat.two_pow_pos j
  have h1 : R / 2 ^ (j + 1) = R / 2 ^ j / 2 := by rw [Nat.pow_succ, Nat.div_div_eq_div_mul]
  rw [h1] at h ⊢
  have h2 : R / 2 ^ j / 2 * 2 ^ (j + 1) = (R / 2 ^ j / 2 * 2) * 2 ^ j := by rw [Nat.pow_succ, Nat.mul_comm (2 ^ j), Nat.mul_assoc]
  rw [h2] at h ⊢
  have h3 : (R / 2 ^ j / 2 * 2 + 1) * 2 ^ j ≤ R := by rw [Nat.add_mul, Nat.one_mul]; exact h
  rw [← Nat.le_div_iff_mul_le hp] at h3
  rw [← Nat.succ_mul]
  congr 1
  omega
theorem root_low {R j : Nat} (h : ¬ R / 2 ^ (j + 1) * 2 ^ (j + 1) + 2 ^ j ≤ R) : R / 2 ^ j * 2 ^ j = R / 2 ^ (j + 1) * 2 ^ (j + 1) := by
  have hp : 0 < 2 ^ j := Nat.two_pow_pos j
  have h1 : R / 2 ^ (j + 1) = R / 2 ^ j / 2 := by rw [Nat.pow_succ, Nat.div_div_eq_div_mul]
  rw [h1] at h ⊢
  have h2 : R / 2 ^ j / 2 * 2 ^ (j + 1) = (R / 2 ^ j / 2 * 2) * 2 ^ j := by rw [Nat.pow_succ, Nat.mul_comm (2 ^ j), Nat.mul_assoc]
  rw [h2] at h ⊢
  have h3 : ¬ (R / 2 ^ j / 2 * 2 + 1) * 2 ^ j ≤ R := by rw [Nat.add_mul, Nat.one_mul]; exact h
  rw [← Nat.le_div_iff_mul_le hp] at h3
  congr 1
  omega
theorem root_lt {R a b M : Nat} (h1 : R * R ≤ a * b) (ha : a < M) (hb : b < M) : R < M := by
  apply Nat.lt_of_not_le
  intro h
  have : M * M ≤ R * R := Nat.mul_le_mul h h
  have : a * b < M * M := Nat.mul_lt_mul_of_lt_of_le ha (by omega) (by omega)
  omega
def okR (a b : Int) : Prop := okW a ∧ okW b ∧ 0 ≤ a * b
instance (a b : Int) : Decidable (okR a b) := by unfold okR; infer_instance
end Go.Rootlaw
set_option linter.unusedSimpArgs false
set_option linter.unusedVariables false
set_option maxRecDepth 100000
namespace Go.Proofs
open Go Go.Fx Go.Mdlaw Go.Cmplaw Go.Rootlaw
def okRt (a b m : Int) : Prop := okR a b ∧ 0 ≤ m ∧ m ≤ 2
instance (a b m : Int) : Decidable (okRt a b m) := by unfold okRt; infer_instance
end Go.Proofs
set_option linter.unusedSimpArgs false
set_option linter.unusedVariables false
set_option maxRecDepth 100000
namespace Go.Proofs
open Go Go.Fx Go.Mdlaw Go.Rootlaw
def ir_fx_Right : IR := (.seq (.ops false [⟨(some 2), (.mv (.c (.bool false))), none⟩]) (.seq (.ops false [⟨(some 3), (.mv (.tmp 0)), none⟩, ⟨(some 4), (.bin .geq (.tmp 3) (.c (.int .i64 (-1125899906842624)))), none⟩, ⟨(some 5), (.mv (.tmp 4)), none⟩, ⟨(some 6), (.mv (.tmp 0)), (some (5, true))⟩, ⟨(some 7), (.bin .leq (.tmp 6) (.c (.int .i64 (1125899906842624)))), (some (5, true))⟩, ⟨(some 8), (.pick (.tmp 5) (.tmp 7) (.c (.bool false))), none⟩, ⟨(some 2), (.mv (.tmp 8)), none⟩]) .ret))
theorem ok_fx_Right : compCode Try.prog (Try.f83.body.getD .skip) [] = some (ir_fx_Right, []) := by kernel_rfl
def live_fx_Right : List (List Nat) := []
def ir_fx_told : IR := (.seq (.ops false [⟨(some 6), (.mv (.c (.int .i64 (0)))), none⟩, ⟨(some 7), (.mv (.c (.bool false))), none⟩]) (.seq (.seq (.ops false [⟨(some 10), (.mv (.tmp 2)), none⟩, ⟨(some 11), (.mv (.tmp 0)), none⟩, ⟨(some 12), (.bsl 3 (some .i64) 1 [(.tmp 11)]), none⟩, ⟨(some 13), (.app 3 (some .i64) 1 8 (.tmp 10) (.tmp 12)), none⟩, ⟨(some 14), (.len (.tmp 13)), none⟩, ⟨(some 15), (.mv (.c (.int .i64 (0)))), none⟩]) (.block 0 (.loop [0, 1, 13, 14, 15] (.seq (.ops false [⟨(some 16), (.bin .lss (.tmp 15) (.tmp 14)), none⟩]) (.seq (.cond (.tmp 16) .skip (.exit 0)) (.seq (.block 1 (.seq (.ops false [⟨(some 17), (.ixA 1 (.tmp 13) (.tmp 15)), none⟩, ⟨(some 18), (.ld false 1 (.tmp 17)), none⟩, ⟨(some 9), (.mv (.tmp 18)), none⟩]) (.seq (.ops false [⟨(some 19), (.mv (.tmp 1)), none⟩, ⟨(some 20), (.un .not (.tmp 19)), none⟩, ⟨(some 21), (.mv (.tmp 20)), none⟩, ⟨(some 22), (.mv (.tmp 9)), (some (21, false))⟩, ⟨(some 23), (.call (.func 83) [(.tmp 22)]), (some (21, false))⟩, ⟨(some 24), (.un .not (.tmp 23)), (some (21, false))⟩, ⟨(some 25), (.pick (.tmp 21) (.c (.bool true)) (.tmp 24)), none⟩]) (.cond (.tmp 25) (.seq (.ops false [⟨(some 6), (.mv (.c (.int .i64 (0)))), none⟩, ⟨(some 7), (.mv (.c (.bool false))), none⟩]) .ret) .skip)))) (.ops false [⟨(some 26), (.bin .add (.tmp 15) (.c (.int .i64 (1)))), none⟩, ⟨(some 15), (.mv (.tmp 26)), none⟩]))))))) (.seq (.ops false [⟨(some 27), (.mv (.tmp 0)), none⟩, ⟨(some 6), (.mv (.tmp 27)), none⟩, ⟨(some 7), (.mv (.c (.bool true))), none⟩]) .ret)))
theorem ok_fx_told : compCode Try.prog (Try.f112.body.getD .skip) [[0, 1, 13, 14, 15]] = some (ir_fx_told, []) := by kernel_rfl
def live_fx_told : List (List Nat) := [[0, 1, 13, 14, 15]]
def ir_fx_Of : IR := (.seq (.ops false [⟨(some 2), (.mv (.c (.int .i64 (0)))), none⟩, ⟨(some 3), (.mv (.c (.bool false))), none⟩]) (.seq (.ops false [⟨(some 7), (.mv (.tmp 0)), none⟩, ⟨(some 8), (.call (.func 24) [(.tmp 7), (.c (.int .i64 (16777216))), (.c (.int .i64 (1))), (.c (.int .i64 (0)))]), none⟩, ⟨(some 6), (.mv (.tmp 8)), none⟩, ⟨(some 9), (.ext (.tmp 6) 0), none⟩, ⟨(some 10), (.ext (.tmp 6) 1), none⟩, ⟨(some 4), (.mv (.tmp 9)), none⟩, ⟨(some 5), (.mv (.tmp 10)), none⟩]) (.seq (.ops false [⟨(some 11), (.mv (.tmp 4)), none⟩, ⟨(some 12), (.mv (.tmp 5)), none⟩, ⟨(some 13), (.call (.func 112) [(.tmp 11), (.tmp 12), (.c (.isl true true .i64 []))]), none⟩, ⟨(some 14), (.ext (.tmp 13) 0), none⟩, ⟨(some 15), (.ext (.tmp 13) 1), none⟩, ⟨(some 2), (.mv (.tmp 14)), none⟩, ⟨(some 3), (.mv (.tmp 15)), none⟩]) .ret)))
theorem ok_fx_Of : compCode Try.prog (Try.f84.body.getD .skip) [] = some (ir_fx_Of, []) := by kernel_rfl
def live_fx_Of : List (List Nat) := []
def ir_fx_Add : IR := (.seq (.ops false [⟨(some 4), (.mv (.c (.int .i64 (0)))), none⟩, ⟨(some 5), (.mv (.c (.bool false))), none⟩]) (.seq (.seq (.ops false [⟨(some 6), (.mv (.tmp 0)), none⟩, ⟨(some 7), (.call (.func 83) [(.tmp 6)]), none⟩, ⟨(some 8), (.un .not (.tmp 7)), none⟩, ⟨(some 9), (.mv (.tmp 8)), none⟩, ⟨(some 10), (.mv (.tmp 1)), (some (9, false))⟩, ⟨(some 11), (.call (.func 83) [(.tmp 10)]), (some (9, false))⟩, ⟨(some 12), (.un .not (.tmp 11)), (some (9, false))⟩, ⟨(some 13), (.pick (.tmp 9) (.c (.bool true)) (.tmp 12)), none⟩]) (.cond (.tmp 13) (.seq (.ops false [⟨(some 4), (.mv (.c (.int .i64 (0)))), none⟩, ⟨(some 5), (.mv (.c (.bool false))), none⟩]) .ret) .skip)) (.seq (.ops false [⟨(some 14), (.mv (.tmp 0)), none⟩, ⟨(some 15), (.mv (.tmp 1)), none⟩, ⟨(some 16), (.bin .add (.tmp 14) (.tmp 15)), none⟩, ⟨(some 17), (.call (.func 112) [(.tmp 16), (.c (.bool true)), (.c (.isl true true .i64 []))]), none⟩, ⟨(some 18), (.ext (.tmp 17) 0), none⟩, ⟨(some 19), (.ext (.tmp 17) 1), none⟩, ⟨(some 4), (.mv (.tmp 18)), none⟩, ⟨(some 5), (.mv (.tmp 19)), none⟩]) .ret)))
theorem ok_fx_Add : compCode Try.prog (Try.f87.body.getD .skip) [] = some (ir_fx_Add, []) := by kernel_rfl
def live_fx_Add : List (List Nat) := []
def ir_fx_Mul : IR := (.seq (.ops false [⟨(some 6), (.mv (.c (.int .i64 (0)))), none⟩, ⟨(some 7), (.mv (.c (.bool false))), none⟩]) (.seq (.ops false [⟨(some 11), (.mv (.tmp 0)), none⟩, ⟨(some 12), (.mv (.tmp 1)), none⟩, ⟨(some 13), (.mv (.tmp 2)), none⟩, ⟨(some 14), (.call (.func 24) [(.tmp 11), (.tmp 12), (.c (.int .i64 (16777216))), (.tmp 13)]), none⟩, ⟨(some 10), (.mv (.tmp 14)), none⟩, ⟨(some 15), (.ext (.tmp 10) 0), none⟩, ⟨(some 16), (.ext (.tmp 10) 1), none⟩, ⟨(some 8), (.mv (.tmp 15)), none⟩, ⟨(some 9), (.mv (.tmp 16)), none⟩]) (.seq (.ops false [⟨(some 17), (.mv (.tmp 8)), none⟩, ⟨(some 18), (.mv (.tmp 9)), none⟩, ⟨(some 19), (.mv (.tmp 0)), none⟩, ⟨(some 20), (.mv (.tmp 1)), none⟩, ⟨(some 21), (.bsl 3 (some .i64) 1 [(.tmp 19), (.tmp 20)]), none⟩, ⟨(some 22), (.call (.func 112) [(.tmp 17), (.tmp 18), (.tmp 21)]), none⟩, ⟨(some 23), (.ext (.tmp 22) 0), none⟩, ⟨(some 24), (.ext (.tmp 22) 1), none⟩, ⟨(some 6), (.mv (.tmp 23)), none⟩, ⟨(some 7), (.mv (.tmp 24)), none⟩]) .ret)))
theorem ok_fx_Mul : compCode Try.prog (Try.f89.body.getD .skip) [] = some (ir_fx_Mul, []) := by kernel_rfl
def live_fx_Mul : List (List Nat) := []
def okF (n : Int) : Prop := -1125899906842624 ≤ n ∧ n ≤ 1125899906842624
instance (n : Int) : Decidable (okF n) := by unfold okF; infer_instance
def td (n : Int) (is : Bool) (L : List Int) : Int × Bool := if is = true ∧ ∀ x ∈ L, okF x then (n, true) else (0, false)
theorem fn_fx_Right (G : Glob) (a : Int) : FunEq Try.prog G 83 [.int .i64 a] (.bool (decide (okF a))) := by
  refine fun_of_vc live_fx_Right Try.func83 rfl (by kernel_rfl) ok_fx_Right (by kernel_rfl) Try.ntmps83 (run_of ?_)
  simp only [run_seq, run_ops, run_opsNil, run_ret, run_op0, run_opG, run_pick, runP, Ins.kind, IOp.apps, List.any_cons, List.any_nil, gAct, pev, Ins.calm, Ins.opds, sureL, evS, St.put, List.map, List.length_cons, List.length_nil, List.replicate, List.cons_append, List.nil_append, List.getD_cons_zero, List.getD_cons_succ, List.set_cons_zero, List.set_cons_succ, SV.res, SV.strip, SV.sure, binV, if_true, Bool.false_eq_true, if_false, SV.mix, true_and, and_true, Nat.reduceSub, Nat.zero_add, implies_true, cond_true, cond_false, Bool.and_self, Bool.and_true, Bool.true_and, Nat.reduceBEq, Bool.or_self, Int.reduceNeg, imp_self, and_self, Bool.cond_false_right, ir_fx_Right, Try.results83]
  simp only [List.append_nil, List.getD_cons_zero, List.getD_cons_succ, SV.res, true_and, Bool.true_and, fzL, List.foldl_nil, SV.ids, List.flatMap_cons, List.flatMap_nil, SV.pvS, Int.reduceNeg, resK, resSV, oneSV]
  refine eqBool ?_
  unfold okF
  exact (Bool.decide_and _ _).symm
theorem fn_told (G : Glob) (n : Int) (is nl : Bool) (l : List Int) (hl : l.length ≤ 2) (hn : nl = true → l = []) : FunEq Try.prog G 112 [.int .i64 n, .bool is, .isl nl true .i64 l] (.tup [.int .i64 (td n is (l ++ [n])).1, .bool (td n is (l ++ [n])).2]) := by
  refine fun_of_vc live_fx_told Try.func112 rfl (by kernel_rfl) ok_fx_told (by kernel_rfl) Try.ntmps112 (run_of ?_)
  obtain ⟨L, hL⟩ : ∃ L, L = l ++ [n] := ⟨_, rfl⟩
  have hLl : L.length = l.length + 1 := by rw [hL]; simp
  rw [← hL]
  cases nl with
  | true =>
    have := hn rfl
    subst this
    simp only [run_seq, run_ops, run_opsNil, run_block, run_op0, run_bsl, runB, run_appI, runAI, okB, Ins.kind, IOp.apps, List.any_cons, List.any_nil, pev, Ins.calm, Ins.opds, sureL, evS, St.put, List.map, List.length_cons, List.length_nil, List.replicate, List.cons_append, List.nil_append, List.append_nil, List.getD_cons_zero, List.getD_cons_succ, List.set_cons_zero, List.set_cons_succ, SV.res, SV.strip, SV.sure, if_true, Bool.false_eq_true, if_false, true_and, Nat.reduceSub, Nat.zero_add, Nat.reduceAdd, cond_true, cond_false, Bool.and_self, Bool.true_and, Nat.reduceLeDiff, Nat.reduceBEq, Bool.or_false, Bool.or_true, Bool.or_self, Option.map_some, fzL, List.foldl_nil, SV.ids, List.flatMap_cons, List.flatMap_nil, SV.pvS, SV.pvSL, SV.see, OB.pv, intsOf, beq_self_eq_true, Int.cast_ofNat_Int, Nat.one_mul, and_self, List.isEmpty_cons, ir_fx_told, Try.results112]
    refine run_loop (fun m S => ∃ k : Nat, k ≤ L.length ∧ m = L.length - k ∧ (0 < k → is = true) ∧ (∀ i, i < k → okF (L.getD i 0)) ∧ S = ⟨slots 28 0 [(0, .p (.int .i64 n)), (1, .p (.bool is)), (13, .row 0), (14, .p (.int .i64 ((L.length : Nat) : Int))), (15, .p (.int .i64 k))], [.irow 3 .i64 false false L]⟩) ?_ ?_
    · refine ⟨L.length, [1], by simp, 0, by omega, rfl, by omega, fun i h => absurd h (by omega), ?_⟩
      rw [hL]
      rfl
    rintro m S' ⟨k, hk, rfl, his, hall, rfl⟩
    simp only [run_seq, run_ops, run_opsNil, run_op0, run_cond, Ins.kind, IOp.apps, List.any_cons, List.any_nil, pev, Ins.calm, Ins.opds, sureL, evS, St.put, List.getD_cons_zero, List.getD_cons_succ, List.set_cons_zero, List.set_cons_succ, SV.res, SV.strip, SV.sure, binV, if_true, if_false, true_and, Nat.zero_add, Nat.reduceAdd, cond_false, Bool.and_self, Bool.true_and, St.forget, slots, Nat.reduceBEq, Bool.or_self, Nat.reduceEqDiff, and_self]
    refine runC_dec (fun h1 => ?_) (fun h1 => ?_)
    · have cr := fn_fx_Right G (L.getD k 0)
      simp only [run_skip, run_seq, run_ops, run_opsNil, run_block, run_op0, run_opG, run_cond, run_pick, runP, Ins.kind, IOp.apps, List.any_cons, List.any_nil, gAct, pev, Ins.calm, Ins.opds, sureL, evS, St.put, List.getD_cons_zero, List.getD_cons_succ, List.set_cons_zero, List.set_cons_succ, SV.res, SV.strip, SV.sure, SV.ld, if_true, Bool.false_eq_true, if_false, SV.mix, true_and, implies_true, cond_false, Bool.and_self, Bool.true_and, Nat.reduceBEq, Bool.or_self, imp_self, Bool.not_eq_true', and_self, Int.toNat_natCast]
      refine ⟨by omega, by omega, ?_⟩
      refine run_callG (fun _ => cr) _ rfl (by exact fun h => ⟨trivial, h⟩) rfl rfl rfl trivial trivial ?_
      simp only [run_opsNil, run_op0, run_opG, run_cond, run_pick, runP, gAct, pev, Ins.calm, Ins.opds, sureL, evS, St.put, List.append_nil, List.getD_cons_zero, List.getD_cons_succ, List.set_cons_zero, List.set_cons_succ, SV.res, SV.strip, SV.sure, if_true, Bool.false_eq_true, if_false, SV.mix, true_and, and_true, implies_true, cond_false, Bool.and_true, Bool.true_and, fzL, List.foldl_nil, SV.ids, boxIds, List.flatMap_cons, List.flatMap_nil, PV.flat, imp_self, Bool.not_eq_true', Bool.cond_true_left, Bool.not_not]
      refine ⟨by simp, ?_⟩
      refine runC_of (fun h2 => ?_) (fun h2 => ?_)
      · have hno : ¬ (is = true ∧ ∀ x ∈ L, okF x) := by
          rintro ⟨a, b⟩
          rw [a] at h2
          simp at h2
          exact h2 (b _ (by rw [List.getElem?_eq_getElem (by omega)]; exact List.getElem_mem _))
        unfold td
        rw [if_neg hno]
        simp only [run_seq, run_ops, run_opsNil, run_ret, runX_ret, run_op0, Ins.kind, IOp.apps, List.any_cons, List.any_nil, pev, Ins.calm, Ins.opds, sureL, evS, St.put, List.set_cons_zero, List.set_cons_succ, SV.strip, SV.sure, if_true, true_and, cond_false, Bool.true_and, Nat.reduceBEq, Bool.or_self]
        simp only [List.append_nil, List.getD_cons_zero, List.getD_cons_succ, SV.res, Bool.and_self, Option.map_some, fzL, List.foldl_nil, SV.ids, List.flatMap_cons, List.flatMap_nil, SV.pvS, SV.pvSL, and_self, resK, resSV, oneSV]
      · have h3 : is = true ∧ okF (L.getD k 0) := by cases is <;> simp at h2 ⊢; exact h2
        have hw : IntKind.i64.wrap ((k : Int) + 1) = ((k + 1 : Nat) : Int) := (wrap_i64_id (by unfold i64; omega)).trans (by omega)
        simp only [run_nil, run_skip, run_eb, run_ops, run_opsNil, run_op0, Ins.kind, IOp.apps, List.any_cons, List.any_nil, pev, Ins.calm, Ins.opds, sureL, evS, St.put, List.getD_cons_zero, List.getD_cons_succ, List.set_cons_zero, List.set_cons_succ, SV.res, SV.strip, SV.sure, binV, if_true, Bool.false_eq_true, if_false, true_and, Nat.zero_add, Nat.reduceAdd, cond_false, Bool.and_self, Bool.true_and, forgetL, List.contains_cons, List.contains_nil, Nat.reduceBEq, Bool.or_false, Bool.or_true, Bool.or_self, beq_self_eq_true, and_self, SV.ren, SV.renL, hw]
        refine ⟨L.length - (k + 1), [0], by simp, by omega, k + 1, by omega, rfl, fun _ => h3.1, fun i hi => ?_, rfl⟩
        rcases Nat.lt_or_ge i k with h | h
        · exact hall i h
        · rw [show i = k by omega]; exact h3.2
    · have hk2 : k = L.length := by omega
      have hyes : is = true ∧ ∀ x ∈ L, okF x := by
        refine ⟨his (by omega), fun x hx => ?_⟩
        obtain ⟨i, hi, rfl⟩ := List.getElem_of_mem hx
        have := hall i (by omega)
        rwa [List.getD_eq_getElem?_getD, List.getElem?_eq_getElem hi] at this
      unfold td
      rw [if_pos hyes]
      simp only [run_seq, run_ops, run_opsNil, run_ret, run_exit, runX_nil, runX_ir, runX_eb, run_op0, Ins.kind, IOp.apps, List.any_cons, List.any_nil, pev, Ins.calm, Ins.opds, sureL, evS, St.put, List.getD_cons_zero, List.getD_cons_succ, List.set_cons_zero, List.set_cons_succ, SV.res, SV.strip, SV.sure, if_true, true_and, cond_false, Bool.true_and, Nat.reduceBEq, Bool.or_self]
      simp only [List.append_nil, List.getD_cons_zero, List.getD_cons_succ, SV.res, Bool.and_self, Option.map_some, fzL, List.foldl_nil, SV.ids, List.flatMap_cons, List.flatMap_nil, SV.pvS, SV.pvSL, and_self, resK, resSV, oneSV]
  | false =>
    simp only [run_seq, run_ops, run_opsNil, run_block, run_op0, run_bsl, runB, run_appI, runAI, okB, Ins.kind, IOp.apps, List.any_cons, List.any_nil, pev, Ins.calm, Ins.opds, sureL, evS, St.put, List.map, List.length_cons, List.length_nil, List.replicate, List.cons_append, List.nil_append, List.append_nil, List.getD_cons_zero, List.getD_cons_succ, List.set_cons_zero, List.set_cons_succ, SV.res, SV.strip, SV.sure, if_true, Bool.false_eq_true, if_false, true_and, Nat.reduceSub, Nat.zero_add, Nat.reduceAdd, cond_true, cond_false, Bool.and_self, Bool.true_and, Nat.reduceLeDiff, Nat.reduceBEq, Bool.or_false, Bool.or_true, Bool.or_self, Option.map_some, fzL, List.foldl_nil, SV.ids, List.flatMap_cons, List.flatMap_nil, SV.pvS, SV.pvSL, SV.see, OB.pv, intsOf, beq_self_eq_true, and_self, ir_fx_told, Try.results112]
    refine ⟨by omega, by omega, ?_⟩
    have hLc : ((l.length : Nat) : Int) + 1 = ((L.length : Nat) : Int) := by omega
    refine run_loop (fun m S => ∃ k : Nat, k ≤ L.length ∧ m = L.length - k ∧ (0 < k → is = true) ∧ (∀ i, i < k → okF (L.getD i 0)) ∧ S = ⟨slots 28 0 [(0, .p (.int .i64 n)), (1, .p (.bool is)), (13, .row 0), (14, .p (.int .i64 ((L.length : Nat) : Int))), (15, .p (.int .i64 k))], [.irow 3 .i64 false false L]⟩) ?_ ?_
    · refine ⟨L.length, [1], by simp, 0, by omega, rfl, by omega, fun i h => absurd h (by omega), ?_⟩
      rw [hL]
      rfl
    rintro m S' ⟨k, hk, rfl, his, hall, rfl⟩
    simp only [run_seq, run_ops, run_opsNil, run_op0, run_cond, Ins.kind, IOp.apps, List.any_cons, List.any_nil, pev, Ins.calm, Ins.opds, sureL, evS, St.put, List.getD_cons_zero, List.getD_cons_succ, List.set_cons_zero, List.set_cons_succ, SV.res, SV.strip, SV.sure, binV, if_true, if_false, true_and, Nat.zero_add, Nat.reduceAdd, cond_false, Bool.and_self, Bool.true_and, St.forget, slots, Nat.reduceBEq, Bool.or_self, Nat.reduceEqDiff, and_self]
    refine runC_dec (fun h1 => ?_) (fun h1 => ?_)
    · have cr := fn_fx_Right G (L.getD k 0)
      simp only [run_skip, run_seq, run_ops, run_opsNil, run_block, run_op0, run_opG, run_cond, run_pick, runP, Ins.kind, IOp.apps, List.any_cons, List.any_nil, gAct, pev, Ins.calm, Ins.opds, sureL, evS, St.put, List.getD_cons_zero, List.getD_cons_succ, List.set_cons_zero, List.set_cons_succ, SV.res, SV.strip, SV.sure, SV.ld, if_true, Bool.false_eq_true, if_false, SV.mix, true_and, implies_true, cond_false, Bool.and_self, Bool.true_and, Nat.reduceBEq, Bool.or_self, imp_self, Bool.not_eq_true', and_self, Int.toNat_natCast]
      refine ⟨by omega, by omega, ?_⟩
      refine run_callG (fun _ => cr) _ rfl (by exact fun h => ⟨trivial, h⟩) rfl rfl rfl trivial trivial ?_
      simp only [run_opsNil, run_op0, run_opG, run_cond, run_pick, runP, gAct, pev, Ins.calm, Ins.opds, sureL, evS, St.put, List.append_nil, List.getD_cons_zero, List.getD_cons_succ, List.set_cons_zero, List.set_cons_succ, SV.res, SV.strip, SV.sure, if_true, Bool.false_eq_true, if_false, SV.mix, true_and, and_true, implies_true, cond_false, Bool.and_true, Bool.true_and, fzL, List.foldl_nil, SV.ids, boxIds, List.flatMap_cons, List.flatMap_nil, PV.flat, imp_self, Bool.not_eq_true', Bool.cond_true_left, Bool.not_not]
      refine ⟨by simp, ?_⟩
      refine runC_of (fun h2 => ?_) (fun h2 => ?_)
      · have hno : ¬ (is = true ∧ ∀ x ∈ L, okF x) := by
          rintro ⟨a, b⟩
          rw [a] at h2
          simp at h2
          exact h2 (b _ (by rw [List.getElem?_eq_getElem (by omega)]; exact List.getElem_mem _))
        unfold td
        rw [if_neg hno]
        simp only [run_seq, run_ops, run_opsNil, run_ret, runX_ret, run_op0, Ins.kind, IOp.apps, List.any_cons, List.any_nil, pev, Ins.calm, Ins.opds, sureL, evS, St.put, List.set_cons_zero, List.set_cons_succ, SV.strip, SV.sure, if_true, true_and, cond_false, Bool.true_and, Nat.reduceBEq, Bool.or_self]
        simp only [List.append_nil, List.getD_cons_zero, List.getD_cons_succ, SV.res, Bool.and_self, Option.map_some, fzL, List.foldl_nil, SV.ids, List.flatMap_cons, List.flatMap_nil, SV.pvS, SV.pvSL, and_self, resK, resSV, oneSV]
      · have h3 : is = true ∧ okF (L.getD k 0) := by cases is <;> simp at h2 ⊢; exact h2
        have hw : IntKind.i64.wrap ((k : Int) + 1) = ((k + 1 : Nat) : Int) := (wrap_i64_id (by unfold i64; omega)).trans (by omega)
        simp only [run_nil, run_skip, run_eb, run_ops, run_opsNil, run_op0, Ins.kind, IOp.apps, List.any_cons, List.any_nil, pev, Ins.calm, Ins.opds, sureL, evS, St.put, List.getD_cons_zero, List.getD_cons_succ, List.set_cons_zero, List.set_cons_succ, SV.res, SV.strip, SV.sure, binV, if_true, Bool.false_eq_true, if_false, true_and, Nat.zero_add, Nat.reduceAdd, cond_false, Bool.and_self, Bool.true_and, forgetL, List.contains_cons, List.contains_nil, Nat.reduceBEq, Bool.or_false, Bool.or_true, Bool.or_self, beq_self_eq_true, and_self, SV.ren, SV.renL, hw]
        refine ⟨L.length - (k + 1), [0], by simp, by omega, k + 1, by omega, rfl, fun _ => h3.1, fun i hi => ?_, rfl⟩
        rcases Nat.lt_or_ge i k with h | h
        · exact hall i h
        · rw [show i = k by omega]; exact h3.2
    · have hk2 : k = L.length := by omega
      have hyes : is = true ∧ ∀ x ∈ L, okF x := by
        refine ⟨his (by omega), fun x hx => ?_⟩
        obtain ⟨i, hi, rfl⟩ := List.getElem_of_mem hx
        have := hall i (by omega)
        rwa [List.getD_eq_getElem?_getD, List.getElem?_eq_getElem hi] at this
      unfold td
      rw [if_pos hyes]
      simp only [run_seq, run_ops, run_opsNil, run_ret, run_exit, runX_nil, runX_ir, runX_eb, run_op0, Ins.kind, IOp.apps, List.any_cons, List.any_nil, pev, Ins.calm, Ins.opds, sureL, evS, St.put, List.getD_cons_zero, List.getD_cons_succ, List.set_cons_zero, List.set_cons_succ, SV.res, SV.strip, SV.sure, if_true, true_and, cond_false, Bool.true_and, Nat.reduceBEq, Bool.or_self]
      simp only [List.append_nil, List.getD_cons_zero, List.getD_cons_succ, SV.res, Bool.and_self, Option.map_some, fzL, List.foldl_nil, SV.ids, List.flatMap_cons, List.flatMap_nil, SV.pvS, SV.pvSL, and_self, resK, resSV, oneSV]
def fAdd (a b : Int) : Int × Bool := if okF a ∧ okF b then td (a + b) true [a + b] else (0, false)
def fMul (a b m : Int) : Int × Bool := td (md a b 16777216 m).1 (md a b 16777216 m).2 [a, b, (md a b 16777216 m).1]
def fOf (n : Int) : Int × Bool := td (md n 16777216 1 0).1 (md n 16777216 1 0).2 [(md n 16777216 1 0).1]
theorem fn_fx_Of (G : Glob) (n : Int) (hn : i64 n) : FunEq Try.prog G 84 [.int .i64 n] (.tup [.int .i64 (fOf n).1, .bool (fOf n).2]) := by
  have c1 := fn_wide_MulDiv G n 16777216 1 0 hn (by unfold i64; omega) (by unfold i64; omega) (by unfold i64; omega)
  unfold fOf
  generalize md n 16777216 1 0 = x at *
  obtain ⟨x, is⟩ := x
  have c2 := fn_told G x is true [] (by simp) (fun _ => rfl)
  refine fun_of_vc live_fx_Of Try.func84 rfl (by kernel_rfl) ok_fx_Of (by kernel_rfl) Try.ntmps84 (run_of ?_)
  simp only [run_seq, run_ops, run_opsNil, run_ret, run_op0, Ins.kind, IOp.apps, List.any_cons, List.any_nil, pev, Ins.calm, Ins.opds, sureL, evS, St.put, List.map, List.length_cons, List.length_nil, List.replicate, List.cons_append, List.nil_append, List.getD_cons_zero, List.getD_cons_succ, List.set_cons_zero, List.set_cons_succ, SV.res, SV.strip, SV.sure, if_true, Bool.false_eq_true, if_false, true_and, Nat.reduceSub, Nat.zero_add, cond_false, Bool.and_self, Bool.true_and, Nat.reduceBEq, Bool.or_self, and_self, ir_fx_Of, Try.results84]
  refine run_call c1 _ rfl (by exact ⟨trivial, trivial, trivial, trivial, trivial⟩) rfl rfl rfl trivial trivial ?_
  simp only [run_seq, run_ops, run_opsNil, run_ret, run_op0, Ins.kind, IOp.apps, List.any_cons, List.any_nil, pev, Ins.calm, Ins.opds, sureL, evS, St.put, List.length_cons, List.length_nil, List.nil_append, List.append_nil, List.getD_cons_zero, List.getD_cons_succ, List.set_cons_zero, List.set_cons_succ, SV.res, SV.strip, SV.sure, if_true, Bool.false_eq_true, if_false, true_and, Nat.zero_add, Nat.reduceAdd, cond_false, Bool.and_self, Bool.true_and, Nat.reduceLT, Nat.reduceBEq, Bool.or_self, fzL, List.foldl_nil, SV.ids, boxIds, List.flatMap_cons, List.flatMap_nil, PV.flat, PV.flatL, and_self, List.getD_nil]
  refine run_call c2 _ rfl (by exact ⟨trivial, trivial, trivial, trivial⟩) rfl rfl rfl trivial trivial ?_
  simp only [run_opsNil, run_ret, run_op0, pev, Ins.calm, Ins.opds, sureL, evS, St.put, List.length_cons, List.length_nil, List.nil_append, List.append_nil, List.getD_cons_zero, List.getD_cons_succ, List.set_cons_zero, List.set_cons_succ, SV.res, SV.strip, SV.sure, if_true, true_and, Nat.zero_add, Nat.reduceAdd, Bool.and_self, Bool.true_and, Nat.reduceLT, fzL, List.foldl_nil, SV.ids, boxIds, List.flatMap_cons, List.flatMap_nil, PV.flat, PV.flatL, and_self, List.getD_nil]
  simp only [List.append_nil, List.getD_cons_zero, List.getD_cons_succ, SV.res, Bool.and_self, Option.map_some, fzL, List.foldl_nil, SV.ids, List.flatMap_cons, List.flatMap_nil, SV.pvS, SV.pvSL, and_self, resK, resSV, oneSV]
theorem fn_fx_Add (G : Glob) (a b : Int) : FunEq Try.prog G 87 [.int .i64 a, .int .i64 b] (.tup [.int .i64 (fAdd a b).1, .bool (fAdd a b).2]) := by
  have ca := fn_fx_Right G a
  have cb := fn_fx_Right G b
  refine fun_of_vc live_fx_Add Try.func87 rfl (by kernel_rfl) ok_fx_Add (by kernel_rfl) Try.ntmps87 (run_of ?_)
  unfold fAdd
  simp only [run_seq, run_ops, run_opsNil, run_op0, run_opG, Ins.kind, IOp.apps, List.any_cons, List.any_nil, gAct, pev, Ins.calm, Ins.opds, sureL, evS, St.put, List.map, List.length_cons, List.length_nil, List.replicate, List.cons_append, List.nil_append, List.getD_cons_zero, List.getD_cons_succ, List.set_cons_zero, List.set_cons_succ, SV.res, SV.strip, SV.sure, if_true, Bool.false_eq_true, if_false, true_and, Nat.reduceSub, Nat.zero_add, Nat.reduceAdd, cond_false, Bool.and_self, Bool.true_and, Nat.reduceBEq, Bool.or_self, and_self, ir_fx_Add, Try.results87]
  refine run_call ca _ rfl (by exact ⟨trivial, trivial⟩) rfl rfl rfl trivial trivial ?_
  simp only [run_opsNil, run_op0, run_opG, run_cond, run_pick, runP, gAct, pev, Ins.calm, Ins.opds, sureL, evS, St.put, List.nil_append, List.append_nil, List.getD_cons_zero, List.getD_cons_succ, List.set_cons_zero, List.set_cons_succ, SV.res, SV.strip, SV.sure, if_true, Bool.false_eq_true, if_false, SV.mix, true_and, implies_true, cond_false, Bool.and_self, Bool.true_and, fzL, List.foldl_nil, SV.ids, boxIds, List.flatMap_cons, List.flatMap_nil, PV.flat, Bool.not_eq_true', and_self, List.getD_nil, Bool.not_not]
  refine run_callG (fun _ => cb) _ rfl (by exact fun h => ⟨trivial, h⟩) rfl rfl rfl trivial trivial ?_
  simp only [run_opsNil, run_op0, run_opG, run_cond, run_pick, runP, gAct, pev, Ins.calm, Ins.opds, sureL, evS, St.put, List.nil_append, List.append_nil, List.getD_cons_zero, List.getD_cons_succ, List.set_cons_zero, List.set_cons_succ, SV.res, SV.strip, SV.sure, if_true, Bool.false_eq_true, if_false, SV.mix, true_and, and_true, implies_true, cond_false, Bool.and_true, Bool.true_and, fzL, List.foldl_nil, SV.ids, boxIds, List.flatMap_cons, List.flatMap_nil, PV.flat, imp_self, Bool.not_eq_true', List.getD_nil, Bool.cond_true_left, Bool.not_not]
  refine ⟨by simp, ?_⟩
  refine runC_of (fun h => ?_) (fun h => ?_)
  · rw [if_neg (fun x => by rw [decide_eq_true x.1, decide_eq_true x.2] at h; cases h)]
    simp only [run_seq, run_ops, run_opsNil, run_ret, run_op0, Ins.kind, IOp.apps, List.any_cons, List.any_nil, pev, Ins.calm, Ins.opds, sureL, evS, St.put, List.set_cons_zero, List.set_cons_succ, SV.strip, SV.sure, if_true, true_and, cond_false, Bool.true_and, Nat.reduceBEq, Bool.or_self]
    simp only [List.append_nil, List.getD_cons_zero, List.getD_cons_succ, SV.res, Bool.and_self, Option.map_some, fzL, List.foldl_nil, SV.ids, List.flatMap_cons, List.flatMap_nil, SV.pvS, SV.pvSL, and_self, resK, resSV, oneSV]
  · have hok : okF a ∧ okF b := by simpa using h
    rw [if_pos hok]
    have c2 := fn_told G (a + b) true true [] (by simp) (fun _ => rfl)
    have hw : IntKind.i64.wrap (a + b) = a + b := wrap_i64_id (by unfold okF at hok; unfold i64; omega)
    simp only [run_skip, run_seq, run_ops, run_opsNil, run_ret, run_op0, Ins.kind, IOp.apps, List.any_cons, List.any_nil, pev, Ins.calm, Ins.opds, sureL, evS, St.put, List.getD_cons_zero, List.getD_cons_succ, List.set_cons_zero, List.set_cons_succ, SV.res, SV.strip, SV.sure, binV, if_true, Bool.false_eq_true, if_false, true_and, cond_false, Bool.and_self, Bool.true_and, Nat.reduceBEq, Bool.or_self, and_self, hw]
    refine run_call c2 _ rfl (by exact ⟨trivial, trivial, trivial, trivial⟩) rfl rfl rfl trivial trivial ?_
    simp only [run_opsNil, run_ret, run_op0, pev, Ins.calm, Ins.opds, sureL, evS, St.put, List.length_cons, List.length_nil, List.nil_append, List.append_nil, List.getD_cons_zero, List.getD_cons_succ, List.set_cons_zero, List.set_cons_succ, SV.res, SV.strip, SV.sure, if_true, true_and, Nat.zero_add, Nat.reduceAdd, Bool.and_self, Bool.true_and, Nat.reduceLT, fzL, List.foldl_nil, SV.ids, boxIds, List.flatMap_cons, List.flatMap_nil, PV.flat, PV.flatL, and_self, List.getD_nil]
    simp only [List.append_nil, List.getD_cons_zero, List.getD_cons_succ, SV.res, Bool.and_self, Option.map_some, fzL, List.foldl_nil, SV.ids, List.flatMap_cons, List.flatMap_nil, SV.pvS, SV.pvSL, and_self, resK, resSV, oneSV]
theorem fn_fx_Mul (G : Glob) (a b m : Int) (ha : i64 a) (hb : i64 b) (hm : i64 m) : FunEq Try.prog G 89 [.int .i64 a, .int .i64 b, .int .i64 m] (.tup [.int .i64 (fMul a b m).1, .bool (fMul a b m).2]) := by
  have c1 := fn_wide_MulDiv G a b 16777216 m ha hb (by unfold i64; omega) hm
  unfold fMul
  generalize md a b 16777216 m = x at *
  obtain ⟨x, is⟩ := x
  have c2 := fn_told G x is false [a, b] (by simp) (fun h => by cases h)
  refine fun_of_vc live_fx_Mul Try.func89 rfl (by kernel_rfl) ok_fx_Mul (by kernel_rfl) Try.ntmps89 (run_of ?_)
  simp only [run_seq, run_ops, run_opsNil, run_ret, run_op0, run_bsl, runB, okB, Ins.kind, IOp.apps, List.any_cons, List.any_nil, pev, Ins.calm, Ins.opds, sureL, evS, St.put, List.map, List.length_cons, List.length_nil, List.replicate, List.cons_append, List.nil_append, List.append_nil, List.getD_cons_zero, List.getD_cons_succ, List.set_cons_zero, List.set_cons_succ, SV.res, SV.strip, SV.sure, if_true, Bool.false_eq_true, if_false, true_and, Nat.reduceSub, Nat.zero_add, Nat.reduceAdd, cond_true, cond_false, Bool.and_self, Bool.true_and, Nat.reduceBEq, Bool.or_false, Bool.or_true, Bool.or_self, Option.map_some, fzL, List.foldl_nil, SV.ids, List.flatMap_cons, List.flatMap_nil, SV.pvS, SV.pvSL, intsOf, beq_self_eq_true, and_self, ir_fx_Mul, Try.results89]
  refine run_call c1 _ rfl (by exact ⟨trivial, trivial, trivial, trivial, trivial⟩) rfl rfl rfl trivial trivial ?_
  simp only [run_seq, run_ops, run_opsNil, run_ret, run_op0, run_bsl, runB, okB, Ins.kind, IOp.apps, List.any_cons, List.any_nil, pev, Ins.calm, Ins.opds, sureL, evS, St.put, List.map, List.length_cons, List.length_nil, List.nil_append, List.append_nil, List.getD_cons_zero, List.getD_cons_succ, List.set_cons_zero, List.set_cons_succ, SV.res, SV.strip, SV.sure, if_true, Bool.false_eq_true, if_false, true_and, Nat.zero_add, Nat.reduceAdd, cond_true, cond_false, Bool.and_self, Bool.true_and, Nat.reduceLT, Nat.reduceBEq, Bool.or_false, Bool.or_true, Bool.or_self, Option.map_some, fzL, List.foldl_nil, SV.ids, boxIds, List.flatMap_cons, List.flatMap_nil, SV.pvS, SV.pvSL, PV.flat, PV.flatL, intsOf, beq_self_eq_true, and_self, List.getD_nil]
  refine run_call c2 _ rfl (by exact ⟨trivial, trivial, trivial, trivial⟩) rfl rfl rfl trivial trivial ?_
  simp only [run_opsNil, run_ret, run_op0, pev, Ins.calm, Ins.opds, sureL, evS, St.put, List.length_cons, List.length_nil, List.cons_append, List.nil_append, List.append_nil, List.getD_cons_zero, List.getD_cons_succ, List.set_cons_zero, List.set_cons_succ, SV.res, SV.strip, SV.sure, if_true, true_and, Nat.zero_add, Nat.reduceAdd, Bool.and_self, Bool.true_and, Nat.reduceLT, fzL, fz1, List.foldl_cons, List.foldl_nil, SV.ids, boxIds, List.flatMap_cons, List.flatMap_nil, PV.flat, PV.flatL, and_self]
  simp only [List.append_nil, List.getD_cons_zero, List.getD_cons_succ, SV.res, Bool.and_self, Option.map_some, fzL, List.foldl_nil, SV.ids, List.flatMap_cons, List.flatMap_nil, SV.pvS, SV.pvSL, and_self, resK, resSV, oneSV]
end Go.Proofs
