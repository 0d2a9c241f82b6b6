import Derived.Test.YtbfhholefjngpaaWSBa
import Derived.Test.YtbfhholefjngpaaFxFin
import Derived.Test.YtbfhholefjngpaaChecked
set_option linter.unusedVariables false
set_option maxRecDepth 100000
noncomputable section
namespace Go.Proofs
open Go Go.Fx

def xr_coupletlaw03_EnvHolds_1 : XR := (.seq (.ops false [⟨⟨(some 2), (.box 36 (.tmp 0)), none⟩, none⟩, ⟨⟨(some 3), (.box 36 (.tmp 1)), none⟩, none⟩, ⟨⟨(some 4), (.mv (.c (.bool false))), none⟩, none⟩]) (.seq (.ops false [⟨⟨(some 5), (.fldA 3 (.tmp 3)), none⟩, none⟩, ⟨⟨(some 6), (.ld false 1 (.tmp 5)), none⟩, (some .bool)⟩, ⟨⟨(some 7), (.mv (.tmp 6)), none⟩, none⟩, ⟨⟨(some 8), (.fldA 3 (.tmp 2)), (some (7, false))⟩, none⟩, ⟨⟨(some 9), (.ld false 1 (.tmp 8)), (some (7, false))⟩, (some .bool)⟩, ⟨⟨(some 10), (.un .not (.tmp 9)), (some (7, false))⟩, none⟩, ⟨⟨(some 11), (.mv (.tmp 10)), (some (7, false))⟩, none⟩, ⟨⟨(some 12), (.fldA 1 (.tmp 3)), (some (11, true))⟩, none⟩, ⟨⟨(some 13), (.ld false 1 (.tmp 12)), (some (11, true))⟩, (some (.int .i64))⟩, ⟨⟨(some 14), (.fldA 1 (.tmp 2)), (some (11, true))⟩, none⟩, ⟨⟨(some 15), (.ld false 1 (.tmp 14)), (some (11, true))⟩, (some (.int .i64))⟩, ⟨⟨(some 16), (.bin .leq (.tmp 13) (.tmp 15)), (some (11, true))⟩, none⟩, ⟨⟨(some 17), (.pick (.tmp 11) (.tmp 16) (.c (.bool false))), (some (7, false))⟩, none⟩, ⟨⟨(some 18), (.mv (.tmp 17)), (some (7, false))⟩, none⟩, ⟨⟨(some 19), (.fldA 2 (.tmp 2)), (some (18, true))⟩, none⟩, ⟨⟨(some 20), (.ld false 1 (.tmp 19)), (some (18, true))⟩, (some (.int .i64))⟩, ⟨⟨(some 21), (.fldA 2 (.tmp 3)), (some (18, true))⟩, none⟩, ⟨⟨(some 22), (.ld false 1 (.tmp 21)), (some (18, true))⟩, (some (.int .i64))⟩, ⟨⟨(some 23), (.bin .leq (.tmp 20) (.tmp 22)), (some (18, true))⟩, none⟩, ⟨⟨(some 24), (.pick (.tmp 18) (.tmp 23) (.c (.bool false))), (some (7, false))⟩, none⟩, ⟨⟨(some 25), (.pick (.tmp 7) (.c (.bool true)) (.tmp 24)), none⟩, none⟩, ⟨⟨(some 4), (.mv (.tmp 25)), none⟩, none⟩]) .ret))
def rs_coupletlaw03_EnvHolds_1 : List ResultVar := [(.tmp 4)]
theorem ir_coupletlaw03_EnvHolds_1 : compCode Try.prog (Try.f62.body.getD .skip) [] = some (xr_coupletlaw03_EnvHolds_1.erase, []) := by kernel_rfl
/-! coupletlaw03_EnvHolds_1 -/
def gm_coupletlaw03_EnvHolds_1 : Gam := Gam.bot
theorem gk_coupletlaw03_EnvHolds_1 : GamOk Try.prog GG gm_coupletlaw03_EnvHolds_1 := GamOk.bot
def lm_coupletlaw03_EnvHolds_1 : Lam := fun _ j S kn ke => match j with
  | _ => .fail
/-- coupletlaw03_EnvHolds_1 -/
def go_coupletlaw03_EnvHolds_1 (n0 : Int) (n1 : Int) (n2 : Int) (b3 : Bool) (n4 : Int) (n5 : Int) (n6 : Int) (b7 : Bool) : Option Bool :=
  bif b7 then
   some true
  else
   bif (!b3) then
    bif (decide (n5 ≤ n1)) then
     some (decide (n2 ≤ n6))
    else
     some false
   else
    some false
def em_coupletlaw03_EnvHolds_1 (r : Bool) : PV := (.bool r)
def rh_coupletlaw03_EnvHolds_1 : Shp := .bool
def ra_coupletlaw03_EnvHolds_1 (v : PV) : Bool := v.tru
def kf_coupletlaw03_EnvHolds_1 (v : PV) : Tree Bool := .chk (rh_coupletlaw03_EnvHolds_1.ok v) (.leaf (ra_coupletlaw03_EnvHolds_1 v))
theorem rn_coupletlaw03_EnvHolds_1 (n0 : Int) (n1 : Int) (n2 : Int) (b3 : Bool) (n4 : Int) (n5 : Int) (n6 : Int) (b7 : Bool) : (ev GG gm_coupletlaw03_EnvHolds_1 lm_coupletlaw03_EnvHolds_1 xr_coupletlaw03_EnvHolds_1 ⟨slots 26 0 [(0, .p (.agg [(.int .i64 n0), (.int .i64 n1), (.int .i64 n2), (.bool b3)])), (1, .p (.agg [(.int .i64 n4), (.int .i64 n5), (.int .i64 n6), (.bool b7)]))], []⟩ (fun S => finT Try.prog rs_coupletlaw03_EnvHolds_1 S kf_coupletlaw03_EnvHolds_1) (retT Try.prog rs_coupletlaw03_EnvHolds_1 kf_coupletlaw03_EnvHolds_1)).run = go_coupletlaw03_EnvHolds_1 n0 n1 n2 b3 n4 n5 n6 b7 := by kernel_rfl
theorem ok_coupletlaw03_EnvHolds_1 (n0 : Int) (n1 : Int) (n2 : Int) (b3 : Bool) (n4 : Int) (n5 : Int) (n6 : Int) (b7 : Bool) (r : Bool) (h : go_coupletlaw03_EnvHolds_1 n0 n1 n2 b3 n4 n5 n6 b7 = some r) : FunEq Try.prog GG 62 [(.agg [(.int .i64 n0), (.int .i64 n1), (.int .i64 n2), (.bool b3)]), (.agg [(.int .i64 n4), (.int .i64 n5), (.int .i64 n6), (.bool b7)])] (em_coupletlaw03_EnvHolds_1 r) :=
  fun_of_ev (x := xr_coupletlaw03_EnvHolds_1) (Λ := lm_coupletlaw03_EnvHolds_1) gk_coupletlaw03_EnvHolds_1 [] Try.func62 rfl (by kernel_rfl) ir_coupletlaw03_EnvHolds_1 (by kernel_rfl) (congrArg Array.toList Try.results62) Try.ntmps62 (⟨trivial, ⟨trivial, trivial⟩⟩) (leaf_of fun v => (by kernel_rfl : rh_coupletlaw03_EnvHolds_1.build v = em_coupletlaw03_EnvHolds_1 (ra_coupletlaw03_EnvHolds_1 v))) (by kernel_rfl) ((rn_coupletlaw03_EnvHolds_1 n0 n1 n2 b3 n4 n5 n6 b7).trans h)
def as_coupletlaw03_EnvHolds_1 : List Shp := [(.agg [(.int .i64), (.int .i64), (.int .i64), .bool]), (.agg [(.int .i64), (.int .i64), (.int .i64), .bool])]
def ga_coupletlaw03_EnvHolds_1 (vs : List PV) : Option Bool := go_coupletlaw03_EnvHolds_1 (((tls 0 vs).headD .nilSl).subs.headD .nilSl).num (((tls 0 vs).headD .nilSl).subs.tail.headD .nilSl).num (((tls 0 vs).headD .nilSl).subs.tail.tail.headD .nilSl).num (((tls 0 vs).headD .nilSl).subs.tail.tail.tail.headD .nilSl).tru (((tls 1 vs).headD .nilSl).subs.headD .nilSl).num (((tls 1 vs).headD .nilSl).subs.tail.headD .nilSl).num (((tls 1 vs).headD .nilSl).subs.tail.tail.headD .nilSl).num (((tls 1 vs).headD .nilSl).subs.tail.tail.tail.headD .nilSl).tru
theorem at_coupletlaw03_EnvHolds_1 : FnAt Try.prog GG 62 as_coupletlaw03_EnvHolds_1 ga_coupletlaw03_EnvHolds_1 em_coupletlaw03_EnvHolds_1 := fun vs h r hr => by
  have e : Shp.buildL as_coupletlaw03_EnvHolds_1 vs = [(.agg [(.int .i64 (((tls 0 vs).headD .nilSl).subs.headD .nilSl).num), (.int .i64 (((tls 0 vs).headD .nilSl).subs.tail.headD .nilSl).num), (.int .i64 (((tls 0 vs).headD .nilSl).subs.tail.tail.headD .nilSl).num), (.bool (((tls 0 vs).headD .nilSl).subs.tail.tail.tail.headD .nilSl).tru)]), (.agg [(.int .i64 (((tls 1 vs).headD .nilSl).subs.headD .nilSl).num), (.int .i64 (((tls 1 vs).headD .nilSl).subs.tail.headD .nilSl).num), (.int .i64 (((tls 1 vs).headD .nilSl).subs.tail.tail.headD .nilSl).num), (.bool (((tls 1 vs).headD .nilSl).subs.tail.tail.tail.headD .nilSl).tru)])] := by kernel_rfl
  rw [← Shp.buildL_eq _ h, e]
  exact ok_coupletlaw03_EnvHolds_1 _ _ _ _ _ _ _ _ r hr

def xr_coupletlaw03_EnvHolds : XR := (.seq (.ops false [⟨⟨(some 4), (.box 36 (.tmp 0)), none⟩, none⟩, ⟨⟨(some 5), (.box 36 (.tmp 1)), none⟩, none⟩, ⟨⟨(some 8), (.mv (.c (.bool false))), none⟩, none⟩]) (.seq (.seq (.ops false [⟨⟨(some 12), (.ld true 4 (.tmp 4)), none⟩, (some (.agg [(.int .i64), (.int .i64), (.int .i64), .bool]))⟩, ⟨⟨(some 13), (.call (.func 47) [(.tmp 12)]), none⟩, none⟩, ⟨⟨(some 14), (.un .not (.tmp 13)), none⟩, none⟩, ⟨⟨(some 15), (.mv (.tmp 14)), none⟩, none⟩, ⟨⟨(some 16), (.ld true 4 (.tmp 5)), (some (15, false))⟩, (some (.agg [(.int .i64), (.int .i64), (.int .i64), .bool]))⟩, ⟨⟨(some 17), (.call (.func 47) [(.tmp 16)]), (some (15, false))⟩, none⟩, ⟨⟨(some 18), (.un .not (.tmp 17)), (some (15, false))⟩, none⟩, ⟨⟨(some 19), (.pick (.tmp 15) (.c (.bool true)) (.tmp 18)), none⟩, none⟩]) (.cond (.tmp 19) (.seq (.ops false [⟨⟨(some 20), (.call (.func 42) []), none⟩, none⟩, ⟨⟨(some 8), (.mv (.tmp 20)), none⟩, none⟩]) .ret) .skip)) (.seq (.ops true [⟨⟨(some 21), (.mv (.tmp 2)), none⟩, none⟩, ⟨⟨(some 22), (.fldA 1 (.tmp 4)), none⟩, none⟩, ⟨⟨(some 23), (.ld false 1 (.tmp 22)), none⟩, (some (.int .i64))⟩, ⟨⟨(some 24), (.maxs [(.tmp 21), (.tmp 23)]), none⟩, none⟩, ⟨⟨(some 25), (.fldA 2 (.tmp 4)), none⟩, none⟩, ⟨⟨(some 26), (.ld false 1 (.tmp 25)), none⟩, (some (.int .i64))⟩, ⟨⟨(some 27), (.mins [(.tmp 24), (.tmp 26)]), none⟩, none⟩, ⟨⟨(some 28), (.mv (.tmp 3)), none⟩, none⟩, ⟨⟨(some 29), (.fldA 1 (.tmp 5)), none⟩, none⟩, ⟨⟨(some 30), (.ld false 1 (.tmp 29)), none⟩, (some (.int .i64))⟩, ⟨⟨(some 31), (.maxs [(.tmp 28), (.tmp 30)]), none⟩, none⟩, ⟨⟨(some 32), (.fldA 2 (.tmp 5)), none⟩, none⟩, ⟨⟨(some 33), (.ld false 1 (.tmp 32)), none⟩, (some (.int .i64))⟩, ⟨⟨(some 34), (.mins [(.tmp 31), (.tmp 33)]), none⟩, none⟩, ⟨⟨(some 2), (.mv (.tmp 27)), none⟩, none⟩, ⟨⟨(some 3), (.mv (.tmp 34)), none⟩, none⟩]) (.seq (.ops false [⟨⟨(some 35), (.mv (.tmp 2)), none⟩, none⟩, ⟨⟨(some 36), (.call (.func 35) [(.tmp 35)]), none⟩, none⟩, ⟨⟨(some 37), (.mv (.tmp 3)), none⟩, none⟩, ⟨⟨(some 38), (.call (.func 35) [(.tmp 37)]), none⟩, none⟩, ⟨⟨(some 9), (.alloc 36 [(.int .i64 (0)), (.int .i64 (0)), (.int .i64 (0)), (.bool false)]), none⟩, none⟩, ⟨⟨(some 10), (.alloc 36 [(.int .i64 (0)), (.int .i64 (0)), (.int .i64 (0)), (.bool false)]), none⟩, none⟩, ⟨⟨none, (.st 4 (.tmp 9) (.tmp 36)), none⟩, none⟩, ⟨⟨none, (.st 4 (.tmp 10) (.tmp 38)), none⟩, none⟩]) (.seq (.ops false [⟨⟨(some 11), (.mv (.func 62)), none⟩, none⟩]) (.seq (.ops true [⟨⟨(some 39), (.mv (.tmp 11)), none⟩, none⟩, ⟨⟨(some 40), (.ld true 4 (.tmp 9)), none⟩, (some (.agg [(.int .i64), (.int .i64), (.int .i64), .bool]))⟩, ⟨⟨(some 41), (.ld true 4 (.tmp 10)), none⟩, (some (.agg [(.int .i64), (.int .i64), (.int .i64), .bool]))⟩, ⟨⟨(some 42), (.call (.func 43) [(.tmp 40), (.tmp 41)]), none⟩, none⟩, ⟨⟨(some 43), (.ld true 4 (.tmp 4)), none⟩, (some (.agg [(.int .i64), (.int .i64), (.int .i64), .bool]))⟩, ⟨⟨(some 44), (.ld true 4 (.tmp 5)), none⟩, (some (.agg [(.int .i64), (.int .i64), (.int .i64), .bool]))⟩, ⟨⟨(some 45), (.call (.func 43) [(.tmp 43), (.tmp 44)]), none⟩, none⟩, ⟨⟨(some 46), (.call (.tmp 39) [(.tmp 42), (.tmp 45)]), none⟩, none⟩, ⟨⟨(some 47), (.mv (.tmp 46)), none⟩, none⟩, ⟨⟨(some 48), (.mv (.tmp 11)), (some (47, true))⟩, none⟩, ⟨⟨(some 49), (.ld true 4 (.tmp 9)), (some (47, true))⟩, (some (.agg [(.int .i64), (.int .i64), (.int .i64), .bool]))⟩, ⟨⟨(some 50), (.ld true 4 (.tmp 10)), (some (47, true))⟩, (some (.agg [(.int .i64), (.int .i64), (.int .i64), .bool]))⟩, ⟨⟨(some 51), (.call (.func 45) [(.tmp 49), (.tmp 50)]), (some (47, true))⟩, none⟩, ⟨⟨(some 52), (.ld true 4 (.tmp 4)), (some (47, true))⟩, (some (.agg [(.int .i64), (.int .i64), (.int .i64), .bool]))⟩, ⟨⟨(some 53), (.ld true 4 (.tmp 5)), (some (47, true))⟩, (some (.agg [(.int .i64), (.int .i64), (.int .i64), .bool]))⟩, ⟨⟨(some 54), (.call (.func 45) [(.tmp 52), (.tmp 53)]), (some (47, true))⟩, none⟩, ⟨⟨(some 55), (.call (.tmp 48) [(.tmp 51), (.tmp 54)]), (some (47, true))⟩, none⟩, ⟨⟨(some 56), (.pick (.tmp 47) (.tmp 55) (.c (.bool false))), none⟩, none⟩, ⟨⟨(some 57), (.mv (.tmp 56)), none⟩, none⟩, ⟨⟨(some 58), (.mv (.tmp 11)), (some (57, true))⟩, none⟩, ⟨⟨(some 59), (.ld true 4 (.tmp 9)), (some (57, true))⟩, (some (.agg [(.int .i64), (.int .i64), (.int .i64), .bool]))⟩, ⟨⟨(some 60), (.ld true 4 (.tmp 10)), (some (57, true))⟩, (some (.agg [(.int .i64), (.int .i64), (.int .i64), .bool]))⟩, ⟨⟨(some 61), (.call (.func 44) [(.tmp 59), (.tmp 60)]), (some (57, true))⟩, none⟩, ⟨⟨(some 62), (.ld true 4 (.tmp 4)), (some (57, true))⟩, (some (.agg [(.int .i64), (.int .i64), (.int .i64), .bool]))⟩, ⟨⟨(some 63), (.ld true 4 (.tmp 5)), (some (57, true))⟩, (some (.agg [(.int .i64), (.int .i64), (.int .i64), .bool]))⟩, ⟨⟨(some 64), (.call (.func 44) [(.tmp 62), (.tmp 63)]), (some (57, true))⟩, none⟩, ⟨⟨(some 65), (.call (.tmp 58) [(.tmp 61), (.tmp 64)]), (some (57, true))⟩, none⟩, ⟨⟨(some 66), (.pick (.tmp 57) (.tmp 65) (.c (.bool false))), none⟩, none⟩, ⟨⟨(some 67), (.mv (.tmp 66)), none⟩, none⟩, ⟨⟨(some 68), (.mv (.tmp 11)), (some (67, true))⟩, none⟩, ⟨⟨(some 69), (.ld true 4 (.tmp 9)), (some (67, true))⟩, (some (.agg [(.int .i64), (.int .i64), (.int .i64), .bool]))⟩, ⟨⟨(some 70), (.ld true 4 (.tmp 10)), (some (67, true))⟩, (some (.agg [(.int .i64), (.int .i64), (.int .i64), .bool]))⟩, ⟨⟨(some 71), (.call (.func 49) [(.tmp 69), (.tmp 70)]), (some (67, true))⟩, none⟩, ⟨⟨(some 72), (.ld true 4 (.tmp 4)), (some (67, true))⟩, (some (.agg [(.int .i64), (.int .i64), (.int .i64), .bool]))⟩, ⟨⟨(some 73), (.ld true 4 (.tmp 5)), (some (67, true))⟩, (some (.agg [(.int .i64), (.int .i64), (.int .i64), .bool]))⟩, ⟨⟨(some 74), (.call (.func 49) [(.tmp 72), (.tmp 73)]), (some (67, true))⟩, none⟩, ⟨⟨(some 75), (.call (.tmp 68) [(.tmp 71), (.tmp 74)]), (some (67, true))⟩, none⟩, ⟨⟨(some 76), (.pick (.tmp 67) (.tmp 75) (.c (.bool false))), none⟩, none⟩, ⟨⟨(some 77), (.mv (.tmp 76)), none⟩, none⟩, ⟨⟨(some 78), (.mv (.tmp 11)), (some (77, true))⟩, none⟩, ⟨⟨(some 79), (.ld true 4 (.tmp 9)), (some (77, true))⟩, (some (.agg [(.int .i64), (.int .i64), (.int .i64), .bool]))⟩, ⟨⟨(some 80), (.call (.func 60) [(.tmp 79)]), (some (77, true))⟩, none⟩, ⟨⟨(some 81), (.ld true 4 (.tmp 4)), (some (77, true))⟩, (some (.agg [(.int .i64), (.int .i64), (.int .i64), .bool]))⟩, ⟨⟨(some 82), (.call (.func 60) [(.tmp 81)]), (some (77, true))⟩, none⟩, ⟨⟨(some 83), (.call (.tmp 78) [(.tmp 80), (.tmp 82)]), (some (77, true))⟩, none⟩, ⟨⟨(some 84), (.pick (.tmp 77) (.tmp 83) (.c (.bool false))), none⟩, none⟩, ⟨⟨(some 85), (.mv (.tmp 84)), none⟩, none⟩, ⟨⟨(some 86), (.mv (.tmp 11)), (some (85, true))⟩, none⟩, ⟨⟨(some 87), (.ld true 4 (.tmp 9)), (some (85, true))⟩, (some (.agg [(.int .i64), (.int .i64), (.int .i64), .bool]))⟩, ⟨⟨(some 88), (.call (.func 40) [(.tmp 87)]), (some (85, true))⟩, none⟩, ⟨⟨(some 89), (.ld true 4 (.tmp 4)), (some (85, true))⟩, (some (.agg [(.int .i64), (.int .i64), (.int .i64), .bool]))⟩, ⟨⟨(some 90), (.call (.func 40) [(.tmp 89)]), (some (85, true))⟩, none⟩, ⟨⟨(some 91), (.call (.tmp 86) [(.tmp 88), (.tmp 90)]), (some (85, true))⟩, none⟩, ⟨⟨(some 92), (.pick (.tmp 85) (.tmp 91) (.c (.bool false))), none⟩, none⟩, ⟨⟨(some 93), (.mv (.tmp 92)), none⟩, none⟩, ⟨⟨(some 94), (.call (.func 42) []), (some (93, true))⟩, none⟩, ⟨⟨(some 95), (.pick (.tmp 93) (.tmp 94) (.c (.bool false))), none⟩, none⟩, ⟨⟨(some 8), (.mv (.tmp 95)), none⟩, none⟩]) .ret))))))
def rs_coupletlaw03_EnvHolds : List ResultVar := [(.tmp 8)]
theorem ir_coupletlaw03_EnvHolds : compCode Try.prog (Try.f19.body.getD .skip) [] = some (xr_coupletlaw03_EnvHolds.erase, []) := by kernel_rfl
/-! coupletlaw03_EnvHolds -/
def gm_coupletlaw03_EnvHolds : Gam := (Gam.fn 47 as_env_Num_Fine ga_env_Num_Fine em_env_Num_Fine (Gam.fn 42 as_coupletlaw03_awake ga_coupletlaw03_awake em_coupletlaw03_awake (Gam.fn 35 as_env_Point ga_env_Point em_env_Point (Gam.fn 43 as_env_Num_Add ga_env_Num_Add em_env_Num_Add (Gam.fn 62 as_coupletlaw03_EnvHolds_1 ga_coupletlaw03_EnvHolds_1 em_coupletlaw03_EnvHolds_1 (Gam.fn 45 as_env_Num_Sub ga_env_Num_Sub em_env_Num_Sub (Gam.fn 44 as_env_Num_Mul ga_env_Num_Mul em_env_Num_Mul (Gam.fn 49 as_env_Num_Div ga_env_Num_Div em_env_Num_Div (Gam.fn 60 as_env_Num_Root ga_env_Num_Root em_env_Num_Root (Gam.fn 40 as_env_Num_Neg ga_env_Num_Neg em_env_Num_Neg Gam.bot))))))))))
theorem gk_coupletlaw03_EnvHolds : GamOk Try.prog GG gm_coupletlaw03_EnvHolds := (GamOk.fn at_env_Num_Fine (GamOk.fn at_coupletlaw03_awake (GamOk.fn at_env_Point (GamOk.fn at_env_Num_Add (GamOk.fn at_coupletlaw03_EnvHolds_1 (GamOk.fn at_env_Num_Sub (GamOk.fn at_env_Num_Mul (GamOk.fn at_env_Num_Div (GamOk.fn at_env_Num_Root (GamOk.fn at_env_Num_Neg GamOk.bot))))))))))
def lm_coupletlaw03_EnvHolds : Lam := fun _ j S kn ke => match j with
  | _ => .fail
/-- coupletlaw03_EnvHolds -/
def go_coupletlaw03_EnvHolds (n0 : Int) (n1 : Int) (n2 : Int) (b3 : Bool) (n4 : Int) (n5 : Int) (n6 : Int) (b7 : Bool) (n8 : Int) (n9 : Int) : Option Bool :=
  (go_env_Num_Fine n0 n1 n2 b3).bind fun r10 =>
  bif (!r10) then
   (go_coupletlaw03_awake).bind fun r11 =>
   some r11
  else
   (go_env_Num_Fine n4 n5 n6 b7).bind fun r12 =>
   bif (!r12) then
    (go_coupletlaw03_awake).bind fun r13 =>
    some r13
   else
    (go_env_Point (min (max n8 n1) n2)).bind fun r14 =>
    (go_env_Point (min (max n9 n5) n6)).bind fun r15 =>
    (go_env_Num_Add r14.1 r14.2.1 r14.2.2.1 r14.2.2.2 r15.1 r15.2.1 r15.2.2.1 r15.2.2.2).bind fun r16 =>
    (go_env_Num_Add n0 n1 n2 b3 n4 n5 n6 b7).bind fun r17 =>
    (go_coupletlaw03_EnvHolds_1 r16.1 r16.2.1 r16.2.2.1 r16.2.2.2 r17.1 r17.2.1 r17.2.2.1 r17.2.2.2).bind fun r18 =>
    bif r18 then
     (go_env_Num_Sub r14.1 r14.2.1 r14.2.2.1 r14.2.2.2 r15.1 r15.2.1 r15.2.2.1 r15.2.2.2).bind fun r19 =>
     (go_env_Num_Sub n0 n1 n2 b3 n4 n5 n6 b7).bind fun r20 =>
     (go_coupletlaw03_EnvHolds_1 r19.1 r19.2.1 r19.2.2.1 r19.2.2.2 r20.1 r20.2.1 r20.2.2.1 r20.2.2.2).bind fun r21 =>
     bif r21 then
      (go_env_Num_Mul r14.1 r14.2.1 r14.2.2.1 r14.2.2.2 r15.1 r15.2.1 r15.2.2.1 r15.2.2.2).bind fun r22 =>
      (go_env_Num_Mul n0 n1 n2 b3 n4 n5 n6 b7).bind fun r23 =>
      (go_coupletlaw03_EnvHolds_1 r22.1 r22.2.1 r22.2.2.1 r22.2.2.2 r23.1 r23.2.1 r23.2.2.1 r23.2.2.2).bind fun r24 =>
      bif r24 then
       (go_env_Num_Div r14.1 r14.2.1 r14.2.2.1 r14.2.2.2 r15.1 r15.2.1 r15.2.2.1 r15.2.2.2).bind fun r25 =>
       (go_env_Num_Div n0 n1 n2 b3 n4 n5 n6 b7).bind fun r26 =>
       (go_coupletlaw03_EnvHolds_1 r25.1 r25.2.1 r25.2.2.1 r25.2.2.2 r26.1 r26.2.1 r26.2.2.1 r26.2.2.2).bind fun r27 =>
       bif r27 then
        (go_env_Num_Root r14.1 r14.2.1 r14.2.2.1 r14.2.2.2).bind fun r28 =>
        (go_env_Num_Root n0 n1 n2 b3).bind fun r29 =>
        (go_coupletlaw03_EnvHolds_1 r28.1 r28.2.1 r28.2.2.1 r28.2.2.2 r29.1 r29.2.1 r29.2.2.1 r29.2.2.2).bind fun r30 =>
        bif r30 then
         (go_env_Num_Neg r14.1 r14.2.1 r14.2.2.1 r14.2.2.2).bind fun r31 =>
         (go_env_Num_Neg n0 n1 n2 b3).bind fun r32 =>
         (go_coupletlaw03_EnvHolds_1 r31.1 r31.2.1 r31.2.2.1 r31.2.2.2 r32.1 r32.2.1 r32.2.2.1 r32.2.2.2).bind fun r33 =>
         bif r33 then
          (go_coupletlaw03_awake).bind fun r34 =>
          some r34
         else
          some false
        else
         some false
       else
        some false
      else
       some false
     else
      some false
    else
     some false
def em_coupletlaw03_EnvHolds (r : Bool) : PV := (.bool r)
def rh_coupletlaw03_EnvHolds : Shp := .bool
def ra_coupletlaw03_EnvHolds (v : PV) : Bool := v.tru
def kf_coupletlaw03_EnvHolds (v : PV) : Tree Bool := .chk (rh_coupletlaw03_EnvHolds.ok v) (.leaf (ra_coupletlaw03_EnvHolds v))
theorem rn_coupletlaw03_EnvHolds (n0 : Int) (n1 : Int) (n2 : Int) (b3 : Bool) (n4 : Int) (n5 : Int) (n6 : Int) (b7 : Bool) (n8 : Int) (n9 : Int) : (ev GG gm_coupletlaw03_EnvHolds lm_coupletlaw03_EnvHolds xr_coupletlaw03_EnvHolds ⟨slots 96 0 [(0, .p (.agg [(.int .i64 n0), (.int .i64 n1), (.int .i64 n2), (.bool b3)])), (1, .p (.agg [(.int .i64 n4), (.int .i64 n5), (.int .i64 n6), (.bool b7)])), (2, .p (.int .i64 n8)), (3, .p (.int .i64 n9))], []⟩ (fun S => finT Try.prog rs_coupletlaw03_EnvHolds S kf_coupletlaw03_EnvHolds) (retT Try.prog rs_coupletlaw03_EnvHolds kf_coupletlaw03_EnvHolds)).run = go_coupletlaw03_EnvHolds n0 n1 n2 b3 n4 n5 n6 b7 n8 n9 := by kernel_rfl
theorem ok_coupletlaw03_EnvHolds (n0 : Int) (n1 : Int) (n2 : Int) (b3 : Bool) (n4 : Int) (n5 : Int) (n6 : Int) (b7 : Bool) (n8 : Int) (n9 : Int) (r : Bool) (h : go_coupletlaw03_EnvHolds n0 n1 n2 b3 n4 n5 n6 b7 n8 n9 = some r) : FunEq Try.prog GG 19 [(.agg [(.int .i64 n0), (.int .i64 n1), (.int .i64 n2), (.bool b3)]), (.agg [(.int .i64 n4), (.int .i64 n5), (.int .i64 n6), (.bool b7)]), (.int .i64 n8), (.int .i64 n9)] (em_coupletlaw03_EnvHolds r) :=
  fun_of_ev (x := xr_coupletlaw03_EnvHolds) (Λ := lm_coupletlaw03_EnvHolds) gk_coupletlaw03_EnvHolds [] Try.func19 rfl (by kernel_rfl) ir_coupletlaw03_EnvHolds (by kernel_rfl) (congrArg Array.toList Try.results19) Try.ntmps19 (⟨trivial, ⟨⟨trivial, ⟨⟨trivial, trivial⟩, trivial⟩⟩, ⟨trivial, ⟨trivial, ⟨trivial, ⟨trivial, trivial⟩⟩⟩⟩⟩⟩) (leaf_of fun v => (by kernel_rfl : rh_coupletlaw03_EnvHolds.build v = em_coupletlaw03_EnvHolds (ra_coupletlaw03_EnvHolds v))) (by kernel_rfl) ((rn_coupletlaw03_EnvHolds n0 n1 n2 b3 n4 n5 n6 b7 n8 n9).trans h)
def as_coupletlaw03_EnvHolds : List Shp := [(.agg [(.int .i64), (.int .i64), (.int .i64), .bool]), (.agg [(.int .i64), (.int .i64), (.int .i64), .bool]), (.int .i64), (.int .i64)]
def ga_coupletlaw03_EnvHolds (vs : List PV) : Option Bool := go_coupletlaw03_EnvHolds (((tls 0 vs).headD .nilSl).subs.headD .nilSl).num (((tls 0 vs).headD .nilSl).subs.tail.headD .nilSl).num (((tls 0 vs).headD .nilSl).subs.tail.tail.headD .nilSl).num (((tls 0 vs).headD .nilSl).subs.tail.tail.tail.headD .nilSl).tru (((tls 1 vs).headD .nilSl).subs.headD .nilSl).num (((tls 1 vs).headD .nilSl).subs.tail.headD .nilSl).num (((tls 1 vs).headD .nilSl).subs.tail.tail.headD .nilSl).num (((tls 1 vs).headD .nilSl).subs.tail.tail.tail.headD .nilSl).tru ((tls 2 vs).headD .nilSl).num ((tls 3 vs).headD .nilSl).num
theorem at_coupletlaw03_EnvHolds : FnAt Try.prog GG 19 as_coupletlaw03_EnvHolds ga_coupletlaw03_EnvHolds em_coupletlaw03_EnvHolds := fun vs h r hr => by
  have e : Shp.buildL as_coupletlaw03_EnvHolds vs = [(.agg [(.int .i64 (((tls 0 vs).headD .nilSl).subs.headD .nilSl).num), (.int .i64 (((tls 0 vs).headD .nilSl).subs.tail.headD .nilSl).num), (.int .i64 (((tls 0 vs).headD .nilSl).subs.tail.tail.headD .nilSl).num), (.bool (((tls 0 vs).headD .nilSl).subs.tail.tail.tail.headD .nilSl).tru)]), (.agg [(.int .i64 (((tls 1 vs).headD .nilSl).subs.headD .nilSl).num), (.int .i64 (((tls 1 vs).headD .nilSl).subs.tail.headD .nilSl).num), (.int .i64 (((tls 1 vs).headD .nilSl).subs.tail.tail.headD .nilSl).num), (.bool (((tls 1 vs).headD .nilSl).subs.tail.tail.tail.headD .nilSl).tru)]), (.int .i64 ((tls 2 vs).headD .nilSl).num), (.int .i64 ((tls 3 vs).headD .nilSl).num)] := by kernel_rfl
  rw [← Shp.buildL_eq _ h, e]
  exact ok_coupletlaw03_EnvHolds _ _ _ _ _ _ _ _ _ _ r hr
end Go.Proofs
