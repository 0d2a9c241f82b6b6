import Derived.Test.YtbfhholefjngpaaWSBb
import Derived.Test.YtbfhholefjngpaaFxFin
import Derived.Test.YtbfhholefjngpaaChecked
set_option linter.unusedVariables false
set_option maxRecDepth 100000
noncomputable section
namespace Go.Proofs
open Go Go.Fx
def xr_coupletref02_Right : XR := (.seq (.ops false [⟨⟨(some 2), (.mv (.c (.bool false))), none⟩, none⟩]) (.seq (.ops false [⟨⟨(some 3), (.mv (.tmp 0)), none⟩, none⟩, ⟨⟨(some 4), (.bin .geq (.tmp 3) (.c (.int .i64 (-1125899906842624)))), none⟩, none⟩, ⟨⟨(some 5), (.mv (.tmp 4)), none⟩, none⟩, ⟨⟨(some 6), (.mv (.tmp 0)), (some (5, true))⟩, none⟩, ⟨⟨(some 7), (.bin .leq (.tmp 6) (.c (.int .i64 (1125899906842624)))), (some (5, true))⟩, none⟩, ⟨⟨(some 8), (.pick (.tmp 5) (.tmp 7) (.c (.bool false))), none⟩, none⟩, ⟨⟨(some 2), (.mv (.tmp 8)), none⟩, none⟩]) .ret))
def rs_coupletref02_Right : List ResultVar := [(.tmp 2)]
theorem ir_coupletref02_Right : compCode Try.prog (Try.f104.body.getD .skip) [] = some (xr_coupletref02_Right.erase, []) := by kernel_rfl
def gm_coupletref02_Right : Gam := Gam.bot
theorem gk_coupletref02_Right : GamOk Try.prog GG gm_coupletref02_Right := GamOk.bot
def lm_coupletref02_Right : Lam := fun _ j S kn ke => match j with
  | _ => .fail
def go_coupletref02_Right (n0 : Int) : Option Bool :=
  bif (decide (n0 ≥ (-1125899906842624))) then
   some (decide (n0 ≤ 1125899906842624))
  else
   some false
def em_coupletref02_Right (r : Bool) : PV := (.bool r)
def rh_coupletref02_Right : Shp := .bool
def ra_coupletref02_Right (v : PV) : Bool := v.tru
def kf_coupletref02_Right (v : PV) : Tree Bool := .chk (rh_coupletref02_Right.ok v) (.leaf (ra_coupletref02_Right v))
theorem rn_coupletref02_Right (n0 : Int) : (ev GG gm_coupletref02_Right lm_coupletref02_Right xr_coupletref02_Right ⟨slots 9 0 [(0, .p (.int .i64 n0))], []⟩ (fun S => finT Try.prog rs_coupletref02_Right S kf_coupletref02_Right) (retT Try.prog rs_coupletref02_Right kf_coupletref02_Right)).run = go_coupletref02_Right n0 := by kernel_rfl
theorem ok_coupletref02_Right (n0 : Int) (r : Bool) (h : go_coupletref02_Right n0 = some r) : FunEq Try.prog GG 104 [(.int .i64 n0)] (em_coupletref02_Right r) :=
  fun_of_ev (x := xr_coupletref02_Right) (Λ := lm_coupletref02_Right) gk_coupletref02_Right [] Try.func104 rfl (by kernel_rfl) ir_coupletref02_Right (by kernel_rfl) (congrArg Array.toList Try.results104) Try.ntmps104 (⟨trivial, ⟨trivial, trivial⟩⟩) (leaf_of fun v => (by kernel_rfl : rh_coupletref02_Right.build v = em_coupletref02_Right (ra_coupletref02_Right v))) (by kernel_rfl) ((rn_coupletref02_Right n0).trans h)
def as_coupletref02_Right : List Shp := [(.int .i64)]
def ga_coupletref02_Right (vs : List PV) : Option Bool := go_coupletref02_Right ((tls 0 vs).headD .nilSl).num
theorem at_coupletref02_Right : FnAt Try.prog GG 104 as_coupletref02_Right ga_coupletref02_Right em_coupletref02_Right := fun vs h r hr => by
  have e : Shp.buildL as_coupletref02_Right vs = [(.int .i64 ((tls 0 vs).headD .nilSl).num)] := by kernel_rfl
  rw [← Shp.buildL_eq _ h, e]
  exact .inl ⟨by decide, ok_coupletref02_Right _ r hr⟩
def xr_coupletref03_Fine : XR := (.seq (.ops false [⟨⟨(some 1), (.box 40 (.tmp 0)), none⟩, none⟩, ⟨⟨(some 2), (.mv (.c (.bool false))), none⟩, none⟩]) (.seq (.ops false [⟨⟨(some 3), (.fldA 3 (.tmp 1)), none⟩, none⟩, ⟨⟨(some 4), (.ld false 1 (.tmp 3)), none⟩, (some .bool)⟩, ⟨⟨(some 5), (.un .not (.tmp 4)), none⟩, none⟩, ⟨⟨(some 6), (.mv (.tmp 5)), none⟩, none⟩, ⟨⟨(some 7), (.fldA 1 (.tmp 1)), (some (6, true))⟩, none⟩, ⟨⟨(some 8), (.ld false 1 (.tmp 7)), (some (6, true))⟩, (some (.int .i64))⟩, ⟨⟨(some 9), (.call (.func 104) [(.tmp 8)]), (some (6, true))⟩, none⟩, ⟨⟨(some 10), (.pick (.tmp 6) (.tmp 9) (.c (.bool false))), none⟩, none⟩, ⟨⟨(some 11), (.mv (.tmp 10)), none⟩, none⟩, ⟨⟨(some 12), (.fldA 2 (.tmp 1)), (some (11, true))⟩, none⟩, ⟨⟨(some 13), (.ld false 1 (.tmp 12)), (some (11, true))⟩, (some (.int .i64))⟩, ⟨⟨(some 14), (.call (.func 104) [(.tmp 13)]), (some (11, true))⟩, none⟩, ⟨⟨(some 15), (.pick (.tmp 11) (.tmp 14) (.c (.bool false))), none⟩, none⟩, ⟨⟨(some 16), (.mv (.tmp 15)), none⟩, none⟩, ⟨⟨(some 17), (.fldA 1 (.tmp 1)), (some (16, true))⟩, none⟩, ⟨⟨(some 18), (.ld false 1 (.tmp 17)), (some (16, true))⟩, (some (.int .i64))⟩, ⟨⟨(some 19), (.fldA 0 (.tmp 1)), (some (16, true))⟩, none⟩, ⟨⟨(some 20), (.ld false 1 (.tmp 19)), (some (16, true))⟩, (some (.int .i64))⟩, ⟨⟨(some 21), (.bin .leq (.tmp 18) (.tmp 20)), (some (16, true))⟩, none⟩, ⟨⟨(some 22), (.pick (.tmp 16) (.tmp 21) (.c (.bool false))), none⟩, none⟩, ⟨⟨(some 23), (.mv (.tmp 22)), none⟩, none⟩, ⟨⟨(some 24), (.fldA 0 (.tmp 1)), (some (23, true))⟩, none⟩, ⟨⟨(some 25), (.ld false 1 (.tmp 24)), (some (23, true))⟩, (some (.int .i64))⟩, ⟨⟨(some 26), (.fldA 2 (.tmp 1)), (some (23, true))⟩, none⟩, ⟨⟨(some 27), (.ld false 1 (.tmp 26)), (some (23, true))⟩, (some (.int .i64))⟩, ⟨⟨(some 28), (.bin .leq (.tmp 25) (.tmp 27)), (some (23, true))⟩, none⟩, ⟨⟨(some 29), (.pick (.tmp 23) (.tmp 28) (.c (.bool false))), none⟩, none⟩, ⟨⟨(some 2), (.mv (.tmp 29)), none⟩, none⟩]) .ret))
def rs_coupletref03_Fine : List ResultVar := [(.tmp 2)]
theorem ir_coupletref03_Fine : compCode Try.prog (Try.f61.body.getD .skip) [] = some (xr_coupletref03_Fine.erase, []) := by kernel_rfl
def gm_coupletref03_Fine : Gam := (Gam.fn 104 as_coupletref02_Right ga_coupletref02_Right em_coupletref02_Right Gam.bot)
theorem gk_coupletref03_Fine : GamOk Try.prog GG gm_coupletref03_Fine := (GamOk.fn at_coupletref02_Right GamOk.bot)
def lm_coupletref03_Fine : Lam := fun _ j S kn ke => match j with
  | _ => .fail
def go_coupletref03_Fine (n0 : Int) (n1 : Int) (n2 : Int) (b3 : Bool) : Option Bool :=
  bif (!b3) then
   (go_coupletref02_Right n1).bind fun r4 =>
   bif r4 then
    (go_coupletref02_Right n2).bind fun r5 =>
    bif r5 then
     bif (decide (n1 ≤ n0)) then
      some (decide (n0 ≤ n2))
     else
      some false
    else
     some false
   else
    some false
  else
   some false
def em_coupletref03_Fine (r : Bool) : PV := (.bool r)
def rh_coupletref03_Fine : Shp := .bool
def ra_coupletref03_Fine (v : PV) : Bool := v.tru
def kf_coupletref03_Fine (v : PV) : Tree Bool := .chk (rh_coupletref03_Fine.ok v) (.leaf (ra_coupletref03_Fine v))
theorem rn_coupletref03_Fine (n0 : Int) (n1 : Int) (n2 : Int) (b3 : Bool) : (ev GG gm_coupletref03_Fine lm_coupletref03_Fine xr_coupletref03_Fine ⟨slots 30 0 [(0, .p (.agg [(.int .i64 n0), (.int .i64 n1), (.int .i64 n2), (.bool b3)]))], []⟩ (fun S => finT Try.prog rs_coupletref03_Fine S kf_coupletref03_Fine) (retT Try.prog rs_coupletref03_Fine kf_coupletref03_Fine)).run = go_coupletref03_Fine n0 n1 n2 b3 := by kernel_rfl
theorem ok_coupletref03_Fine (n0 : Int) (n1 : Int) (n2 : Int) (b3 : Bool) (r : Bool) (h : go_coupletref03_Fine n0 n1 n2 b3 = some r) : FunEq Try.prog GG 61 [(.agg [(.int .i64 n0), (.int .i64 n1), (.int .i64 n2), (.bool b3)])] (em_coupletref03_Fine r) :=
  fun_of_ev (x := xr_coupletref03_Fine) (Λ := lm_coupletref03_Fine) gk_coupletref03_Fine [] Try.func61 rfl (by kernel_rfl) ir_coupletref03_Fine (by kernel_rfl) (congrArg Array.toList Try.results61) Try.ntmps61 (⟨trivial, ⟨trivial, trivial⟩⟩) (leaf_of fun v => (by kernel_rfl : rh_coupletref03_Fine.build v = em_coupletref03_Fine (ra_coupletref03_Fine v))) (by kernel_rfl) ((rn_coupletref03_Fine n0 n1 n2 b3).trans h)
def as_coupletref03_Fine : List Shp := [(.agg [(.int .i64), (.int .i64), (.int .i64), .bool])]
def ga_coupletref03_Fine (vs : List PV) : Option Bool := go_coupletref03_Fine (((tls 0 vs).headD .nilSl).subs.headD .nilSl).num (((tls 0 vs).headD .nilSl).subs.tail.headD .nilSl).num (((tls 0 vs).headD .nilSl).subs.tail.tail.headD .nilSl).num (((tls 0 vs).headD .nilSl).subs.tail.tail.tail.headD .nilSl).tru
theorem at_coupletref03_Fine : FnAt Try.prog GG 61 as_coupletref03_Fine ga_coupletref03_Fine em_coupletref03_Fine := fun vs h r hr => by
  have e : Shp.buildL as_coupletref03_Fine vs = [(.agg [(.int .i64 (((tls 0 vs).headD .nilSl).subs.headD .nilSl).num), (.int .i64 (((tls 0 vs).headD .nilSl).subs.tail.headD .nilSl).num), (.int .i64 (((tls 0 vs).headD .nilSl).subs.tail.tail.headD .nilSl).num), (.bool (((tls 0 vs).headD .nilSl).subs.tail.tail.tail.headD .nilSl).tru)])] := by kernel_rfl
  rw [← Shp.buildL_eq _ h, e]
  exact .inl ⟨by decide, ok_coupletref03_Fine _ _ _ _ r hr⟩
def xr_coupletref02_Told : XR := (.seq (.ops false [⟨⟨(some 4), (.mv (.c (.int .i64 (0)))), none⟩, none⟩, ⟨⟨(some 5), (.mv (.c (.bool false))), none⟩, none⟩]) (.seq (.seq (.ops false [⟨⟨(some 6), (.mv (.tmp 1)), none⟩, none⟩, ⟨⟨(some 7), (.un .not (.tmp 6)), none⟩, none⟩, ⟨⟨(some 8), (.mv (.tmp 7)), none⟩, none⟩, ⟨⟨(some 9), (.mv (.tmp 0)), (some (8, false))⟩, none⟩, ⟨⟨(some 10), (.call (.func 104) [(.tmp 9)]), (some (8, false))⟩, none⟩, ⟨⟨(some 11), (.un .not (.tmp 10)), (some (8, false))⟩, none⟩, ⟨⟨(some 12), (.pick (.tmp 8) (.c (.bool true)) (.tmp 11)), none⟩, none⟩]) (.cond (.tmp 12) (.seq (.ops false [⟨⟨(some 4), (.mv (.c (.int .i64 (0)))), none⟩, none⟩, ⟨⟨(some 5), (.mv (.c (.bool false))), none⟩, none⟩]) .ret) .skip)) (.seq (.ops false [⟨⟨(some 13), (.mv (.tmp 0)), none⟩, none⟩, ⟨⟨(some 4), (.mv (.tmp 13)), none⟩, none⟩, ⟨⟨(some 5), (.mv (.c (.bool true))), none⟩, none⟩]) .ret)))
def rs_coupletref02_Told : List ResultVar := [(.tmp 4), (.tmp 5)]
theorem ir_coupletref02_Told : compCode Try.prog (Try.f113.body.getD .skip) [] = some (xr_coupletref02_Told.erase, []) := by kernel_rfl
def gm_coupletref02_Told : Gam := (Gam.fn 104 as_coupletref02_Right ga_coupletref02_Right em_coupletref02_Right Gam.bot)
theorem gk_coupletref02_Told : GamOk Try.prog GG gm_coupletref02_Told := (GamOk.fn at_coupletref02_Right GamOk.bot)
def lm_coupletref02_Told : Lam := fun _ j S kn ke => match j with
  | _ => .fail
def go_coupletref02_Told (n0 : Int) (b1 : Bool) : Option (Int × Bool) :=
  bif (!b1) then
   some (0, false)
  else
   (go_coupletref02_Right n0).bind fun r2 =>
   bif (!r2) then
    some (0, false)
   else
    some (n0, true)
def em_coupletref02_Told (r : (Int × Bool)) : PV := (.tup [(.int .i64 r.1), (.bool r.2)])
def rh_coupletref02_Told : Shp := (.tup [(.int .i64), .bool])
def ra_coupletref02_Told (v : PV) : (Int × Bool) := ((v.subs.headD .nilSl).num, (v.subs.tail.headD .nilSl).tru)
def kf_coupletref02_Told (v : PV) : Tree (Int × Bool) := .chk (rh_coupletref02_Told.ok v) (.leaf (ra_coupletref02_Told v))
theorem rn_coupletref02_Told (n0 : Int) (b1 : Bool) : (ev GG gm_coupletref02_Told lm_coupletref02_Told xr_coupletref02_Told ⟨slots 14 0 [(0, .p (.int .i64 n0)), (1, .p (.bool b1))], []⟩ (fun S => finT Try.prog rs_coupletref02_Told S kf_coupletref02_Told) (retT Try.prog rs_coupletref02_Told kf_coupletref02_Told)).run = go_coupletref02_Told n0 b1 := by kernel_rfl
theorem ok_coupletref02_Told (n0 : Int) (b1 : Bool) (r : (Int × Bool)) (h : go_coupletref02_Told n0 b1 = some r) : FunEq Try.prog GG 113 [(.int .i64 n0), (.bool b1)] (em_coupletref02_Told r) :=
  fun_of_ev (x := xr_coupletref02_Told) (Λ := lm_coupletref02_Told) gk_coupletref02_Told [] Try.func113 rfl (by kernel_rfl) ir_coupletref02_Told (by kernel_rfl) (congrArg Array.toList Try.results113) Try.ntmps113 (⟨trivial, ⟨⟨trivial, ⟨⟨trivial, trivial⟩, trivial⟩⟩, ⟨trivial, trivial⟩⟩⟩) (leaf_of fun v => (by kernel_rfl : rh_coupletref02_Told.build v = em_coupletref02_Told (ra_coupletref02_Told v))) (by kernel_rfl) ((rn_coupletref02_Told n0 b1).trans h)
def as_coupletref02_Told : List Shp := [(.int .i64), .bool]
def ga_coupletref02_Told (vs : List PV) : Option (Int × Bool) := go_coupletref02_Told ((tls 0 vs).headD .nilSl).num ((tls 1 vs).headD .nilSl).tru
theorem at_coupletref02_Told : FnAt Try.prog GG 113 as_coupletref02_Told ga_coupletref02_Told em_coupletref02_Told := fun vs h r hr => by
  have e : Shp.buildL as_coupletref02_Told vs = [(.int .i64 ((tls 0 vs).headD .nilSl).num), (.bool ((tls 1 vs).headD .nilSl).tru)] := by kernel_rfl
  rw [← Shp.buildL_eq _ h, e]
  exact .inl ⟨by decide, ok_coupletref02_Told _ _ r hr⟩
def xr_coupletref02_Mul : XR := (.seq (.ops false [⟨⟨(some 6), (.mv (.c (.int .i64 (0)))), none⟩, none⟩, ⟨⟨(some 7), (.mv (.c (.bool false))), none⟩, none⟩]) (.seq (.seq (.ops false [⟨⟨(some 10), (.mv (.tmp 0)), none⟩, none⟩, ⟨⟨(some 11), (.call (.func 104) [(.tmp 10)]), none⟩, none⟩, ⟨⟨(some 12), (.un .not (.tmp 11)), none⟩, none⟩, ⟨⟨(some 13), (.mv (.tmp 12)), none⟩, none⟩, ⟨⟨(some 14), (.mv (.tmp 1)), (some (13, false))⟩, none⟩, ⟨⟨(some 15), (.call (.func 104) [(.tmp 14)]), (some (13, false))⟩, none⟩, ⟨⟨(some 16), (.un .not (.tmp 15)), (some (13, false))⟩, none⟩, ⟨⟨(some 17), (.pick (.tmp 13) (.c (.bool true)) (.tmp 16)), none⟩, none⟩]) (.cond (.tmp 17) (.seq (.ops false [⟨⟨(some 6), (.mv (.c (.int .i64 (0)))), none⟩, none⟩, ⟨⟨(some 7), (.mv (.c (.bool false))), none⟩, none⟩]) .ret) .skip)) (.seq (.ops false [⟨⟨(some 19), (.mv (.tmp 0)), none⟩, none⟩, ⟨⟨(some 20), (.mv (.tmp 1)), none⟩, none⟩, ⟨⟨(some 21), (.mv (.tmp 2)), none⟩, none⟩, ⟨⟨(some 22), (.call (.func 25) [(.tmp 19), (.tmp 20), (.c (.int .i64 (16777216))), (.tmp 21)]), none⟩, none⟩, ⟨⟨(some 18), (.mv (.tmp 22)), none⟩, none⟩, ⟨⟨(some 23), (.ext (.tmp 18) 0), none⟩, none⟩, ⟨⟨(some 24), (.ext (.tmp 18) 1), none⟩, none⟩, ⟨⟨(some 8), (.mv (.tmp 23)), none⟩, none⟩, ⟨⟨(some 9), (.mv (.tmp 24)), none⟩, none⟩]) (.seq (.ops false [⟨⟨(some 25), (.mv (.tmp 8)), none⟩, none⟩, ⟨⟨(some 26), (.mv (.tmp 9)), none⟩, none⟩, ⟨⟨(some 27), (.call (.func 113) [(.tmp 25), (.tmp 26)]), none⟩, none⟩, ⟨⟨(some 28), (.ext (.tmp 27) 0), none⟩, none⟩, ⟨⟨(some 29), (.ext (.tmp 27) 1), none⟩, none⟩, ⟨⟨(some 6), (.mv (.tmp 28)), none⟩, none⟩, ⟨⟨(some 7), (.mv (.tmp 29)), none⟩, none⟩]) .ret))))
def rs_coupletref02_Mul : List ResultVar := [(.tmp 6), (.tmp 7)]
theorem ir_coupletref02_Mul : compCode Try.prog (Try.f114.body.getD .skip) [] = some (xr_coupletref02_Mul.erase, []) := by kernel_rfl
def gm_coupletref02_Mul : Gam := (Gam.fn 104 as_coupletref02_Right ga_coupletref02_Right em_coupletref02_Right (Gam.fn 25 as_coupletref01_MulDiv ga_coupletref01_MulDiv em_coupletref01_MulDiv (Gam.fn 113 as_coupletref02_Told ga_coupletref02_Told em_coupletref02_Told Gam.bot)))
theorem gk_coupletref02_Mul : GamOk Try.prog GG gm_coupletref02_Mul := (GamOk.fn at_coupletref02_Right (GamOk.fn at_coupletref01_MulDiv (GamOk.fn at_coupletref02_Told GamOk.bot)))
def lm_coupletref02_Mul : Lam := fun _ j S kn ke => match j with
  | _ => .fail
def go_coupletref02_Mul (n0 : Int) (n1 : Int) (n2 : Int) : Option (Int × Bool) :=
  (go_coupletref02_Right n0).bind fun r3 =>
  bif (!r3) then
   some (0, false)
  else
   (go_coupletref02_Right n1).bind fun r4 =>
   bif (!r4) then
    some (0, false)
   else
    (go_coupletref01_MulDiv n0 n1 16777216 n2).bind fun r5 =>
    (go_coupletref02_Told r5.1 r5.2).bind fun r6 =>
    some (r6.1, r6.2)
def em_coupletref02_Mul (r : (Int × Bool)) : PV := (.tup [(.int .i64 r.1), (.bool r.2)])
def rh_coupletref02_Mul : Shp := (.tup [(.int .i64), .bool])
def ra_coupletref02_Mul (v : PV) : (Int × Bool) := ((v.subs.headD .nilSl).num, (v.subs.tail.headD .nilSl).tru)
def kf_coupletref02_Mul (v : PV) : Tree (Int × Bool) := .chk (rh_coupletref02_Mul.ok v) (.leaf (ra_coupletref02_Mul v))
theorem rn_coupletref02_Mul (n0 : Int) (n1 : Int) (n2 : Int) : (ev GG gm_coupletref02_Mul lm_coupletref02_Mul xr_coupletref02_Mul ⟨slots 30 0 [(0, .p (.int .i64 n0)), (1, .p (.int .i64 n1)), (2, .p (.int .i64 n2))], []⟩ (fun S => finT Try.prog rs_coupletref02_Mul S kf_coupletref02_Mul) (retT Try.prog rs_coupletref02_Mul kf_coupletref02_Mul)).run = go_coupletref02_Mul n0 n1 n2 := by kernel_rfl
theorem ok_coupletref02_Mul (n0 : Int) (n1 : Int) (n2 : Int) (r : (Int × Bool)) (h : go_coupletref02_Mul n0 n1 n2 = some r) : FunEq Try.prog GG 114 [(.int .i64 n0), (.int .i64 n1), (.int .i64 n2)] (em_coupletref02_Mul r) :=
  fun_of_ev (x := xr_coupletref02_Mul) (Λ := lm_coupletref02_Mul) gk_coupletref02_Mul [] Try.func114 rfl (by kernel_rfl) ir_coupletref02_Mul (by kernel_rfl) (congrArg Array.toList Try.results114) Try.ntmps114 (⟨trivial, ⟨⟨trivial, ⟨⟨trivial, trivial⟩, trivial⟩⟩, ⟨trivial, ⟨trivial, trivial⟩⟩⟩⟩) (leaf_of fun v => (by kernel_rfl : rh_coupletref02_Mul.build v = em_coupletref02_Mul (ra_coupletref02_Mul v))) (by kernel_rfl) ((rn_coupletref02_Mul n0 n1 n2).trans h)
def as_coupletref02_Mul : List Shp := [(.int .i64), (.int .i64), (.int .i64)]
def ga_coupletref02_Mul (vs : List PV) : Option (Int × Bool) := go_coupletref02_Mul ((tls 0 vs).headD .nilSl).num ((tls 1 vs).headD .nilSl).num ((tls 2 vs).headD .nilSl).num
theorem at_coupletref02_Mul : FnAt Try.prog GG 114 as_coupletref02_Mul ga_coupletref02_Mul em_coupletref02_Mul := fun vs h r hr => by
  have e : Shp.buildL as_coupletref02_Mul vs = [(.int .i64 ((tls 0 vs).headD .nilSl).num), (.int .i64 ((tls 1 vs).headD .nilSl).num), (.int .i64 ((tls 2 vs).headD .nilSl).num)] := by kernel_rfl
  rw [← Shp.buildL_eq _ h, e]
  exact .inl ⟨by decide, ok_coupletref02_Mul _ _ _ r hr⟩
def xr_coupletref02_Div : XR := (.seq (.ops false [⟨⟨(some 6), (.mv (.c (.int .i64 (0)))), none⟩, none⟩, ⟨⟨(some 7), (.mv (.c (.bool false))), none⟩, none⟩]) (.seq (.seq (.ops false [⟨⟨(some 10), (.mv (.tmp 0)), none⟩, none⟩, ⟨⟨(some 11), (.call (.func 104) [(.tmp 10)]), none⟩, none⟩, ⟨⟨(some 12), (.un .not (.tmp 11)), none⟩, none⟩, ⟨⟨(some 13), (.mv (.tmp 12)), none⟩, none⟩, ⟨⟨(some 14), (.mv (.tmp 1)), (some (13, false))⟩, none⟩, ⟨⟨(some 15), (.call (.func 104) [(.tmp 14)]), (some (13, false))⟩, none⟩, ⟨⟨(some 16), (.un .not (.tmp 15)), (some (13, false))⟩, none⟩, ⟨⟨(some 17), (.pick (.tmp 13) (.c (.bool true)) (.tmp 16)), none⟩, none⟩]) (.cond (.tmp 17) (.seq (.ops false [⟨⟨(some 6), (.mv (.c (.int .i64 (0)))), none⟩, none⟩, ⟨⟨(some 7), (.mv (.c (.bool false))), none⟩, none⟩]) .ret) .skip)) (.seq (.ops false [⟨⟨(some 19), (.mv (.tmp 0)), none⟩, none⟩, ⟨⟨(some 20), (.mv (.tmp 1)), none⟩, none⟩, ⟨⟨(some 21), (.mv (.tmp 2)), none⟩, none⟩, ⟨⟨(some 22), (.call (.func 25) [(.tmp 19), (.c (.int .i64 (16777216))), (.tmp 20), (.tmp 21)]), none⟩, none⟩, ⟨⟨(some 18), (.mv (.tmp 22)), none⟩, none⟩, ⟨⟨(some 23), (.ext (.tmp 18) 0), none⟩, none⟩, ⟨⟨(some 24), (.ext (.tmp 18) 1), none⟩, none⟩, ⟨⟨(some 8), (.mv (.tmp 23)), none⟩, none⟩, ⟨⟨(some 9), (.mv (.tmp 24)), none⟩, none⟩]) (.seq (.ops false [⟨⟨(some 25), (.mv (.tmp 8)), none⟩, none⟩, ⟨⟨(some 26), (.mv (.tmp 9)), none⟩, none⟩, ⟨⟨(some 27), (.call (.func 113) [(.tmp 25), (.tmp 26)]), none⟩, none⟩, ⟨⟨(some 28), (.ext (.tmp 27) 0), none⟩, none⟩, ⟨⟨(some 29), (.ext (.tmp 27) 1), none⟩, none⟩, ⟨⟨(some 6), (.mv (.tmp 28)), none⟩, none⟩, ⟨⟨(some 7), (.mv (.tmp 29)), none⟩, none⟩]) .ret))))
def rs_coupletref02_Div : List ResultVar := [(.tmp 6), (.tmp 7)]
theorem ir_coupletref02_Div : compCode Try.prog (Try.f115.body.getD .skip) [] = some (xr_coupletref02_Div.erase, []) := by kernel_rfl
def gm_coupletref02_Div : Gam := (Gam.fn 104 as_coupletref02_Right ga_coupletref02_Right em_coupletref02_Right (Gam.fn 25 as_coupletref01_MulDiv ga_coupletref01_MulDiv em_coupletref01_MulDiv (Gam.fn 113 as_coupletref02_Told ga_coupletref02_Told em_coupletref02_Told Gam.bot)))
theorem gk_coupletref02_Div : GamOk Try.prog GG gm_coupletref02_Div := (GamOk.fn at_coupletref02_Right (GamOk.fn at_coupletref01_MulDiv (GamOk.fn at_coupletref02_Told GamOk.bot)))
def lm_coupletref02_Div : Lam := fun _ j S kn ke => match j with
  | _ => .fail
def go_coupletref02_Div (n0 : Int) (n1 : Int) (n2 : Int) : Option (Int × Bool) :=
  (go_coupletref02_Right n0).bind fun r3 =>
  bif (!r3) then
   some (0, false)
  else
   (go_coupletref02_Right n1).bind fun r4 =>
   bif (!r4) then
    some (0, false)
   else
    (go_coupletref01_MulDiv n0 16777216 n1 n2).bind fun r5 =>
    (go_coupletref02_Told r5.1 r5.2).bind fun r6 =>
    some (r6.1, r6.2)
def em_coupletref02_Div (r : (Int × Bool)) : PV := (.tup [(.int .i64 r.1), (.bool r.2)])
def rh_coupletref02_Div : Shp := (.tup [(.int .i64), .bool])
def ra_coupletref02_Div (v : PV) : (Int × Bool) := ((v.subs.headD .nilSl).num, (v.subs.tail.headD .nilSl).tru)
def kf_coupletref02_Div (v : PV) : Tree (Int × Bool) := .chk (rh_coupletref02_Div.ok v) (.leaf (ra_coupletref02_Div v))
theorem rn_coupletref02_Div (n0 : Int) (n1 : Int) (n2 : Int) : (ev GG gm_coupletref02_Div lm_coupletref02_Div xr_coupletref02_Div ⟨slots 30 0 [(0, .p (.int .i64 n0)), (1, .p (.int .i64 n1)), (2, .p (.int .i64 n2))], []⟩ (fun S => finT Try.prog rs_coupletref02_Div S kf_coupletref02_Div) (retT Try.prog rs_coupletref02_Div kf_coupletref02_Div)).run = go_coupletref02_Div n0 n1 n2 := by kernel_rfl
theorem ok_coupletref02_Div (n0 : Int) (n1 : Int) (n2 : Int) (r : (Int × Bool)) (h : go_coupletref02_Div n0 n1 n2 = some r) : FunEq Try.prog GG 115 [(.int .i64 n0), (.int .i64 n1), (.int .i64 n2)] (em_coupletref02_Div r) :=
  fun_of_ev (x := xr_coupletref02_Div) (Λ := lm_coupletref02_Div) gk_coupletref02_Div [] Try.func115 rfl (by kernel_rfl) ir_coupletref02_Div (by kernel_rfl) (congrArg Array.toList Try.results115) Try.ntmps115 (⟨trivial, ⟨⟨trivial, ⟨⟨trivial, trivial⟩, trivial⟩⟩, ⟨trivial, ⟨trivial, trivial⟩⟩⟩⟩) (leaf_of fun v => (by kernel_rfl : rh_coupletref02_Div.build v = em_coupletref02_Div (ra_coupletref02_Div v))) (by kernel_rfl) ((rn_coupletref02_Div n0 n1 n2).trans h)
def as_coupletref02_Div : List Shp := [(.int .i64), (.int .i64), (.int .i64)]
def ga_coupletref02_Div (vs : List PV) : Option (Int × Bool) := go_coupletref02_Div ((tls 0 vs).headD .nilSl).num ((tls 1 vs).headD .nilSl).num ((tls 2 vs).headD .nilSl).num
theorem at_coupletref02_Div : FnAt Try.prog GG 115 as_coupletref02_Div ga_coupletref02_Div em_coupletref02_Div := fun vs h r hr => by
  have e : Shp.buildL as_coupletref02_Div vs = [(.int .i64 ((tls 0 vs).headD .nilSl).num), (.int .i64 ((tls 1 vs).headD .nilSl).num), (.int .i64 ((tls 2 vs).headD .nilSl).num)] := by kernel_rfl
  rw [← Shp.buildL_eq _ h, e]
  exact .inl ⟨by decide, ok_coupletref02_Div _ _ _ r hr⟩
def xr_coupletref02_Root : XR := (.seq (.ops false [⟨⟨(some 2), (.mv (.c (.int .i64 (0)))), none⟩, none⟩, ⟨⟨(some 3), (.mv (.c (.bool false))), none⟩, none⟩]) (.seq (.ops false [⟨⟨(some 4), (.mv (.tmp 0)), none⟩, none⟩, ⟨⟨(some 5), (.call (.func 32) [(.tmp 4), (.c (.int .i64 (16777216)))]), none⟩, none⟩, ⟨⟨(some 6), (.ext (.tmp 5) 0), none⟩, none⟩, ⟨⟨(some 7), (.ext (.tmp 5) 1), none⟩, none⟩, ⟨⟨(some 2), (.mv (.tmp 6)), none⟩, none⟩, ⟨⟨(some 3), (.mv (.tmp 7)), none⟩, none⟩]) .ret))
def rs_coupletref02_Root : List ResultVar := [(.tmp 2), (.tmp 3)]
theorem ir_coupletref02_Root : compCode Try.prog (Try.f116.body.getD .skip) [] = some (xr_coupletref02_Root.erase, []) := by kernel_rfl
def gm_coupletref02_Root : Gam := (Gam.fn 32 as_coupletref01_Root ga_coupletref01_Root em_coupletref01_Root Gam.bot)
theorem gk_coupletref02_Root : GamOk Try.prog GG gm_coupletref02_Root := (GamOk.fn at_coupletref01_Root GamOk.bot)
def lm_coupletref02_Root : Lam := fun _ j S kn ke => match j with
  | _ => .fail
def go_coupletref02_Root (n0 : Int) : Option (Int × Bool) :=
  (go_coupletref01_Root n0 16777216).bind fun r1 =>
  some (r1.1, r1.2)
def em_coupletref02_Root (r : (Int × Bool)) : PV := (.tup [(.int .i64 r.1), (.bool r.2)])
def rh_coupletref02_Root : Shp := (.tup [(.int .i64), .bool])
def ra_coupletref02_Root (v : PV) : (Int × Bool) := ((v.subs.headD .nilSl).num, (v.subs.tail.headD .nilSl).tru)
def kf_coupletref02_Root (v : PV) : Tree (Int × Bool) := .chk (rh_coupletref02_Root.ok v) (.leaf (ra_coupletref02_Root v))
theorem rn_coupletref02_Root (n0 : Int) : (ev GG gm_coupletref02_Root lm_coupletref02_Root xr_coupletref02_Root ⟨slots 8 0 [(0, .p (.int .i64 n0))], []⟩ (fun S => finT Try.prog rs_coupletref02_Root S kf_coupletref02_Root) (retT Try.prog rs_coupletref02_Root kf_coupletref02_Root)).run = go_coupletref02_Root n0 := by kernel_rfl
theorem ok_coupletref02_Root (n0 : Int) (r : (Int × Bool)) (h : go_coupletref02_Root n0 = some r) : FunEq Try.prog GG 116 [(.int .i64 n0)] (em_coupletref02_Root r) :=
  fun_of_ev (x := xr_coupletref02_Root) (Λ := lm_coupletref02_Root) gk_coupletref02_Root [] Try.func116 rfl (by kernel_rfl) ir_coupletref02_Root (by kernel_rfl) (congrArg Array.toList Try.results116) Try.ntmps116 (⟨trivial, ⟨trivial, trivial⟩⟩) (leaf_of fun v => (by kernel_rfl : rh_coupletref02_Root.build v = em_coupletref02_Root (ra_coupletref02_Root v))) (by kernel_rfl) ((rn_coupletref02_Root n0).trans h)
def as_coupletref02_Root : List Shp := [(.int .i64)]
def ga_coupletref02_Root (vs : List PV) : Option (Int × Bool) := go_coupletref02_Root ((tls 0 vs).headD .nilSl).num
theorem at_coupletref02_Root : FnAt Try.prog GG 116 as_coupletref02_Root ga_coupletref02_Root em_coupletref02_Root := fun vs h r hr => by
  have e : Shp.buildL as_coupletref02_Root vs = [(.int .i64 ((tls 0 vs).headD .nilSl).num)] := by kernel_rfl
  rw [← Shp.buildL_eq _ h, e]
  exact .inl ⟨by decide, ok_coupletref02_Root _ r hr⟩
def xr_coupletref03_one : XR := (.seq (.ops false [⟨⟨(some 8), (.mv (.c (.int .i64 (0)))), none⟩, none⟩, ⟨⟨(some 9), (.mv (.c (.bool false))), none⟩, none⟩]) (.seq (.seq (.ops false [⟨⟨(some 12), (.mv (.tmp 0)), none⟩, none⟩, ⟨⟨(some 13), (.bin .eql (.tmp 12) (.c (.int .i64 (0)))), none⟩, none⟩]) (.cond (.tmp 13) (.seq (.seq (.ops false [⟨⟨(some 14), (.mv (.tmp 1)), none⟩, none⟩, ⟨⟨(some 15), (.call (.func 104) [(.tmp 14)]), none⟩, none⟩, ⟨⟨(some 16), (.un .not (.tmp 15)), none⟩, none⟩, ⟨⟨(some 17), (.mv (.tmp 16)), none⟩, none⟩, ⟨⟨(some 18), (.mv (.tmp 2)), (some (17, false))⟩, none⟩, ⟨⟨(some 19), (.call (.func 104) [(.tmp 18)]), (some (17, false))⟩, none⟩, ⟨⟨(some 20), (.un .not (.tmp 19)), (some (17, false))⟩, none⟩, ⟨⟨(some 21), (.pick (.tmp 17) (.c (.bool true)) (.tmp 20)), none⟩, none⟩]) (.cond (.tmp 21) (.seq (.ops false [⟨⟨(some 8), (.mv (.c (.int .i64 (0)))), none⟩, none⟩, ⟨⟨(some 9), (.mv (.c (.bool false))), none⟩, none⟩]) .ret) .skip)) (.seq (.ops false [⟨⟨(some 22), (.mv (.tmp 1)), none⟩, none⟩, ⟨⟨(some 23), (.mv (.tmp 2)), none⟩, none⟩, ⟨⟨(some 24), (.bin .add (.tmp 22) (.tmp 23)), none⟩, none⟩, ⟨⟨(some 25), (.call (.func 113) [(.tmp 24), (.c (.bool true))]), none⟩, none⟩, ⟨⟨(some 26), (.ext (.tmp 25) 0), none⟩, none⟩, ⟨⟨(some 27), (.ext (.tmp 25) 1), none⟩, none⟩, ⟨⟨(some 8), (.mv (.tmp 26)), none⟩, none⟩, ⟨⟨(some 9), (.mv (.tmp 27)), none⟩, none⟩]) .ret)) .skip)) (.seq (.seq (.ops false [⟨⟨(some 28), (.mv (.tmp 0)), none⟩, none⟩, ⟨⟨(some 29), (.bin .eql (.tmp 28) (.c (.int .i64 (1)))), none⟩, none⟩]) (.cond (.tmp 29) (.seq (.seq (.ops false [⟨⟨(some 30), (.mv (.tmp 1)), none⟩, none⟩, ⟨⟨(some 31), (.call (.func 104) [(.tmp 30)]), none⟩, none⟩, ⟨⟨(some 32), (.un .not (.tmp 31)), none⟩, none⟩, ⟨⟨(some 33), (.mv (.tmp 32)), none⟩, none⟩, ⟨⟨(some 34), (.mv (.tmp 2)), (some (33, false))⟩, none⟩, ⟨⟨(some 35), (.call (.func 104) [(.tmp 34)]), (some (33, false))⟩, none⟩, ⟨⟨(some 36), (.un .not (.tmp 35)), (some (33, false))⟩, none⟩, ⟨⟨(some 37), (.pick (.tmp 33) (.c (.bool true)) (.tmp 36)), none⟩, none⟩]) (.cond (.tmp 37) (.seq (.ops false [⟨⟨(some 8), (.mv (.c (.int .i64 (0)))), none⟩, none⟩, ⟨⟨(some 9), (.mv (.c (.bool false))), none⟩, none⟩]) .ret) .skip)) (.seq (.ops false [⟨⟨(some 38), (.mv (.tmp 1)), none⟩, none⟩, ⟨⟨(some 39), (.mv (.tmp 2)), none⟩, none⟩, ⟨⟨(some 40), (.bin .sub (.tmp 38) (.tmp 39)), none⟩, none⟩, ⟨⟨(some 41), (.call (.func 113) [(.tmp 40), (.c (.bool true))]), none⟩, none⟩, ⟨⟨(some 42), (.ext (.tmp 41) 0), none⟩, none⟩, ⟨⟨(some 43), (.ext (.tmp 41) 1), none⟩, none⟩, ⟨⟨(some 8), (.mv (.tmp 42)), none⟩, none⟩, ⟨⟨(some 9), (.mv (.tmp 43)), none⟩, none⟩]) .ret)) .skip)) (.seq (.seq (.ops false [⟨⟨(some 44), (.mv (.tmp 0)), none⟩, none⟩, ⟨⟨(some 45), (.bin .eql (.tmp 44) (.c (.int .i64 (2)))), none⟩, none⟩]) (.cond (.tmp 45) (.seq (.ops false [⟨⟨(some 46), (.mv (.tmp 1)), none⟩, none⟩, ⟨⟨(some 47), (.mv (.tmp 2)), none⟩, none⟩, ⟨⟨(some 48), (.mv (.tmp 3)), none⟩, none⟩, ⟨⟨(some 49), (.call (.func 114) [(.tmp 46), (.tmp 47), (.tmp 48)]), none⟩, none⟩, ⟨⟨(some 50), (.ext (.tmp 49) 0), none⟩, none⟩, ⟨⟨(some 51), (.ext (.tmp 49) 1), none⟩, none⟩, ⟨⟨(some 8), (.mv (.tmp 50)), none⟩, none⟩, ⟨⟨(some 9), (.mv (.tmp 51)), none⟩, none⟩]) .ret) .skip)) (.seq (.seq (.ops false [⟨⟨(some 52), (.mv (.tmp 0)), none⟩, none⟩, ⟨⟨(some 53), (.bin .eql (.tmp 52) (.c (.int .i64 (3)))), none⟩, none⟩]) (.cond (.tmp 53) (.seq (.ops false [⟨⟨(some 54), (.mv (.tmp 1)), none⟩, none⟩, ⟨⟨(some 55), (.mv (.tmp 2)), none⟩, none⟩, ⟨⟨(some 56), (.mv (.tmp 3)), none⟩, none⟩, ⟨⟨(some 57), (.call (.func 115) [(.tmp 54), (.tmp 55), (.tmp 56)]), none⟩, none⟩, ⟨⟨(some 58), (.ext (.tmp 57) 0), none⟩, none⟩, ⟨⟨(some 59), (.ext (.tmp 57) 1), none⟩, none⟩, ⟨⟨(some 8), (.mv (.tmp 58)), none⟩, none⟩, ⟨⟨(some 9), (.mv (.tmp 59)), none⟩, none⟩]) .ret) .skip)) (.seq (.seq (.ops false [⟨⟨(some 60), (.mv (.tmp 1)), none⟩, none⟩, ⟨⟨(some 61), (.call (.func 104) [(.tmp 60)]), none⟩, none⟩, ⟨⟨(some 62), (.un .not (.tmp 61)), none⟩, none⟩, ⟨⟨(some 63), (.mv (.tmp 62)), none⟩, none⟩, ⟨⟨(some 64), (.mv (.tmp 1)), (some (63, false))⟩, none⟩, ⟨⟨(some 65), (.bin .lss (.tmp 64) (.c (.int .i64 (0)))), (some (63, false))⟩, none⟩, ⟨⟨(some 66), (.pick (.tmp 63) (.c (.bool true)) (.tmp 65)), none⟩, none⟩]) (.cond (.tmp 66) (.seq (.ops false [⟨⟨(some 8), (.mv (.c (.int .i64 (0)))), none⟩, none⟩, ⟨⟨(some 9), (.mv (.c (.bool false))), none⟩, none⟩]) .ret) .skip)) (.seq (.ops false [⟨⟨(some 68), (.mv (.tmp 1)), none⟩, none⟩, ⟨⟨(some 69), (.call (.func 116) [(.tmp 68)]), none⟩, none⟩, ⟨⟨(some 67), (.mv (.tmp 69)), none⟩, none⟩, ⟨⟨(some 70), (.ext (.tmp 67) 0), none⟩, none⟩, ⟨⟨(some 71), (.ext (.tmp 67) 1), none⟩, none⟩, ⟨⟨(some 10), (.mv (.tmp 70)), none⟩, none⟩, ⟨⟨(some 11), (.mv (.tmp 71)), none⟩, none⟩]) (.seq (.seq (.ops false [⟨⟨(some 72), (.mv (.tmp 11)), none⟩, none⟩, ⟨⟨(some 73), (.mv (.tmp 72)), none⟩, none⟩, ⟨⟨(some 74), (.mv (.tmp 3)), (some (73, false))⟩, none⟩, ⟨⟨(some 75), (.bin .eql (.tmp 74) (.c (.int .i64 (1)))), (some (73, false))⟩, none⟩, ⟨⟨(some 76), (.pick (.tmp 73) (.c (.bool true)) (.tmp 75)), none⟩, none⟩]) (.cond (.tmp 76) (.seq (.ops false [⟨⟨(some 77), (.mv (.tmp 10)), none⟩, none⟩, ⟨⟨(some 8), (.mv (.tmp 77)), none⟩, none⟩, ⟨⟨(some 9), (.mv (.c (.bool true))), none⟩, none⟩]) .ret) .skip)) (.seq (.seq (.ops false [⟨⟨(some 78), (.mv (.tmp 3)), none⟩, none⟩, ⟨⟨(some 79), (.bin .eql (.tmp 78) (.c (.int .i64 (2)))), none⟩, none⟩, ⟨⟨(some 80), (.mv (.tmp 79)), none⟩, none⟩, ⟨⟨(some 81), (.mv (.tmp 10)), (some (80, false))⟩, none⟩, ⟨⟨(some 82), (.mv (.tmp 10)), (some (80, false))⟩, none⟩, ⟨⟨(some 83), (.bin .add (.tmp 82) (.c (.int .i64 (1)))), (some (80, false))⟩, none⟩, ⟨⟨(some 84), (.call (.func 33) [(.tmp 81), (.tmp 83)]), (some (80, false))⟩, none⟩, ⟨⟨(some 85), (.mv (.tmp 1)), (some (80, false))⟩, none⟩, ⟨⟨(some 86), (.call (.func 33) [(.tmp 85), (.c (.int .i64 (16777216)))]), (some (80, false))⟩, none⟩, ⟨⟨(some 87), (.call (.func 34) [(.tmp 84), (.tmp 86)]), (some (80, false))⟩, none⟩, ⟨⟨(some 88), (.pick (.tmp 80) (.c (.bool true)) (.tmp 87)), none⟩, none⟩]) (.cond (.tmp 88) (.seq (.ops false [⟨⟨(some 89), (.mv (.tmp 10)), none⟩, none⟩, ⟨⟨(some 90), (.bin .add (.tmp 89) (.c (.int .i64 (1)))), none⟩, none⟩, ⟨⟨(some 8), (.mv (.tmp 90)), none⟩, none⟩, ⟨⟨(some 9), (.mv (.c (.bool true))), none⟩, none⟩]) .ret) .skip)) (.seq (.ops false [⟨⟨(some 91), (.mv (.tmp 10)), none⟩, none⟩, ⟨⟨(some 8), (.mv (.tmp 91)), none⟩, none⟩, ⟨⟨(some 9), (.mv (.c (.bool true))), none⟩, none⟩]) .ret))))))))))
def rs_coupletref03_one : List ResultVar := [(.tmp 8), (.tmp 9)]
theorem ir_coupletref03_one : compCode Try.prog (Try.f85.body.getD .skip) [] = some (xr_coupletref03_one.erase, []) := by kernel_rfl
def gm_coupletref03_one : Gam := (Gam.fn 104 as_coupletref02_Right ga_coupletref02_Right em_coupletref02_Right (Gam.fn 113 as_coupletref02_Told ga_coupletref02_Told em_coupletref02_Told (Gam.fn 114 as_coupletref02_Mul ga_coupletref02_Mul em_coupletref02_Mul (Gam.fn 115 as_coupletref02_Div ga_coupletref02_Div em_coupletref02_Div (Gam.fn 116 as_coupletref02_Root ga_coupletref02_Root em_coupletref02_Root (Gam.fn 33 as_coupletref01_Times ga_coupletref01_Times em_coupletref01_Times (Gam.fn 34 as_coupletref01_Less ga_coupletref01_Less em_coupletref01_Less Gam.bot)))))))
theorem gk_coupletref03_one : GamOk Try.prog GG gm_coupletref03_one := (GamOk.fn at_coupletref02_Right (GamOk.fn at_coupletref02_Told (GamOk.fn at_coupletref02_Mul (GamOk.fn at_coupletref02_Div (GamOk.fn at_coupletref02_Root (GamOk.fn at_coupletref01_Times (GamOk.fn at_coupletref01_Less GamOk.bot)))))))
def lm_coupletref03_one : Lam := fun _ j S kn ke => match j with
  | _ => .fail
def go_coupletref03_one (n0 : Int) (n1 : Int) (n2 : Int) (n3 : Int) : Option (Int × Bool) :=
  bif (n0 == 0) then
   (go_coupletref02_Right n1).bind fun r4 =>
   bif (!r4) then
    some (0, false)
   else
    (go_coupletref02_Right n2).bind fun r5 =>
    bif (!r5) then
     some (0, false)
    else
     (go_coupletref02_Told (IntKind.wrap .i64 (n1 + n2)) true).bind fun r6 =>
     some (r6.1, r6.2)
  else
   bif (n0 == 1) then
    (go_coupletref02_Right n1).bind fun r7 =>
    bif (!r7) then
     some (0, false)
    else
     (go_coupletref02_Right n2).bind fun r8 =>
     bif (!r8) then
      some (0, false)
     else
      (go_coupletref02_Told (IntKind.wrap .i64 (n1 - n2)) true).bind fun r9 =>
      some (r9.1, r9.2)
   else
    bif (n0 == 2) then
     (go_coupletref02_Mul n1 n2 n3).bind fun r10 =>
     some (r10.1, r10.2)
    else
     bif (n0 == 3) then
      (go_coupletref02_Div n1 n2 n3).bind fun r11 =>
      some (r11.1, r11.2)
     else
      (go_coupletref02_Right n1).bind fun r12 =>
      bif (!r12) then
       some (0, false)
      else
       bif (decide (n1 < 0)) then
        some (0, false)
       else
        (go_coupletref02_Root n1).bind fun r13 =>
        bif r13.2 then
         some (r13.1, true)
        else
         bif (n3 == 1) then
          some (r13.1, true)
         else
          bif (n3 == 2) then
           some ((IntKind.wrap .i64 (r13.1 + 1)), true)
          else
           (go_coupletref01_Times r13.1 (IntKind.wrap .i64 (r13.1 + 1))).bind fun r14 =>
           (go_coupletref01_Times n1 16777216).bind fun r15 =>
           (go_coupletref01_Less r14.1 r14.2.1 r14.2.2 r15.1 r15.2.1 r15.2.2).bind fun r16 =>
           bif r16 then
            some ((IntKind.wrap .i64 (r13.1 + 1)), true)
           else
            some (r13.1, true)
def em_coupletref03_one (r : (Int × Bool)) : PV := (.tup [(.int .i64 r.1), (.bool r.2)])
def rh_coupletref03_one : Shp := (.tup [(.int .i64), .bool])
def ra_coupletref03_one (v : PV) : (Int × Bool) := ((v.subs.headD .nilSl).num, (v.subs.tail.headD .nilSl).tru)
def kf_coupletref03_one (v : PV) : Tree (Int × Bool) := .chk (rh_coupletref03_one.ok v) (.leaf (ra_coupletref03_one v))
theorem rn_coupletref03_one (n0 : Int) (n1 : Int) (n2 : Int) (n3 : Int) : (ev GG gm_coupletref03_one lm_coupletref03_one xr_coupletref03_one ⟨slots 92 0 [(0, .p (.int .i64 n0)), (1, .p (.int .i64 n1)), (2, .p (.int .i64 n2)), (3, .p (.int .i64 n3))], []⟩ (fun S => finT Try.prog rs_coupletref03_one S kf_coupletref03_one) (retT Try.prog rs_coupletref03_one kf_coupletref03_one)).run = go_coupletref03_one n0 n1 n2 n3 := by kernel_rfl
theorem ok_coupletref03_one (n0 : Int) (n1 : Int) (n2 : Int) (n3 : Int) (r : (Int × Bool)) (h : go_coupletref03_one n0 n1 n2 n3 = some r) : FunEq Try.prog GG 85 [(.int .i64 n0), (.int .i64 n1), (.int .i64 n2), (.int .i64 n3)] (em_coupletref03_one r) :=
  fun_of_ev (x := xr_coupletref03_one) (Λ := lm_coupletref03_one) gk_coupletref03_one [] Try.func85 rfl (by kernel_rfl) ir_coupletref03_one (by kernel_rfl) (congrArg Array.toList Try.results85) Try.ntmps85 (⟨trivial, ⟨⟨trivial, ⟨⟨⟨trivial, ⟨⟨trivial, trivial⟩, trivial⟩⟩, ⟨trivial, trivial⟩⟩, trivial⟩⟩, ⟨⟨trivial, ⟨⟨⟨trivial, ⟨⟨trivial, trivial⟩, trivial⟩⟩, ⟨trivial, trivial⟩⟩, trivial⟩⟩, ⟨⟨trivial, ⟨⟨trivial, trivial⟩, trivial⟩⟩, ⟨⟨trivial, ⟨⟨trivial, trivial⟩, trivial⟩⟩, ⟨⟨trivial, ⟨⟨trivial, trivial⟩, trivial⟩⟩, ⟨trivial, ⟨⟨trivial, ⟨⟨trivial, trivial⟩, trivial⟩⟩, ⟨⟨trivial, ⟨⟨trivial, trivial⟩, trivial⟩⟩, ⟨trivial, trivial⟩⟩⟩⟩⟩⟩⟩⟩⟩⟩) (leaf_of fun v => (by kernel_rfl : rh_coupletref03_one.build v = em_coupletref03_one (ra_coupletref03_one v))) (by kernel_rfl) ((rn_coupletref03_one n0 n1 n2 n3).trans h)
def as_coupletref03_one : List Shp := [(.int .i64), (.int .i64), (.int .i64), (.int .i64)]
def ga_coupletref03_one (vs : List PV) : Option (Int × Bool) := go_coupletref03_one ((tls 0 vs).headD .nilSl).num ((tls 1 vs).headD .nilSl).num ((tls 2 vs).headD .nilSl).num ((tls 3 vs).headD .nilSl).num
theorem at_coupletref03_one : FnAt Try.prog GG 85 as_coupletref03_one ga_coupletref03_one em_coupletref03_one := fun vs h r hr => by
  have e : Shp.buildL as_coupletref03_one vs = [(.int .i64 ((tls 0 vs).headD .nilSl).num), (.int .i64 ((tls 1 vs).headD .nilSl).num), (.int .i64 ((tls 2 vs).headD .nilSl).num), (.int .i64 ((tls 3 vs).headD .nilSl).num)] := by kernel_rfl
  rw [← Shp.buildL_eq _ h, e]
  exact .inl ⟨by decide, ok_coupletref03_one _ _ _ _ r hr⟩
def xb_coupletref03_Do_0 : XR := (.seq (.seq (.ops false [⟨⟨(some 103), (.mv (.tmp 12)), none⟩, none⟩, ⟨⟨(some 104), (.mv (.tmp 8)), none⟩, none⟩, ⟨⟨(some 105), (.len (.tmp 104)), none⟩, none⟩, ⟨⟨(some 106), (.bin .lss (.tmp 103) (.tmp 105)), none⟩, none⟩]) (.cond (.tmp 106) .skip (.exit 0))) (.seq (.block 1 (.seq (.ops true [⟨⟨(some 110), (.mv (.tmp 0)), none⟩, none⟩, ⟨⟨(some 111), (.mv (.tmp 8)), none⟩, none⟩, ⟨⟨(some 112), (.mv (.tmp 12)), none⟩, none⟩, ⟨⟨(some 113), (.ixA 1 (.tmp 111) (.tmp 112)), none⟩, none⟩, ⟨⟨(some 114), (.ld false 1 (.tmp 113)), none⟩, (some (.isl .i64))⟩, ⟨⟨(some 115), (.ixA 1 (.tmp 114) (.c (.int .i64 (0)))), none⟩, none⟩, ⟨⟨(some 116), (.ld false 1 (.tmp 115)), none⟩, (some (.int .i64))⟩, ⟨⟨(some 117), (.mv (.tmp 8)), none⟩, none⟩, ⟨⟨(some 118), (.mv (.tmp 12)), none⟩, none⟩, ⟨⟨(some 119), (.ixA 1 (.tmp 117) (.tmp 118)), none⟩, none⟩, ⟨⟨(some 120), (.ld false 1 (.tmp 119)), none⟩, (some (.isl .i64))⟩, ⟨⟨(some 121), (.ixA 1 (.tmp 120) (.c (.int .i64 (1)))), none⟩, none⟩, ⟨⟨(some 122), (.ld false 1 (.tmp 121)), none⟩, (some (.int .i64))⟩, ⟨⟨(some 123), (.call (.func 85) [(.tmp 110), (.tmp 116), (.tmp 122), (.c (.int .i64 (1)))]), none⟩, none⟩, ⟨⟨(some 109), (.mv (.tmp 123)), none⟩, none⟩, ⟨⟨(some 124), (.ext (.tmp 109) 0), none⟩, none⟩, ⟨⟨(some 125), (.ext (.tmp 109) 1), none⟩, none⟩, ⟨⟨(some 13), (.mv (.tmp 124)), none⟩, none⟩, ⟨⟨(some 14), (.mv (.tmp 125)), none⟩, none⟩]) (.seq (.ops true [⟨⟨(some 127), (.mv (.tmp 0)), none⟩, none⟩, ⟨⟨(some 128), (.mv (.tmp 8)), none⟩, none⟩, ⟨⟨(some 129), (.mv (.tmp 12)), none⟩, none⟩, ⟨⟨(some 130), (.ixA 1 (.tmp 128) (.tmp 129)), none⟩, none⟩, ⟨⟨(some 131), (.ld false 1 (.tmp 130)), none⟩, (some (.isl .i64))⟩, ⟨⟨(some 132), (.ixA 1 (.tmp 131) (.c (.int .i64 (0)))), none⟩, none⟩, ⟨⟨(some 133), (.ld false 1 (.tmp 132)), none⟩, (some (.int .i64))⟩, ⟨⟨(some 134), (.mv (.tmp 8)), none⟩, none⟩, ⟨⟨(some 135), (.mv (.tmp 12)), none⟩, none⟩, ⟨⟨(some 136), (.ixA 1 (.tmp 134) (.tmp 135)), none⟩, none⟩, ⟨⟨(some 137), (.ld false 1 (.tmp 136)), none⟩, (some (.isl .i64))⟩, ⟨⟨(some 138), (.ixA 1 (.tmp 137) (.c (.int .i64 (1)))), none⟩, none⟩, ⟨⟨(some 139), (.ld false 1 (.tmp 138)), none⟩, (some (.int .i64))⟩, ⟨⟨(some 140), (.call (.func 85) [(.tmp 127), (.tmp 133), (.tmp 139), (.c (.int .i64 (2)))]), none⟩, none⟩, ⟨⟨(some 126), (.mv (.tmp 140)), none⟩, none⟩, ⟨⟨(some 141), (.ext (.tmp 126) 0), none⟩, none⟩, ⟨⟨(some 142), (.ext (.tmp 126) 1), none⟩, none⟩, ⟨⟨(some 15), (.mv (.tmp 141)), none⟩, none⟩, ⟨⟨(some 16), (.mv (.tmp 142)), none⟩, none⟩]) (.seq (.ops false [⟨⟨(some 143), (.mv (.tmp 10)), none⟩, none⟩, ⟨⟨(some 144), (.mv (.tmp 143)), none⟩, none⟩, ⟨⟨(some 145), (.mv (.tmp 14)), (some (144, true))⟩, none⟩, ⟨⟨(some 146), (.pick (.tmp 144) (.tmp 145) (.c (.bool false))), none⟩, none⟩, ⟨⟨(some 147), (.mv (.tmp 146)), none⟩, none⟩, ⟨⟨(some 148), (.mv (.tmp 16)), (some (147, true))⟩, none⟩, ⟨⟨(some 149), (.pick (.tmp 147) (.tmp 148) (.c (.bool false))), none⟩, none⟩, ⟨⟨(some 10), (.mv (.tmp 149)), none⟩, none⟩]) (.seq (.seq (.ops false [⟨⟨(some 150), (.mv (.tmp 12)), none⟩, none⟩, ⟨⟨(some 151), (.bin .eql (.tmp 150) (.c (.int .i64 (0)))), none⟩, none⟩, ⟨⟨(some 152), (.mv (.tmp 151)), none⟩, none⟩, ⟨⟨(some 153), (.mv (.tmp 13)), (some (152, false))⟩, none⟩, ⟨⟨(some 154), (.fldA 1 (.tmp 11)), (some (152, false))⟩, none⟩, ⟨⟨(some 155), (.ld false 1 (.tmp 154)), (some (152, false))⟩, (some (.int .i64))⟩, ⟨⟨(some 156), (.bin .lss (.tmp 153) (.tmp 155)), (some (152, false))⟩, none⟩, ⟨⟨(some 157), (.pick (.tmp 152) (.c (.bool true)) (.tmp 156)), none⟩, none⟩]) (.cond (.tmp 157) (.ops false [⟨⟨(some 158), (.mv (.tmp 13)), none⟩, none⟩, ⟨⟨(some 159), (.fldA 1 (.tmp 11)), none⟩, none⟩, ⟨⟨none, (.st 1 (.tmp 159) (.tmp 158)), none⟩, none⟩]) .skip)) (.seq (.ops false [⟨⟨(some 160), (.mv (.tmp 12)), none⟩, none⟩, ⟨⟨(some 161), (.bin .eql (.tmp 160) (.c (.int .i64 (0)))), none⟩, none⟩, ⟨⟨(some 162), (.mv (.tmp 161)), none⟩, none⟩, ⟨⟨(some 163), (.mv (.tmp 15)), (some (162, false))⟩, none⟩, ⟨⟨(some 164), (.fldA 2 (.tmp 11)), (some (162, false))⟩, none⟩, ⟨⟨(some 165), (.ld false 1 (.tmp 164)), (some (162, false))⟩, (some (.int .i64))⟩, ⟨⟨(some 166), (.bin .gtr (.tmp 163) (.tmp 165)), (some (162, false))⟩, none⟩, ⟨⟨(some 167), (.pick (.tmp 162) (.c (.bool true)) (.tmp 166)), none⟩, none⟩]) (.cond (.tmp 167) (.ops false [⟨⟨(some 168), (.mv (.tmp 15)), none⟩, none⟩, ⟨⟨(some 169), (.fldA 2 (.tmp 11)), none⟩, none⟩, ⟨⟨none, (.st 1 (.tmp 169) (.tmp 168)), none⟩, none⟩]) .skip))))))) (.ops false [⟨⟨(some 107), (.mv (.tmp 12)), none⟩, none⟩, ⟨⟨(some 108), (.bin .add (.tmp 107) (.c (.int .i64 (1)))), none⟩, none⟩, ⟨⟨(some 12), (.mv (.tmp 108)), none⟩, none⟩])))
def xr_coupletref03_Do : XR := (.seq (.ops false [⟨⟨(some 4), (.box 40 (.tmp 1)), none⟩, none⟩, ⟨⟨(some 5), (.box 40 (.tmp 2)), none⟩, none⟩, ⟨⟨(some 6), (.alloc 40 [(.int .i64 (0)), (.int .i64 (0)), (.int .i64 (0)), (.bool false)]), none⟩, none⟩]) (.seq (.ops false [⟨⟨(some 17), (.build [(.int .i64 (0)), (.int .i64 (0)), (.int .i64 (0)), (.bool false)] [(0, (1, (.c (.int .i64 (0))))), (1, (1, (.c (.int .i64 (0))))), (2, (1, (.c (.int .i64 (0))))), (3, (1, (.c (.bool true))))]), none⟩, none⟩, ⟨⟨(some 7), (.alloc 40 [(.int .i64 (0)), (.int .i64 (0)), (.int .i64 (0)), (.bool false)]), none⟩, none⟩, ⟨⟨none, (.st 4 (.tmp 7) (.tmp 17)), none⟩, none⟩]) (.seq (.seq (.ops false [⟨⟨(some 18), (.ld true 4 (.tmp 4)), none⟩, (some (.agg [(.int .i64), (.int .i64), (.int .i64), .bool]))⟩, ⟨⟨(some 19), (.call (.func 61) [(.tmp 18)]), none⟩, none⟩, ⟨⟨(some 20), (.un .not (.tmp 19)), none⟩, none⟩, ⟨⟨(some 21), (.mv (.tmp 20)), none⟩, none⟩, ⟨⟨(some 22), (.ld true 4 (.tmp 5)), (some (21, false))⟩, (some (.agg [(.int .i64), (.int .i64), (.int .i64), .bool]))⟩, ⟨⟨(some 23), (.call (.func 61) [(.tmp 22)]), (some (21, false))⟩, none⟩, ⟨⟨(some 24), (.un .not (.tmp 23)), (some (21, false))⟩, none⟩, ⟨⟨(some 25), (.pick (.tmp 21) (.c (.bool true)) (.tmp 24)), none⟩, none⟩, ⟨⟨(some 26), (.mv (.tmp 25)), none⟩, none⟩, ⟨⟨(some 27), (.mv (.tmp 0)), (some (26, false))⟩, none⟩, ⟨⟨(some 28), (.bin .eql (.tmp 27) (.c (.int .i64 (3)))), (some (26, false))⟩, none⟩, ⟨⟨(some 29), (.mv (.tmp 28)), (some (26, false))⟩, none⟩, ⟨⟨(some 30), (.fldA 1 (.tmp 5)), (some (29, true))⟩, none⟩, ⟨⟨(some 31), (.ld false 1 (.tmp 30)), (some (29, true))⟩, (some (.int .i64))⟩, ⟨⟨(some 32), (.bin .leq (.tmp 31) (.c (.int .i64 (0)))), (some (29, true))⟩, none⟩, ⟨⟨(some 33), (.pick (.tmp 29) (.tmp 32) (.c (.bool false))), (some (26, false))⟩, none⟩, ⟨⟨(some 34), (.mv (.tmp 33)), (some (26, false))⟩, none⟩, ⟨⟨(some 35), (.fldA 2 (.tmp 5)), (some (34, true))⟩, none⟩, ⟨⟨(some 36), (.ld false 1 (.tmp 35)), (some (34, true))⟩, (some (.int .i64))⟩, ⟨⟨(some 37), (.bin .geq (.tmp 36) (.c (.int .i64 (0)))), (some (34, true))⟩, none⟩, ⟨⟨(some 38), (.pick (.tmp 34) (.tmp 37) (.c (.bool false))), (some (26, false))⟩, none⟩, ⟨⟨(some 39), (.pick (.tmp 26) (.c (.bool true)) (.tmp 38)), none⟩, none⟩]) (.cond (.tmp 39) (.seq (.ops false [⟨⟨(some 40), (.ld true 4 (.tmp 7)), none⟩, (some (.agg [(.int .i64), (.int .i64), (.int .i64), .bool]))⟩, ⟨⟨none, (.st 4 (.tmp 6) (.tmp 40)), none⟩, none⟩]) .ret) .skip)) (.seq (.ops false [⟨⟨(some 41), (.fldA 1 (.tmp 4)), none⟩, none⟩, ⟨⟨(some 42), (.ld false 1 (.tmp 41)), none⟩, (some (.int .i64))⟩, ⟨⟨(some 43), (.fldA 1 (.tmp 5)), none⟩, none⟩, ⟨⟨(some 44), (.ld false 1 (.tmp 43)), none⟩, (some (.int .i64))⟩, ⟨⟨(some 45), (.bsl 3 (some .i64) 1 [(.tmp 42), (.tmp 44)]), none⟩, none⟩, ⟨⟨(some 46), (.fldA 1 (.tmp 4)), none⟩, none⟩, ⟨⟨(some 47), (.ld false 1 (.tmp 46)), none⟩, (some (.int .i64))⟩, ⟨⟨(some 48), (.fldA 2 (.tmp 5)), none⟩, none⟩, ⟨⟨(some 49), (.ld false 1 (.tmp 48)), none⟩, (some (.int .i64))⟩, ⟨⟨(some 50), (.bsl 3 (some .i64) 1 [(.tmp 47), (.tmp 49)]), none⟩, none⟩, ⟨⟨(some 51), (.fldA 2 (.tmp 4)), none⟩, none⟩, ⟨⟨(some 52), (.ld false 1 (.tmp 51)), none⟩, (some (.int .i64))⟩, ⟨⟨(some 53), (.fldA 1 (.tmp 5)), none⟩, none⟩, ⟨⟨(some 54), (.ld false 1 (.tmp 53)), none⟩, (some (.int .i64))⟩, ⟨⟨(some 55), (.bsl 3 (some .i64) 1 [(.tmp 52), (.tmp 54)]), none⟩, none⟩, ⟨⟨(some 56), (.fldA 2 (.tmp 4)), none⟩, none⟩, ⟨⟨(some 57), (.ld false 1 (.tmp 56)), none⟩, (some (.int .i64))⟩, ⟨⟨(some 58), (.fldA 2 (.tmp 5)), none⟩, none⟩, ⟨⟨(some 59), (.ld false 1 (.tmp 58)), none⟩, (some (.int .i64))⟩, ⟨⟨(some 60), (.bsl 3 (some .i64) 1 [(.tmp 57), (.tmp 59)]), none⟩, none⟩, ⟨⟨(some 61), (.bsl 31 none 1 [(.tmp 45), (.tmp 50), (.tmp 55), (.tmp 60)]), none⟩, none⟩, ⟨⟨(some 8), (.mv (.tmp 61)), none⟩, none⟩]) (.seq (.seq (.ops false [⟨⟨(some 62), (.mv (.tmp 0)), none⟩, none⟩, ⟨⟨(some 63), (.bin .eql (.tmp 62) (.c (.int .i64 (0)))), none⟩, none⟩, ⟨⟨(some 64), (.mv (.tmp 63)), none⟩, none⟩, ⟨⟨(some 65), (.mv (.tmp 0)), (some (64, false))⟩, none⟩, ⟨⟨(some 66), (.bin .eql (.tmp 65) (.c (.int .i64 (4)))), (some (64, false))⟩, none⟩, ⟨⟨(some 67), (.pick (.tmp 64) (.c (.bool true)) (.tmp 66)), none⟩, none⟩]) (.cond (.tmp 67) (.ops false [⟨⟨(some 68), (.fldA 1 (.tmp 4)), none⟩, none⟩, ⟨⟨(some 69), (.ld false 1 (.tmp 68)), none⟩, (some (.int .i64))⟩, ⟨⟨(some 70), (.fldA 1 (.tmp 5)), none⟩, none⟩, ⟨⟨(some 71), (.ld false 1 (.tmp 70)), none⟩, (some (.int .i64))⟩, ⟨⟨(some 72), (.bsl 3 (some .i64) 1 [(.tmp 69), (.tmp 71)]), none⟩, none⟩, ⟨⟨(some 73), (.fldA 2 (.tmp 4)), none⟩, none⟩, ⟨⟨(some 74), (.ld false 1 (.tmp 73)), none⟩, (some (.int .i64))⟩, ⟨⟨(some 75), (.fldA 2 (.tmp 5)), none⟩, none⟩, ⟨⟨(some 76), (.ld false 1 (.tmp 75)), none⟩, (some (.int .i64))⟩, ⟨⟨(some 77), (.bsl 3 (some .i64) 1 [(.tmp 74), (.tmp 76)]), none⟩, none⟩, ⟨⟨(some 78), (.bsl 31 none 1 [(.tmp 72), (.tmp 77)]), none⟩, none⟩, ⟨⟨(some 8), (.mv (.tmp 78)), none⟩, none⟩]) .skip)) (.seq (.seq (.ops false [⟨⟨(some 79), (.mv (.tmp 0)), none⟩, none⟩, ⟨⟨(some 80), (.bin .eql (.tmp 79) (.c (.int .i64 (1)))), none⟩, none⟩]) (.cond (.tmp 80) (.ops false [⟨⟨(some 81), (.fldA 1 (.tmp 4)), none⟩, none⟩, ⟨⟨(some 82), (.ld false 1 (.tmp 81)), none⟩, (some (.int .i64))⟩, ⟨⟨(some 83), (.fldA 2 (.tmp 5)), none⟩, none⟩, ⟨⟨(some 84), (.ld false 1 (.tmp 83)), none⟩, (some (.int .i64))⟩, ⟨⟨(some 85), (.bsl 3 (some .i64) 1 [(.tmp 82), (.tmp 84)]), none⟩, none⟩, ⟨⟨(some 86), (.fldA 2 (.tmp 4)), none⟩, none⟩, ⟨⟨(some 87), (.ld false 1 (.tmp 86)), none⟩, (some (.int .i64))⟩, ⟨⟨(some 88), (.fldA 1 (.tmp 5)), none⟩, none⟩, ⟨⟨(some 89), (.ld false 1 (.tmp 88)), none⟩, (some (.int .i64))⟩, ⟨⟨(some 90), (.bsl 3 (some .i64) 1 [(.tmp 87), (.tmp 89)]), none⟩, none⟩, ⟨⟨(some 91), (.bsl 31 none 1 [(.tmp 85), (.tmp 90)]), none⟩, none⟩, ⟨⟨(some 8), (.mv (.tmp 91)), none⟩, none⟩]) .skip)) (.seq (.ops false [⟨⟨(some 93), (.mv (.tmp 0)), none⟩, none⟩, ⟨⟨(some 94), (.fldA 0 (.tmp 4)), none⟩, none⟩, ⟨⟨(some 95), (.ld false 1 (.tmp 94)), none⟩, (some (.int .i64))⟩, ⟨⟨(some 96), (.fldA 0 (.tmp 5)), none⟩, none⟩, ⟨⟨(some 97), (.ld false 1 (.tmp 96)), none⟩, (some (.int .i64))⟩, ⟨⟨(some 98), (.call (.func 85) [(.tmp 93), (.tmp 95), (.tmp 97), (.c (.int .i64 (0)))]), none⟩, none⟩, ⟨⟨(some 92), (.mv (.tmp 98)), none⟩, none⟩, ⟨⟨(some 99), (.ext (.tmp 92) 0), none⟩, none⟩, ⟨⟨(some 100), (.ext (.tmp 92) 1), none⟩, none⟩, ⟨⟨(some 9), (.mv (.tmp 99)), none⟩, none⟩, ⟨⟨(some 10), (.mv (.tmp 100)), none⟩, none⟩]) (.seq (.ops false [⟨⟨(some 101), (.mv (.tmp 9)), none⟩, none⟩, ⟨⟨(some 102), (.build [(.int .i64 (0)), (.int .i64 (0)), (.int .i64 (0)), (.bool false)] [(0, (1, (.tmp 101))), (1, (1, (.c (.int .i64 (0))))), (2, (1, (.c (.int .i64 (0))))), (3, (1, (.c (.bool false))))]), none⟩, none⟩, ⟨⟨(some 11), (.alloc 40 [(.int .i64 (0)), (.int .i64 (0)), (.int .i64 (0)), (.bool false)]), none⟩, none⟩, ⟨⟨none, (.st 4 (.tmp 11) (.tmp 102)), none⟩, none⟩]) (.seq (.seq (.ops false [⟨⟨(some 12), (.mv (.c (.int .i64 (0)))), none⟩, none⟩]) (.block 0 (.loop 0 [0, 6, 7, 8, 10, 11, 12] xb_coupletref03_Do_0))) (.seq (.seq (.ops false [⟨⟨(some 170), (.mv (.tmp 10)), none⟩, none⟩, ⟨⟨(some 171), (.un .not (.tmp 170)), none⟩, none⟩]) (.cond (.tmp 171) (.seq (.ops false [⟨⟨(some 172), (.ld true 4 (.tmp 7)), none⟩, (some (.agg [(.int .i64), (.int .i64), (.int .i64), .bool]))⟩, ⟨⟨none, (.st 4 (.tmp 6) (.tmp 172)), none⟩, none⟩]) .ret) .skip)) (.seq (.ops false [⟨⟨(some 173), (.ld true 4 (.tmp 11)), none⟩, (some (.agg [(.int .i64), (.int .i64), (.int .i64), .bool]))⟩, ⟨⟨none, (.st 4 (.tmp 6) (.tmp 173)), none⟩, none⟩]) .ret)))))))))))
def rs_coupletref03_Do : List ResultVar := [(.cell 6 40)]
theorem ir_coupletref03_Do : compCode Try.prog (Try.f41.body.getD .skip) [[0, 6, 7, 8, 10, 11, 12]] = some (xr_coupletref03_Do.erase, []) := by kernel_rfl
def gm_coupletref03_Do : Gam := (Gam.fn 61 as_coupletref03_Fine ga_coupletref03_Fine em_coupletref03_Fine (Gam.fn 85 as_coupletref03_one ga_coupletref03_one em_coupletref03_one Gam.bot))
theorem gk_coupletref03_Do : GamOk Try.prog GG gm_coupletref03_Do := (GamOk.fn at_coupletref03_Fine (GamOk.fn at_coupletref03_one GamOk.bot))
def st_coupletref03_Do_0 (n12 : Int) (b13 : Bool) (n14 : Int) (n15 : Int) (n16 : Int) (n17 : Int) (b18 : Bool) (n19 : Int) (n20 : Int) (n21 : Int) (b22 : Bool) (b23 : Bool) (b24 : Bool) (es25 : List PV) (n26 : Int) (n27 : Int) (n28 : Int) (b29 : Bool) : Option (((Int × Bool × Int × Int × Int × Int × Bool × Int × Int × Int × Bool × Bool × Bool × List PV × Int × Int × Int × Bool)) ⊕ (((Bool × Int × Int × Int × Bool × Int × Int × Int × Bool × Int × Int × Int × Bool)))) :=
  bif (decide (n14 < (((List.length es25) : Nat) : Int))) then
   bif (decide (0 ≤ n14)) then
    bif (decide (n14 < (((List.length es25) : Nat) : Int))) then
     bif (decide ((Int.toNat n14) < (List.length es25))) then
      bif (PV.scal (List.getD es25 (Int.toNat n14) .nilSl)) then
       bif (Shp.ok (.isl .i64) (List.getD es25 (Int.toNat n14) .nilSl)) then
        bif (decide (0 < (((List.length (PV.ints (List.getD es25 (Int.toNat n14) .nilSl))) : Nat) : Int))) then
         bif (decide (0 < (List.length (PV.ints (List.getD es25 (Int.toNat n14) .nilSl))))) then
          bif (decide (0 ≤ n14)) then
           bif (decide (n14 < (((List.length es25) : Nat) : Int))) then
            bif (decide ((Int.toNat n14) < (List.length es25))) then
             bif (PV.scal (List.getD es25 (Int.toNat n14) .nilSl)) then
              bif (Shp.ok (.isl .i64) (List.getD es25 (Int.toNat n14) .nilSl)) then
               bif (decide (1 < (((List.length (PV.ints (List.getD es25 (Int.toNat n14) .nilSl))) : Nat) : Int))) then
                bif (decide (1 < (List.length (PV.ints (List.getD es25 (Int.toNat n14) .nilSl))))) then
                 (go_coupletref03_one n12 (List.getD (PV.ints (List.getD es25 (Int.toNat n14) .nilSl)) 0 0) (List.getD (PV.ints (List.getD es25 (Int.toNat n14) .nilSl)) 1 0) 1).bind fun r30 =>
                 bif (decide (0 ≤ n14)) then
                  bif (decide (n14 < (((List.length es25) : Nat) : Int))) then
                   bif (decide ((Int.toNat n14) < (List.length es25))) then
                    bif (PV.scal (List.getD es25 (Int.toNat n14) .nilSl)) then
                     bif (Shp.ok (.isl .i64) (List.getD es25 (Int.toNat n14) .nilSl)) then
                      bif (decide (0 < (((List.length (PV.ints (List.getD es25 (Int.toNat n14) .nilSl))) : Nat) : Int))) then
                       bif (decide (0 < (List.length (PV.ints (List.getD es25 (Int.toNat n14) .nilSl))))) then
                        bif (decide (0 ≤ n14)) then
                         bif (decide (n14 < (((List.length es25) : Nat) : Int))) then
                          bif (decide ((Int.toNat n14) < (List.length es25))) then
                           bif (PV.scal (List.getD es25 (Int.toNat n14) .nilSl)) then
                            bif (Shp.ok (.isl .i64) (List.getD es25 (Int.toNat n14) .nilSl)) then
                             bif (decide (1 < (((List.length (PV.ints (List.getD es25 (Int.toNat n14) .nilSl))) : Nat) : Int))) then
                              bif (decide (1 < (List.length (PV.ints (List.getD es25 (Int.toNat n14) .nilSl))))) then
                               (go_coupletref03_one n12 (List.getD (PV.ints (List.getD es25 (Int.toNat n14) .nilSl)) 0 0) (List.getD (PV.ints (List.getD es25 (Int.toNat n14) .nilSl)) 1 0) 2).bind fun r31 =>
                               bif b13 then
                                bif r30.2 then
                                 bif (n14 == 0) then
                                  bif (n14 == 0) then
                                   some (Sum.inl (n12, r31.2, (IntKind.wrap .i64 (n14 + 1)), n15, n16, n17, b18, n19, n20, n21, b22, b23, b24, es25, n26, r30.1, r31.1, b29))
                                  else
                                   bif (decide (r31.1 > n28)) then
                                    some (Sum.inl (n12, r31.2, (IntKind.wrap .i64 (n14 + 1)), n15, n16, n17, b18, n19, n20, n21, b22, b23, b24, es25, n26, r30.1, r31.1, b29))
                                   else
                                    some (Sum.inl (n12, r31.2, (IntKind.wrap .i64 (n14 + 1)), n15, n16, n17, b18, n19, n20, n21, b22, b23, b24, es25, n26, r30.1, n28, b29))
                                 else
                                  bif (decide (r30.1 < n27)) then
                                   bif (n14 == 0) then
                                    some (Sum.inl (n12, r31.2, (IntKind.wrap .i64 (n14 + 1)), n15, n16, n17, b18, n19, n20, n21, b22, b23, b24, es25, n26, r30.1, r31.1, b29))
                                   else
                                    bif (decide (r31.1 > n28)) then
                                     some (Sum.inl (n12, r31.2, (IntKind.wrap .i64 (n14 + 1)), n15, n16, n17, b18, n19, n20, n21, b22, b23, b24, es25, n26, r30.1, r31.1, b29))
                                    else
                                     some (Sum.inl (n12, r31.2, (IntKind.wrap .i64 (n14 + 1)), n15, n16, n17, b18, n19, n20, n21, b22, b23, b24, es25, n26, r30.1, n28, b29))
                                  else
                                   bif (n14 == 0) then
                                    some (Sum.inl (n12, r31.2, (IntKind.wrap .i64 (n14 + 1)), n15, n16, n17, b18, n19, n20, n21, b22, b23, b24, es25, n26, n27, r31.1, b29))
                                   else
                                    bif (decide (r31.1 > n28)) then
                                     some (Sum.inl (n12, r31.2, (IntKind.wrap .i64 (n14 + 1)), n15, n16, n17, b18, n19, n20, n21, b22, b23, b24, es25, n26, n27, r31.1, b29))
                                    else
                                     some (Sum.inl (n12, r31.2, (IntKind.wrap .i64 (n14 + 1)), n15, n16, n17, b18, n19, n20, n21, b22, b23, b24, es25, n26, n27, n28, b29))
                                else
                                 bif (n14 == 0) then
                                  bif (n14 == 0) then
                                   some (Sum.inl (n12, false, (IntKind.wrap .i64 (n14 + 1)), n15, n16, n17, b18, n19, n20, n21, b22, b23, b24, es25, n26, r30.1, r31.1, b29))
                                  else
                                   bif (decide (r31.1 > n28)) then
                                    some (Sum.inl (n12, false, (IntKind.wrap .i64 (n14 + 1)), n15, n16, n17, b18, n19, n20, n21, b22, b23, b24, es25, n26, r30.1, r31.1, b29))
                                   else
                                    some (Sum.inl (n12, false, (IntKind.wrap .i64 (n14 + 1)), n15, n16, n17, b18, n19, n20, n21, b22, b23, b24, es25, n26, r30.1, n28, b29))
                                 else
                                  bif (decide (r30.1 < n27)) then
                                   bif (n14 == 0) then
                                    some (Sum.inl (n12, false, (IntKind.wrap .i64 (n14 + 1)), n15, n16, n17, b18, n19, n20, n21, b22, b23, b24, es25, n26, r30.1, r31.1, b29))
                                   else
                                    bif (decide (r31.1 > n28)) then
                                     some (Sum.inl (n12, false, (IntKind.wrap .i64 (n14 + 1)), n15, n16, n17, b18, n19, n20, n21, b22, b23, b24, es25, n26, r30.1, r31.1, b29))
                                    else
                                     some (Sum.inl (n12, false, (IntKind.wrap .i64 (n14 + 1)), n15, n16, n17, b18, n19, n20, n21, b22, b23, b24, es25, n26, r30.1, n28, b29))
                                  else
                                   bif (n14 == 0) then
                                    some (Sum.inl (n12, false, (IntKind.wrap .i64 (n14 + 1)), n15, n16, n17, b18, n19, n20, n21, b22, b23, b24, es25, n26, n27, r31.1, b29))
                                   else
                                    bif (decide (r31.1 > n28)) then
                                     some (Sum.inl (n12, false, (IntKind.wrap .i64 (n14 + 1)), n15, n16, n17, b18, n19, n20, n21, b22, b23, b24, es25, n26, n27, r31.1, b29))
                                    else
                                     some (Sum.inl (n12, false, (IntKind.wrap .i64 (n14 + 1)), n15, n16, n17, b18, n19, n20, n21, b22, b23, b24, es25, n26, n27, n28, b29))
                               else
                                bif (n14 == 0) then
                                 bif (n14 == 0) then
                                  some (Sum.inl (n12, false, (IntKind.wrap .i64 (n14 + 1)), n15, n16, n17, b18, n19, n20, n21, b22, b23, b24, es25, n26, r30.1, r31.1, b29))
                                 else
                                  bif (decide (r31.1 > n28)) then
                                   some (Sum.inl (n12, false, (IntKind.wrap .i64 (n14 + 1)), n15, n16, n17, b18, n19, n20, n21, b22, b23, b24, es25, n26, r30.1, r31.1, b29))
                                  else
                                   some (Sum.inl (n12, false, (IntKind.wrap .i64 (n14 + 1)), n15, n16, n17, b18, n19, n20, n21, b22, b23, b24, es25, n26, r30.1, n28, b29))
                                else
                                 bif (decide (r30.1 < n27)) then
                                  bif (n14 == 0) then
                                   some (Sum.inl (n12, false, (IntKind.wrap .i64 (n14 + 1)), n15, n16, n17, b18, n19, n20, n21, b22, b23, b24, es25, n26, r30.1, r31.1, b29))
                                  else
                                   bif (decide (r31.1 > n28)) then
                                    some (Sum.inl (n12, false, (IntKind.wrap .i64 (n14 + 1)), n15, n16, n17, b18, n19, n20, n21, b22, b23, b24, es25, n26, r30.1, r31.1, b29))
                                   else
                                    some (Sum.inl (n12, false, (IntKind.wrap .i64 (n14 + 1)), n15, n16, n17, b18, n19, n20, n21, b22, b23, b24, es25, n26, r30.1, n28, b29))
                                 else
                                  bif (n14 == 0) then
                                   some (Sum.inl (n12, false, (IntKind.wrap .i64 (n14 + 1)), n15, n16, n17, b18, n19, n20, n21, b22, b23, b24, es25, n26, n27, r31.1, b29))
                                  else
                                   bif (decide (r31.1 > n28)) then
                                    some (Sum.inl (n12, false, (IntKind.wrap .i64 (n14 + 1)), n15, n16, n17, b18, n19, n20, n21, b22, b23, b24, es25, n26, n27, r31.1, b29))
                                   else
                                    some (Sum.inl (n12, false, (IntKind.wrap .i64 (n14 + 1)), n15, n16, n17, b18, n19, n20, n21, b22, b23, b24, es25, n26, n27, n28, b29))
                              else none
                             else none
                            else none
                           else none
                          else none
                         else none
                        else none
                       else none
                      else none
                     else none
                    else none
                   else none
                  else none
                 else none
                else none
               else none
              else none
             else none
            else none
           else none
          else none
         else none
        else none
       else none
      else none
     else none
    else none
   else none
  else
   some (Sum.inr (b13, n15, n16, n17, b18, n19, n20, n21, b22, n26, n27, n28, b29))
def lp_coupletref03_Do_0 (n12 : Int) (b13 : Bool) (n14 : Int) (n15 : Int) (n16 : Int) (n17 : Int) (b18 : Bool) (n19 : Int) (n20 : Int) (n21 : Int) (b22 : Bool) (b23 : Bool) (b24 : Bool) (es25 : List PV) (n26 : Int) (n27 : Int) (n28 : Int) (b29 : Bool) : Option (((Bool × Int × Int × Int × Bool × Int × Int × Int × Bool × Int × Int × Int × Bool))) := loopN (X := (Int × Bool × Int × Int × Int × Int × Bool × Int × Int × Int × Bool × Bool × Bool × List PV × Int × Int × Int × Bool)) (fun x => st_coupletref03_Do_0 x.1 x.2.1 x.2.2.1 x.2.2.2.1 x.2.2.2.2.1 x.2.2.2.2.2.1 x.2.2.2.2.2.2.1 x.2.2.2.2.2.2.2.1 x.2.2.2.2.2.2.2.2.1 x.2.2.2.2.2.2.2.2.2.1 x.2.2.2.2.2.2.2.2.2.2.1 x.2.2.2.2.2.2.2.2.2.2.2.1 x.2.2.2.2.2.2.2.2.2.2.2.2.1 x.2.2.2.2.2.2.2.2.2.2.2.2.2.1 x.2.2.2.2.2.2.2.2.2.2.2.2.2.2.1 x.2.2.2.2.2.2.2.2.2.2.2.2.2.2.2.1 x.2.2.2.2.2.2.2.2.2.2.2.2.2.2.2.2.1 x.2.2.2.2.2.2.2.2.2.2.2.2.2.2.2.2.2) (n12, b13, n14, n15, n16, n17, b18, n19, n20, n21, b22, b23, b24, es25, n26, n27, n28, b29)
def sh_coupletref03_Do_0 : StSh := ⟨174, [(0, (.p (.int .i64))), (6, (.ptr 0 0)), (7, (.ptr 1 0)), (8, (.row 2)), (10, (.p .bool)), (11, (.ptr 3 0)), (12, (.p (.int .i64)))], [(.box 40 [(.p (.int .i64)), (.p (.int .i64)), (.p (.int .i64)), (.p .bool)]), (.box 40 [(.p (.int .i64)), (.p (.int .i64)), (.p (.int .i64)), (.p .bool)]), (.row 31 1), (.box 40 [(.p (.int .i64)), (.p (.int .i64)), (.p (.int .i64)), (.p .bool)])]⟩
def sx_coupletref03_Do_0 (x : (Int × Bool × Int × Int × Int × Int × Bool × Int × Int × Int × Bool × Bool × Bool × List PV × Int × Int × Int × Bool)) : St := ⟨slots 174 0 [(0, (.p (.int .i64 x.1))), (6, (.ptr 0 0)), (7, (.ptr 1 0)), (8, (.row 2)), (10, (.p (.bool x.2.1))), (11, (.ptr 3 0)), (12, (.p (.int .i64 x.2.2.1)))], [(.box 40 [(.p (.int .i64 x.2.2.2.1)), (.p (.int .i64 x.2.2.2.2.1)), (.p (.int .i64 x.2.2.2.2.2.1)), (.p (.bool x.2.2.2.2.2.2.1))]), (.box 40 [(.p (.int .i64 x.2.2.2.2.2.2.2.1)), (.p (.int .i64 x.2.2.2.2.2.2.2.2.1)), (.p (.int .i64 x.2.2.2.2.2.2.2.2.2.1)), (.p (.bool x.2.2.2.2.2.2.2.2.2.2.1))]), (.row 31 1 x.2.2.2.2.2.2.2.2.2.2.2.1 x.2.2.2.2.2.2.2.2.2.2.2.2.1 x.2.2.2.2.2.2.2.2.2.2.2.2.2.1), (.box 40 [(.p (.int .i64 x.2.2.2.2.2.2.2.2.2.2.2.2.2.2.1)), (.p (.int .i64 x.2.2.2.2.2.2.2.2.2.2.2.2.2.2.2.1)), (.p (.int .i64 x.2.2.2.2.2.2.2.2.2.2.2.2.2.2.2.2.1)), (.p (.bool x.2.2.2.2.2.2.2.2.2.2.2.2.2.2.2.2.2))])]⟩
def sa_coupletref03_Do_0 (S : St) : (Int × Bool × Int × Int × Int × Int × Bool × Int × Int × Int × Bool × Bool × Bool × List PV × Int × Int × Int × Bool) := (((tls 0 S.t).headD .any).pv.num, ((tls 10 S.t).headD .any).pv.tru, ((tls 12 S.t).headD .any).pv.num, (((tls 0 S.own).headD .gone).subs.headD .any).pv.num, (((tls 0 S.own).headD .gone).subs.tail.headD .any).pv.num, (((tls 0 S.own).headD .gone).subs.tail.tail.headD .any).pv.num, (((tls 0 S.own).headD .gone).subs.tail.tail.tail.headD .any).pv.tru, (((tls 1 S.own).headD .gone).subs.headD .any).pv.num, (((tls 1 S.own).headD .gone).subs.tail.headD .any).pv.num, (((tls 1 S.own).headD .gone).subs.tail.tail.headD .any).pv.num, (((tls 1 S.own).headD .gone).subs.tail.tail.tail.headD .any).pv.tru, ((tls 2 S.own).headD .gone).pvD.nl, ((tls 2 S.own).headD .gone).pvD.ex, ((tls 2 S.own).headD .gone).pvD.elts, (((tls 3 S.own).headD .gone).subs.headD .any).pv.num, (((tls 3 S.own).headD .gone).subs.tail.headD .any).pv.num, (((tls 3 S.own).headD .gone).subs.tail.tail.headD .any).pv.num, (((tls 3 S.own).headD .gone).subs.tail.tail.tail.headD .any).pv.tru)
def tz_coupletref03_Do_0_0 : StSh := ⟨174, [(6, (.ptr 0 0)), (7, (.ptr 1 0)), (10, (.p .bool)), (11, (.ptr 2 0))], [(.box 40 [(.p (.int .i64)), (.p (.int .i64)), (.p (.int .i64)), (.p .bool)]), (.box 40 [(.p (.int .i64)), (.p (.int .i64)), (.p (.int .i64)), (.p .bool)]), (.box 40 [(.p (.int .i64)), (.p (.int .i64)), (.p (.int .i64)), (.p .bool)])]⟩
def tx_coupletref03_Do_0_0 (x : (Bool × Int × Int × Int × Bool × Int × Int × Int × Bool × Int × Int × Int × Bool)) : St := ⟨slots 174 0 [(6, (.ptr 0 0)), (7, (.ptr 1 0)), (10, (.p (.bool x.1))), (11, (.ptr 2 0))], [(.box 40 [(.p (.int .i64 x.2.1)), (.p (.int .i64 x.2.2.1)), (.p (.int .i64 x.2.2.2.1)), (.p (.bool x.2.2.2.2.1))]), (.box 40 [(.p (.int .i64 x.2.2.2.2.2.1)), (.p (.int .i64 x.2.2.2.2.2.2.1)), (.p (.int .i64 x.2.2.2.2.2.2.2.1)), (.p (.bool x.2.2.2.2.2.2.2.2.1))]), (.box 40 [(.p (.int .i64 x.2.2.2.2.2.2.2.2.2.1)), (.p (.int .i64 x.2.2.2.2.2.2.2.2.2.2.1)), (.p (.int .i64 x.2.2.2.2.2.2.2.2.2.2.2.1)), (.p (.bool x.2.2.2.2.2.2.2.2.2.2.2.2))])]⟩
def ta_coupletref03_Do_0_0 (S : St) : (Bool × Int × Int × Int × Bool × Int × Int × Int × Bool × Int × Int × Int × Bool) := (((tls 10 S.t).headD .any).pv.tru, (((tls 0 S.own).headD .gone).subs.headD .any).pv.num, (((tls 0 S.own).headD .gone).subs.tail.headD .any).pv.num, (((tls 0 S.own).headD .gone).subs.tail.tail.headD .any).pv.num, (((tls 0 S.own).headD .gone).subs.tail.tail.tail.headD .any).pv.tru, (((tls 1 S.own).headD .gone).subs.headD .any).pv.num, (((tls 1 S.own).headD .gone).subs.tail.headD .any).pv.num, (((tls 1 S.own).headD .gone).subs.tail.tail.headD .any).pv.num, (((tls 1 S.own).headD .gone).subs.tail.tail.tail.headD .any).pv.tru, (((tls 2 S.own).headD .gone).subs.headD .any).pv.num, (((tls 2 S.own).headD .gone).subs.tail.headD .any).pv.num, (((tls 2 S.own).headD .gone).subs.tail.tail.headD .any).pv.num, (((tls 2 S.own).headD .gone).subs.tail.tail.tail.headD .any).pv.tru)
def kb_coupletref03_Do_0 : Exit → St → Tree (((Int × Bool × Int × Int × Int × Int × Bool × Int × Int × Int × Bool × Bool × Bool × List PV × Int × Int × Int × Bool)) ⊕ (((Bool × Int × Int × Int × Bool × Int × Int × Int × Bool × Int × Int × Int × Bool)))) := (exOne (.exit 0) [6, 7, 10, 11] tz_coupletref03_Do_0_0 ta_coupletref03_Do_0_0 (fun y => Sum.inr (y)) exNil)
def ky_coupletref03_Do_0 : Dec (((Bool × Int × Int × Int × Bool × Int × Int × Int × Bool × Int × Int × Int × Bool))) := fun _ y ke => ke ((.exit 0) : EK).ex (tx_coupletref03_Do_0_0 y)
theorem kk_coupletref03_Do_0 : ExOk Sum.inr kb_coupletref03_Do_0 ky_coupletref03_Do_0 := (ExOk.one (acc := ta_coupletref03_Do_0_0) (bY := tx_coupletref03_Do_0_0) (inj1 := fun y => y) (fun S => by kernel_rfl) (fun y _ ke => .inr (by kernel_rfl)) ExOk.nil)
def lm_coupletref03_Do : Lam := fun _ j S kn ke => match j with
  | 0 => prepT [0, 6, 7, 8, 10, 11, 12] [] S fun S => .chk (sh_coupletref03_Do_0.ok S) (.bind (loopN (fun x => st_coupletref03_Do_0 x.1 x.2.1 x.2.2.1 x.2.2.2.1 x.2.2.2.2.1 x.2.2.2.2.2.1 x.2.2.2.2.2.2.1 x.2.2.2.2.2.2.2.1 x.2.2.2.2.2.2.2.2.1 x.2.2.2.2.2.2.2.2.2.1 x.2.2.2.2.2.2.2.2.2.2.1 x.2.2.2.2.2.2.2.2.2.2.2.1 x.2.2.2.2.2.2.2.2.2.2.2.2.1 x.2.2.2.2.2.2.2.2.2.2.2.2.2.1 x.2.2.2.2.2.2.2.2.2.2.2.2.2.2.1 x.2.2.2.2.2.2.2.2.2.2.2.2.2.2.2.1 x.2.2.2.2.2.2.2.2.2.2.2.2.2.2.2.2.1 x.2.2.2.2.2.2.2.2.2.2.2.2.2.2.2.2.2) (sa_coupletref03_Do_0 S)) fun y => ky_coupletref03_Do_0 _ y ke)
  | _ => .fail
theorem sr_coupletref03_Do_0 (x : (Int × Bool × Int × Int × Int × Int × Bool × Int × Int × Int × Bool × Bool × Bool × List PV × Int × Int × Int × Bool)) : (ev GG gm_coupletref03_Do lm_coupletref03_Do xb_coupletref03_Do_0 (sx_coupletref03_Do_0 x) (fun S => forgetT [0, 6, 7, 8, 10, 11, 12] S fun S => prepT [0, 6, 7, 8, 10, 11, 12] [] S fun S => .chk (sh_coupletref03_Do_0.ok S) (.leaf (.inl (sa_coupletref03_Do_0 S)))) kb_coupletref03_Do_0).run = st_coupletref03_Do_0 x.1 x.2.1 x.2.2.1 x.2.2.2.1 x.2.2.2.2.1 x.2.2.2.2.2.1 x.2.2.2.2.2.2.1 x.2.2.2.2.2.2.2.1 x.2.2.2.2.2.2.2.2.1 x.2.2.2.2.2.2.2.2.2.1 x.2.2.2.2.2.2.2.2.2.2.1 x.2.2.2.2.2.2.2.2.2.2.2.1 x.2.2.2.2.2.2.2.2.2.2.2.2.1 x.2.2.2.2.2.2.2.2.2.2.2.2.2.1 x.2.2.2.2.2.2.2.2.2.2.2.2.2.2.1 x.2.2.2.2.2.2.2.2.2.2.2.2.2.2.2.1 x.2.2.2.2.2.2.2.2.2.2.2.2.2.2.2.2.1 x.2.2.2.2.2.2.2.2.2.2.2.2.2.2.2.2.2 := by kernel_rfl
theorem la_coupletref03_Do_0 : LamAt Try.prog GG lm_coupletref03_Do 0 (.loop [0, 6, 7, 8, 10, 11, 12] xb_coupletref03_Do_0.erase) := lam_loop (body := xb_coupletref03_Do_0) (Λ' := lm_coupletref03_Do) gk_coupletref03_Do (⟨⟨trivial, ⟨trivial, trivial⟩⟩, ⟨⟨trivial, ⟨trivial, ⟨trivial, ⟨⟨trivial, ⟨trivial, trivial⟩⟩, ⟨trivial, ⟨trivial, trivial⟩⟩⟩⟩⟩⟩, trivial⟩⟩) (fun S => (by kernel_rfl : sh_coupletref03_Do_0.build S = sx_coupletref03_Do_0 (sa_coupletref03_Do_0 S))) kk_coupletref03_Do_0 sr_coupletref03_Do_0 (fun _ _ _ => rfl)
def go_coupletref03_Do (n0 : Int) (n1 : Int) (n2 : Int) (n3 : Int) (b4 : Bool) (n5 : Int) (n6 : Int) (n7 : Int) (b8 : Bool) : Option (Int × Int × Int × Bool) :=
  (go_coupletref03_Fine n1 n2 n3 b4).bind fun r9 =>
  bif (!r9) then
   some (0, 0, 0, true)
  else
   (go_coupletref03_Fine n5 n6 n7 b8).bind fun r10 =>
   bif (!r10) then
    some (0, 0, 0, true)
   else
    bif (n0 == 3) then
     bif (decide (n6 ≤ 0)) then
      bif (decide (n7 ≥ 0)) then
       some (0, 0, 0, true)
      else
       bif (n0 == 0) then
        bif (n0 == 1) then
         (go_coupletref03_one n0 n1 n5 0).bind fun r11 =>
         (lp_coupletref03_Do_0 n0 r11.2 0 0 0 0 false 0 0 0 true false true [(.isl false true .i64 [n2, n7]), (.isl false true .i64 [n3, n6])] r11.1 0 0 false).bind fun y32 =>
         bif (!y32.1) then
          some (y32.2.2.2.2.2.1, y32.2.2.2.2.2.2.1, y32.2.2.2.2.2.2.2.1, y32.2.2.2.2.2.2.2.2.1)
         else
          some (y32.2.2.2.2.2.2.2.2.2.1, y32.2.2.2.2.2.2.2.2.2.2.1, y32.2.2.2.2.2.2.2.2.2.2.2.1, y32.2.2.2.2.2.2.2.2.2.2.2.2)
        else
         (go_coupletref03_one n0 n1 n5 0).bind fun r33 =>
         (lp_coupletref03_Do_0 n0 r33.2 0 0 0 0 false 0 0 0 true false true [(.isl false true .i64 [n2, n6]), (.isl false true .i64 [n3, n7])] r33.1 0 0 false).bind fun y34 =>
         bif (!y34.1) then
          some (y34.2.2.2.2.2.1, y34.2.2.2.2.2.2.1, y34.2.2.2.2.2.2.2.1, y34.2.2.2.2.2.2.2.2.1)
         else
          some (y34.2.2.2.2.2.2.2.2.2.1, y34.2.2.2.2.2.2.2.2.2.2.1, y34.2.2.2.2.2.2.2.2.2.2.2.1, y34.2.2.2.2.2.2.2.2.2.2.2.2)
       else
        bif (n0 == 4) then
         bif (n0 == 1) then
          (go_coupletref03_one n0 n1 n5 0).bind fun r35 =>
          (lp_coupletref03_Do_0 n0 r35.2 0 0 0 0 false 0 0 0 true false true [(.isl false true .i64 [n2, n7]), (.isl false true .i64 [n3, n6])] r35.1 0 0 false).bind fun y36 =>
          bif (!y36.1) then
           some (y36.2.2.2.2.2.1, y36.2.2.2.2.2.2.1, y36.2.2.2.2.2.2.2.1, y36.2.2.2.2.2.2.2.2.1)
          else
           some (y36.2.2.2.2.2.2.2.2.2.1, y36.2.2.2.2.2.2.2.2.2.2.1, y36.2.2.2.2.2.2.2.2.2.2.2.1, y36.2.2.2.2.2.2.2.2.2.2.2.2)
         else
          (go_coupletref03_one n0 n1 n5 0).bind fun r37 =>
          (lp_coupletref03_Do_0 n0 r37.2 0 0 0 0 false 0 0 0 true false true [(.isl false true .i64 [n2, n6]), (.isl false true .i64 [n3, n7])] r37.1 0 0 false).bind fun y38 =>
          bif (!y38.1) then
           some (y38.2.2.2.2.2.1, y38.2.2.2.2.2.2.1, y38.2.2.2.2.2.2.2.1, y38.2.2.2.2.2.2.2.2.1)
          else
           some (y38.2.2.2.2.2.2.2.2.2.1, y38.2.2.2.2.2.2.2.2.2.2.1, y38.2.2.2.2.2.2.2.2.2.2.2.1, y38.2.2.2.2.2.2.2.2.2.2.2.2)
        else
         bif (n0 == 1) then
          (go_coupletref03_one n0 n1 n5 0).bind fun r39 =>
          (lp_coupletref03_Do_0 n0 r39.2 0 0 0 0 false 0 0 0 true false true [(.isl false true .i64 [n2, n7]), (.isl false true .i64 [n3, n6])] r39.1 0 0 false).bind fun y40 =>
          bif (!y40.1) then
           some (y40.2.2.2.2.2.1, y40.2.2.2.2.2.2.1, y40.2.2.2.2.2.2.2.1, y40.2.2.2.2.2.2.2.2.1)
          else
           some (y40.2.2.2.2.2.2.2.2.2.1, y40.2.2.2.2.2.2.2.2.2.2.1, y40.2.2.2.2.2.2.2.2.2.2.2.1, y40.2.2.2.2.2.2.2.2.2.2.2.2)
         else
          (go_coupletref03_one n0 n1 n5 0).bind fun r41 =>
          (lp_coupletref03_Do_0 n0 r41.2 0 0 0 0 false 0 0 0 true false true [(.isl false true .i64 [n2, n6]), (.isl false true .i64 [n2, n7]), (.isl false true .i64 [n3, n6]), (.isl false true .i64 [n3, n7])] r41.1 0 0 false).bind fun y42 =>
          bif (!y42.1) then
           some (y42.2.2.2.2.2.1, y42.2.2.2.2.2.2.1, y42.2.2.2.2.2.2.2.1, y42.2.2.2.2.2.2.2.2.1)
          else
           some (y42.2.2.2.2.2.2.2.2.2.1, y42.2.2.2.2.2.2.2.2.2.2.1, y42.2.2.2.2.2.2.2.2.2.2.2.1, y42.2.2.2.2.2.2.2.2.2.2.2.2)
     else
      bif (n0 == 0) then
       bif (n0 == 1) then
        (go_coupletref03_one n0 n1 n5 0).bind fun r43 =>
        (lp_coupletref03_Do_0 n0 r43.2 0 0 0 0 false 0 0 0 true false true [(.isl false true .i64 [n2, n7]), (.isl false true .i64 [n3, n6])] r43.1 0 0 false).bind fun y44 =>
        bif (!y44.1) then
         some (y44.2.2.2.2.2.1, y44.2.2.2.2.2.2.1, y44.2.2.2.2.2.2.2.1, y44.2.2.2.2.2.2.2.2.1)
        else
         some (y44.2.2.2.2.2.2.2.2.2.1, y44.2.2.2.2.2.2.2.2.2.2.1, y44.2.2.2.2.2.2.2.2.2.2.2.1, y44.2.2.2.2.2.2.2.2.2.2.2.2)
       else
        (go_coupletref03_one n0 n1 n5 0).bind fun r45 =>
        (lp_coupletref03_Do_0 n0 r45.2 0 0 0 0 false 0 0 0 true false true [(.isl false true .i64 [n2, n6]), (.isl false true .i64 [n3, n7])] r45.1 0 0 false).bind fun y46 =>
        bif (!y46.1) then
         some (y46.2.2.2.2.2.1, y46.2.2.2.2.2.2.1, y46.2.2.2.2.2.2.2.1, y46.2.2.2.2.2.2.2.2.1)
        else
         some (y46.2.2.2.2.2.2.2.2.2.1, y46.2.2.2.2.2.2.2.2.2.2.1, y46.2.2.2.2.2.2.2.2.2.2.2.1, y46.2.2.2.2.2.2.2.2.2.2.2.2)
      else
       bif (n0 == 4) then
        bif (n0 == 1) then
         (go_coupletref03_one n0 n1 n5 0).bind fun r47 =>
         (lp_coupletref03_Do_0 n0 r47.2 0 0 0 0 false 0 0 0 true false true [(.isl false true .i64 [n2, n7]), (.isl false true .i64 [n3, n6])] r47.1 0 0 false).bind fun y48 =>
         bif (!y48.1) then
          some (y48.2.2.2.2.2.1, y48.2.2.2.2.2.2.1, y48.2.2.2.2.2.2.2.1, y48.2.2.2.2.2.2.2.2.1)
         else
          some (y48.2.2.2.2.2.2.2.2.2.1, y48.2.2.2.2.2.2.2.2.2.2.1, y48.2.2.2.2.2.2.2.2.2.2.2.1, y48.2.2.2.2.2.2.2.2.2.2.2.2)
        else
         (go_coupletref03_one n0 n1 n5 0).bind fun r49 =>
         (lp_coupletref03_Do_0 n0 r49.2 0 0 0 0 false 0 0 0 true false true [(.isl false true .i64 [n2, n6]), (.isl false true .i64 [n3, n7])] r49.1 0 0 false).bind fun y50 =>
         bif (!y50.1) then
          some (y50.2.2.2.2.2.1, y50.2.2.2.2.2.2.1, y50.2.2.2.2.2.2.2.1, y50.2.2.2.2.2.2.2.2.1)
         else
          some (y50.2.2.2.2.2.2.2.2.2.1, y50.2.2.2.2.2.2.2.2.2.2.1, y50.2.2.2.2.2.2.2.2.2.2.2.1, y50.2.2.2.2.2.2.2.2.2.2.2.2)
       else
        bif (n0 == 1) then
         (go_coupletref03_one n0 n1 n5 0).bind fun r51 =>
         (lp_coupletref03_Do_0 n0 r51.2 0 0 0 0 false 0 0 0 true false true [(.isl false true .i64 [n2, n7]), (.isl false true .i64 [n3, n6])] r51.1 0 0 false).bind fun y52 =>
         bif (!y52.1) then
          some (y52.2.2.2.2.2.1, y52.2.2.2.2.2.2.1, y52.2.2.2.2.2.2.2.1, y52.2.2.2.2.2.2.2.2.1)
         else
          some (y52.2.2.2.2.2.2.2.2.2.1, y52.2.2.2.2.2.2.2.2.2.2.1, y52.2.2.2.2.2.2.2.2.2.2.2.1, y52.2.2.2.2.2.2.2.2.2.2.2.2)
        else
         (go_coupletref03_one n0 n1 n5 0).bind fun r53 =>
         (lp_coupletref03_Do_0 n0 r53.2 0 0 0 0 false 0 0 0 true false true [(.isl false true .i64 [n2, n6]), (.isl false true .i64 [n2, n7]), (.isl false true .i64 [n3, n6]), (.isl false true .i64 [n3, n7])] r53.1 0 0 false).bind fun y54 =>
         bif (!y54.1) then
          some (y54.2.2.2.2.2.1, y54.2.2.2.2.2.2.1, y54.2.2.2.2.2.2.2.1, y54.2.2.2.2.2.2.2.2.1)
         else
          some (y54.2.2.2.2.2.2.2.2.2.1, y54.2.2.2.2.2.2.2.2.2.2.1, y54.2.2.2.2.2.2.2.2.2.2.2.1, y54.2.2.2.2.2.2.2.2.2.2.2.2)
    else
     bif (n0 == 0) then
      bif (n0 == 1) then
       (go_coupletref03_one n0 n1 n5 0).bind fun r55 =>
       (lp_coupletref03_Do_0 n0 r55.2 0 0 0 0 false 0 0 0 true false true [(.isl false true .i64 [n2, n7]), (.isl false true .i64 [n3, n6])] r55.1 0 0 false).bind fun y56 =>
       bif (!y56.1) then
        some (y56.2.2.2.2.2.1, y56.2.2.2.2.2.2.1, y56.2.2.2.2.2.2.2.1, y56.2.2.2.2.2.2.2.2.1)
       else
        some (y56.2.2.2.2.2.2.2.2.2.1, y56.2.2.2.2.2.2.2.2.2.2.1, y56.2.2.2.2.2.2.2.2.2.2.2.1, y56.2.2.2.2.2.2.2.2.2.2.2.2)
      else
       (go_coupletref03_one n0 n1 n5 0).bind fun r57 =>
       (lp_coupletref03_Do_0 n0 r57.2 0 0 0 0 false 0 0 0 true false true [(.isl false true .i64 [n2, n6]), (.isl false true .i64 [n3, n7])] r57.1 0 0 false).bind fun y58 =>
       bif (!y58.1) then
        some (y58.2.2.2.2.2.1, y58.2.2.2.2.2.2.1, y58.2.2.2.2.2.2.2.1, y58.2.2.2.2.2.2.2.2.1)
       else
        some (y58.2.2.2.2.2.2.2.2.2.1, y58.2.2.2.2.2.2.2.2.2.2.1, y58.2.2.2.2.2.2.2.2.2.2.2.1, y58.2.2.2.2.2.2.2.2.2.2.2.2)
     else
      bif (n0 == 4) then
       bif (n0 == 1) then
        (go_coupletref03_one n0 n1 n5 0).bind fun r59 =>
        (lp_coupletref03_Do_0 n0 r59.2 0 0 0 0 false 0 0 0 true false true [(.isl false true .i64 [n2, n7]), (.isl false true .i64 [n3, n6])] r59.1 0 0 false).bind fun y60 =>
        bif (!y60.1) then
         some (y60.2.2.2.2.2.1, y60.2.2.2.2.2.2.1, y60.2.2.2.2.2.2.2.1, y60.2.2.2.2.2.2.2.2.1)
        else
         some (y60.2.2.2.2.2.2.2.2.2.1, y60.2.2.2.2.2.2.2.2.2.2.1, y60.2.2.2.2.2.2.2.2.2.2.2.1, y60.2.2.2.2.2.2.2.2.2.2.2.2)
       else
        (go_coupletref03_one n0 n1 n5 0).bind fun r61 =>
        (lp_coupletref03_Do_0 n0 r61.2 0 0 0 0 false 0 0 0 true false true [(.isl false true .i64 [n2, n6]), (.isl false true .i64 [n3, n7])] r61.1 0 0 false).bind fun y62 =>
        bif (!y62.1) then
         some (y62.2.2.2.2.2.1, y62.2.2.2.2.2.2.1, y62.2.2.2.2.2.2.2.1, y62.2.2.2.2.2.2.2.2.1)
        else
         some (y62.2.2.2.2.2.2.2.2.2.1, y62.2.2.2.2.2.2.2.2.2.2.1, y62.2.2.2.2.2.2.2.2.2.2.2.1, y62.2.2.2.2.2.2.2.2.2.2.2.2)
      else
       bif (n0 == 1) then
        (go_coupletref03_one n0 n1 n5 0).bind fun r63 =>
        (lp_coupletref03_Do_0 n0 r63.2 0 0 0 0 false 0 0 0 true false true [(.isl false true .i64 [n2, n7]), (.isl false true .i64 [n3, n6])] r63.1 0 0 false).bind fun y64 =>
        bif (!y64.1) then
         some (y64.2.2.2.2.2.1, y64.2.2.2.2.2.2.1, y64.2.2.2.2.2.2.2.1, y64.2.2.2.2.2.2.2.2.1)
        else
         some (y64.2.2.2.2.2.2.2.2.2.1, y64.2.2.2.2.2.2.2.2.2.2.1, y64.2.2.2.2.2.2.2.2.2.2.2.1, y64.2.2.2.2.2.2.2.2.2.2.2.2)
       else
        (go_coupletref03_one n0 n1 n5 0).bind fun r65 =>
        (lp_coupletref03_Do_0 n0 r65.2 0 0 0 0 false 0 0 0 true false true [(.isl false true .i64 [n2, n6]), (.isl false true .i64 [n2, n7]), (.isl false true .i64 [n3, n6]), (.isl false true .i64 [n3, n7])] r65.1 0 0 false).bind fun y66 =>
        bif (!y66.1) then
         some (y66.2.2.2.2.2.1, y66.2.2.2.2.2.2.1, y66.2.2.2.2.2.2.2.1, y66.2.2.2.2.2.2.2.2.1)
        else
         some (y66.2.2.2.2.2.2.2.2.2.1, y66.2.2.2.2.2.2.2.2.2.2.1, y66.2.2.2.2.2.2.2.2.2.2.2.1, y66.2.2.2.2.2.2.2.2.2.2.2.2)
def em_coupletref03_Do (r : (Int × Int × Int × Bool)) : PV := (.agg [(.int .i64 r.1), (.int .i64 r.2.1), (.int .i64 r.2.2.1), (.bool r.2.2.2)])
def rh_coupletref03_Do : Shp := (.agg [(.int .i64), (.int .i64), (.int .i64), .bool])
def ra_coupletref03_Do (v : PV) : (Int × Int × Int × Bool) := ((v.subs.headD .nilSl).num, (v.subs.tail.headD .nilSl).num, (v.subs.tail.tail.headD .nilSl).num, (v.subs.tail.tail.tail.headD .nilSl).tru)
def kf_coupletref03_Do (v : PV) : Tree (Int × Int × Int × Bool) := .chk (rh_coupletref03_Do.ok v) (.leaf (ra_coupletref03_Do v))
theorem rn_coupletref03_Do (n0 : Int) (n1 : Int) (n2 : Int) (n3 : Int) (b4 : Bool) (n5 : Int) (n6 : Int) (n7 : Int) (b8 : Bool) : (ev GG gm_coupletref03_Do lm_coupletref03_Do xr_coupletref03_Do ⟨slots 174 0 [(0, .p (.int .i64 n0)), (1, .p (.agg [(.int .i64 n1), (.int .i64 n2), (.int .i64 n3), (.bool b4)])), (2, .p (.agg [(.int .i64 n5), (.int .i64 n6), (.int .i64 n7), (.bool b8)]))], []⟩ (fun S => finT Try.prog rs_coupletref03_Do S kf_coupletref03_Do) (retT Try.prog rs_coupletref03_Do kf_coupletref03_Do)).run = go_coupletref03_Do n0 n1 n2 n3 b4 n5 n6 n7 b8 := by kernel_rfl
theorem ok_coupletref03_Do (n0 : Int) (n1 : Int) (n2 : Int) (n3 : Int) (b4 : Bool) (n5 : Int) (n6 : Int) (n7 : Int) (b8 : Bool) (r : (Int × Int × Int × Bool)) (h : go_coupletref03_Do n0 n1 n2 n3 b4 n5 n6 n7 b8 = some r) : FunEq Try.prog GG 41 [(.int .i64 n0), (.agg [(.int .i64 n1), (.int .i64 n2), (.int .i64 n3), (.bool b4)]), (.agg [(.int .i64 n5), (.int .i64 n6), (.int .i64 n7), (.bool b8)])] (em_coupletref03_Do r) :=
  fun_of_ev (x := xr_coupletref03_Do) (Λ := lm_coupletref03_Do) gk_coupletref03_Do [[0, 6, 7, 8, 10, 11, 12]] Try.func41 rfl (by kernel_rfl) ir_coupletref03_Do (by kernel_rfl) (congrArg Array.toList Try.results41) Try.ntmps41 (⟨trivial, ⟨trivial, ⟨⟨trivial, ⟨⟨trivial, trivial⟩, trivial⟩⟩, ⟨trivial, ⟨⟨trivial, ⟨trivial, trivial⟩⟩, ⟨⟨trivial, ⟨trivial, trivial⟩⟩, ⟨trivial, ⟨trivial, ⟨⟨trivial, la_coupletref03_Do_0⟩, ⟨⟨trivial, ⟨⟨trivial, trivial⟩, trivial⟩⟩, ⟨trivial, trivial⟩⟩⟩⟩⟩⟩⟩⟩⟩⟩⟩) (leaf_of fun v => (by kernel_rfl : rh_coupletref03_Do.build v = em_coupletref03_Do (ra_coupletref03_Do v))) (by kernel_rfl) ((rn_coupletref03_Do n0 n1 n2 n3 b4 n5 n6 n7 b8).trans h)
def as_coupletref03_Do : List Shp := [(.int .i64), (.agg [(.int .i64), (.int .i64), (.int .i64), .bool]), (.agg [(.int .i64), (.int .i64), (.int .i64), .bool])]
def ga_coupletref03_Do (vs : List PV) : Option (Int × Int × Int × Bool) := go_coupletref03_Do ((tls 0 vs).headD .nilSl).num (((tls 1 vs).headD .nilSl).subs.headD .nilSl).num (((tls 1 vs).headD .nilSl).subs.tail.headD .nilSl).num (((tls 1 vs).headD .nilSl).subs.tail.tail.headD .nilSl).num (((tls 1 vs).headD .nilSl).subs.tail.tail.tail.headD .nilSl).tru (((tls 2 vs).headD .nilSl).subs.headD .nilSl).num (((tls 2 vs).headD .nilSl).subs.tail.headD .nilSl).num (((tls 2 vs).headD .nilSl).subs.tail.tail.headD .nilSl).num (((tls 2 vs).headD .nilSl).subs.tail.tail.tail.headD .nilSl).tru
theorem at_coupletref03_Do : FnAt Try.prog GG 41 as_coupletref03_Do ga_coupletref03_Do em_coupletref03_Do := fun vs h r hr => by
  have e : Shp.buildL as_coupletref03_Do vs = [(.int .i64 ((tls 0 vs).headD .nilSl).num), (.agg [(.int .i64 (((tls 1 vs).headD .nilSl).subs.headD .nilSl).num), (.int .i64 (((tls 1 vs).headD .nilSl).subs.tail.headD .nilSl).num), (.int .i64 (((tls 1 vs).headD .nilSl).subs.tail.tail.headD .nilSl).num), (.bool (((tls 1 vs).headD .nilSl).subs.tail.tail.tail.headD .nilSl).tru)]), (.agg [(.int .i64 (((tls 2 vs).headD .nilSl).subs.headD .nilSl).num), (.int .i64 (((tls 2 vs).headD .nilSl).subs.tail.headD .nilSl).num), (.int .i64 (((tls 2 vs).headD .nilSl).subs.tail.tail.headD .nilSl).num), (.bool (((tls 2 vs).headD .nilSl).subs.tail.tail.tail.headD .nilSl).tru)])] := by kernel_rfl
  rw [← Shp.buildL_eq _ h, e]
  exact .inl ⟨by decide, ok_coupletref03_Do _ _ _ _ _ _ _ _ _ r hr⟩
end Go.Proofs
end
