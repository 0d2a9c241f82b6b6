import Derived.Test.YtbfhholefjngpaaDoorWSDa
import Derived.Test.YtbfhholefjngpaaDoorWC10
import Derived.Test.YtbfhholefjngpaaDoorWC9
import Derived.Test.YtbfhholefjngpaaDoorWE1
import Derived.Test.YtbfhholefjngpaaDoorWSDs
import Derived.Test.YtbfhholefjngpaaDoorFxFin
set_option linter.unusedVariables false
set_option linter.unusedSimpArgs false
set_option maxRecDepth 100000
namespace Go.Proofs
open Go Go.Fx Go.Mdlaw Go.Rootlaw
open Classical in
noncomputable def go_rec_Text (n : Int) : Option (List Int) := if False then some ([]) else none
def em_rec_Text (r : (List Int)) : PV := (.str r)
def as_rec_Text : List Shp := [(.int .i64)]
noncomputable def ga_rec_Text (vs : List PV) : Option (List Int) := go_rec_Text ((tls 0 vs).headD .nilSl).num
theorem fe_rec_Text (n : Int) (r : (List Int)) (hr : go_rec_Text n = some r) : FunEq Tryd.prog GG 14 [(.int .i64 n)] (em_rec_Text r) := by
  unfold go_rec_Text at hr
  split at hr
  · rename_i h
    cases hr
    exact h.elim
  · cases hr
theorem at_rec_Text : FnAt Tryd.prog GG 14 as_rec_Text ga_rec_Text em_rec_Text := fun vs h r hr => by
  have e : Shp.buildL as_rec_Text vs = [(.int .i64 ((tls 0 vs).headD .nilSl).num)] := by kernel_rfl
  rw [← Shp.buildL_eq _ h, e]
  exact fe_rec_Text _ r hr

open Classical in
noncomputable def go_fx_Right (a : Int) : Option Bool := some (decide (okF a))
def em_fx_Right (r : Bool) : PV := (.bool r)
def as_fx_Right : List Shp := [(.int .i64)]
noncomputable def ga_fx_Right (vs : List PV) : Option Bool := go_fx_Right ((tls 0 vs).headD .nilSl).num
theorem fe_fx_Right (a : Int) (r : Bool) (hr : go_fx_Right a = some r) : FunEq Tryd.prog GG 19 [(.int .i64 a)] (em_fx_Right r) := by
  unfold go_fx_Right at hr
  cases hr
  exact fn_fx_Right GG a
theorem at_fx_Right : FnAt Tryd.prog GG 19 as_fx_Right ga_fx_Right em_fx_Right := fun vs h r hr => by
  have e : Shp.buildL as_fx_Right vs = [(.int .i64 ((tls 0 vs).headD .nilSl).num)] := by kernel_rfl
  rw [← Shp.buildL_eq _ h, e]
  exact fe_fx_Right _ r hr

open Classical in
noncomputable def go_fx_Of (a : Int) : Option (Int × Bool) := if i64 a then some ((fOf a).1, (fOf a).2) else none
def em_fx_Of (r : (Int × Bool)) : PV := (.tup [(.int .i64 r.1), (.bool r.2)])
def as_fx_Of : List Shp := [(.int .i64)]
noncomputable def ga_fx_Of (vs : List PV) : Option (Int × Bool) := go_fx_Of ((tls 0 vs).headD .nilSl).num
theorem fe_fx_Of (a : Int) (r : (Int × Bool)) (hr : go_fx_Of a = some r) : FunEq Tryd.prog GG 11 [(.int .i64 a)] (em_fx_Of r) := by
  unfold go_fx_Of at hr
  split at hr
  · rename_i h
    cases hr
    exact fn_fx_Of GG a h
  · cases hr
theorem at_fx_Of : FnAt Tryd.prog GG 11 as_fx_Of ga_fx_Of em_fx_Of := fun vs h r hr => by
  have e : Shp.buildL as_fx_Of vs = [(.int .i64 ((tls 0 vs).headD .nilSl).num)] := by kernel_rfl
  rw [← Shp.buildL_eq _ h, e]
  exact fe_fx_Of _ r hr

open Classical in
noncomputable def go_fx_Add (a : Int) (b : Int) : Option (Int × Bool) := some ((fAdd a b).1, (fAdd a b).2)
def em_fx_Add (r : (Int × Bool)) : PV := (.tup [(.int .i64 r.1), (.bool r.2)])
def as_fx_Add : List Shp := [(.int .i64), (.int .i64)]
noncomputable def ga_fx_Add (vs : List PV) : Option (Int × Bool) := go_fx_Add ((tls 0 vs).headD .nilSl).num ((tls 1 vs).headD .nilSl).num
theorem fe_fx_Add (a : Int) (b : Int) (r : (Int × Bool)) (hr : go_fx_Add a b = some r) : FunEq Tryd.prog GG 21 [(.int .i64 a), (.int .i64 b)] (em_fx_Add r) := by
  unfold go_fx_Add at hr
  cases hr
  exact fn_fx_Add GG a b
theorem at_fx_Add : FnAt Tryd.prog GG 21 as_fx_Add ga_fx_Add em_fx_Add := fun vs h r hr => by
  have e : Shp.buildL as_fx_Add vs = [(.int .i64 ((tls 0 vs).headD .nilSl).num), (.int .i64 ((tls 1 vs).headD .nilSl).num)] := by kernel_rfl
  rw [← Shp.buildL_eq _ h, e]
  exact fe_fx_Add _ _ r hr

open Classical in
noncomputable def go_fx_Sub (a : Int) (b : Int) : Option (Int × Bool) := some ((fSub a b).1, (fSub a b).2)
def em_fx_Sub (r : (Int × Bool)) : PV := (.tup [(.int .i64 r.1), (.bool r.2)])
def as_fx_Sub : List Shp := [(.int .i64), (.int .i64)]
noncomputable def ga_fx_Sub (vs : List PV) : Option (Int × Bool) := go_fx_Sub ((tls 0 vs).headD .nilSl).num ((tls 1 vs).headD .nilSl).num
theorem fe_fx_Sub (a : Int) (b : Int) (r : (Int × Bool)) (hr : go_fx_Sub a b = some r) : FunEq Tryd.prog GG 22 [(.int .i64 a), (.int .i64 b)] (em_fx_Sub r) := by
  unfold go_fx_Sub at hr
  cases hr
  exact fn_fx_Sub GG a b
theorem at_fx_Sub : FnAt Tryd.prog GG 22 as_fx_Sub ga_fx_Sub em_fx_Sub := fun vs h r hr => by
  have e : Shp.buildL as_fx_Sub vs = [(.int .i64 ((tls 0 vs).headD .nilSl).num), (.int .i64 ((tls 1 vs).headD .nilSl).num)] := by kernel_rfl
  rw [← Shp.buildL_eq _ h, e]
  exact fe_fx_Sub _ _ r hr

open Classical in
noncomputable def go_fx_Mul (a : Int) (b : Int) (m : Int) : Option (Int × Bool) := if i64 a ∧ i64 b ∧ i64 m then some ((fMul a b m).1, (fMul a b m).2) else none
def em_fx_Mul (r : (Int × Bool)) : PV := (.tup [(.int .i64 r.1), (.bool r.2)])
def as_fx_Mul : List Shp := [(.int .i64), (.int .i64), (.int .i64)]
noncomputable def ga_fx_Mul (vs : List PV) : Option (Int × Bool) := go_fx_Mul ((tls 0 vs).headD .nilSl).num ((tls 1 vs).headD .nilSl).num ((tls 2 vs).headD .nilSl).num
theorem fe_fx_Mul (a : Int) (b : Int) (m : Int) (r : (Int × Bool)) (hr : go_fx_Mul a b m = some r) : FunEq Tryd.prog GG 15 [(.int .i64 a), (.int .i64 b), (.int .i64 m)] (em_fx_Mul r) := by
  unfold go_fx_Mul at hr
  split at hr
  · rename_i h
    cases hr
    exact fn_fx_Mul GG a b m h.1 h.2.1 h.2.2
  · cases hr
theorem at_fx_Mul : FnAt Tryd.prog GG 15 as_fx_Mul ga_fx_Mul em_fx_Mul := fun vs h r hr => by
  have e : Shp.buildL as_fx_Mul vs = [(.int .i64 ((tls 0 vs).headD .nilSl).num), (.int .i64 ((tls 1 vs).headD .nilSl).num), (.int .i64 ((tls 2 vs).headD .nilSl).num)] := by kernel_rfl
  rw [← Shp.buildL_eq _ h, e]
  exact fe_fx_Mul _ _ _ r hr

open Classical in
noncomputable def go_fx_Div (a : Int) (b : Int) (m : Int) : Option (Int × Bool) := if i64 a ∧ i64 b ∧ i64 m then some ((fDiv a b m).1, (fDiv a b m).2) else none
def em_fx_Div (r : (Int × Bool)) : PV := (.tup [(.int .i64 r.1), (.bool r.2)])
def as_fx_Div : List Shp := [(.int .i64), (.int .i64), (.int .i64)]
noncomputable def ga_fx_Div (vs : List PV) : Option (Int × Bool) := go_fx_Div ((tls 0 vs).headD .nilSl).num ((tls 1 vs).headD .nilSl).num ((tls 2 vs).headD .nilSl).num
theorem fe_fx_Div (a : Int) (b : Int) (m : Int) (r : (Int × Bool)) (hr : go_fx_Div a b m = some r) : FunEq Tryd.prog GG 17 [(.int .i64 a), (.int .i64 b), (.int .i64 m)] (em_fx_Div r) := by
  unfold go_fx_Div at hr
  split at hr
  · rename_i h
    cases hr
    exact fn_fx_Div GG a b m h.1 h.2.1 h.2.2
  · cases hr
theorem at_fx_Div : FnAt Tryd.prog GG 17 as_fx_Div ga_fx_Div em_fx_Div := fun vs h r hr => by
  have e : Shp.buildL as_fx_Div vs = [(.int .i64 ((tls 0 vs).headD .nilSl).num), (.int .i64 ((tls 1 vs).headD .nilSl).num), (.int .i64 ((tls 2 vs).headD .nilSl).num)] := by kernel_rfl
  rw [← Shp.buildL_eq _ h, e]
  exact fe_fx_Div _ _ _ r hr

open Classical in
noncomputable def go_fx_Root (a : Int) (m : Int) : Option (Int × Bool) := if i64 a ∧ i64 m then some ((fRoot a m (sqr a 16777216)).1, (fRoot a m (sqr a 16777216)).2) else none
def em_fx_Root (r : (Int × Bool)) : PV := (.tup [(.int .i64 r.1), (.bool r.2)])
def as_fx_Root : List Shp := [(.int .i64), (.int .i64)]
noncomputable def ga_fx_Root (vs : List PV) : Option (Int × Bool) := go_fx_Root ((tls 0 vs).headD .nilSl).num ((tls 1 vs).headD .nilSl).num
theorem fe_fx_Root (a : Int) (m : Int) (r : (Int × Bool)) (hr : go_fx_Root a m = some r) : FunEq Tryd.prog GG 24 [(.int .i64 a), (.int .i64 m)] (em_fx_Root r) := by
  unfold go_fx_Root at hr
  split at hr
  · rename_i h
    cases hr
    exact fn_fx_Root GG a m (sqr a 16777216) h.1 h.2 (sqr_le a 16777216) (sqr_lt a 16777216)
  · cases hr
theorem at_fx_Root : FnAt Tryd.prog GG 24 as_fx_Root ga_fx_Root em_fx_Root := fun vs h r hr => by
  have e : Shp.buildL as_fx_Root vs = [(.int .i64 ((tls 0 vs).headD .nilSl).num), (.int .i64 ((tls 1 vs).headD .nilSl).num)] := by kernel_rfl
  rw [← Shp.buildL_eq _ h, e]
  exact fe_fx_Root _ _ r hr

open Classical in
noncomputable def go_coupletref01_MulDiv (a : Int) (b : Int) (c : Int) (m : Int) : Option (Int × Bool) := some ((md a b c m).1, (md a b c m).2)
def em_coupletref01_MulDiv (r : (Int × Bool)) : PV := (.tup [(.int .i64 r.1), (.bool r.2)])
def as_coupletref01_MulDiv : List Shp := [(.int .i64), (.int .i64), (.int .i64), (.int .i64)]
noncomputable def ga_coupletref01_MulDiv (vs : List PV) : Option (Int × Bool) := go_coupletref01_MulDiv ((tls 0 vs).headD .nilSl).num ((tls 1 vs).headD .nilSl).num ((tls 2 vs).headD .nilSl).num ((tls 3 vs).headD .nilSl).num
theorem fe_coupletref01_MulDiv (a : Int) (b : Int) (c : Int) (m : Int) (r : (Int × Bool)) (hr : go_coupletref01_MulDiv a b c m = some r) : FunEq Tryd.prog GG 41 [(.int .i64 a), (.int .i64 b), (.int .i64 c), (.int .i64 m)] (em_coupletref01_MulDiv r) := by
  unfold go_coupletref01_MulDiv at hr
  cases hr
  exact fn_ref_MulDiv GG a b c m
theorem at_coupletref01_MulDiv : FnAt Tryd.prog GG 41 as_coupletref01_MulDiv ga_coupletref01_MulDiv em_coupletref01_MulDiv := fun vs h r hr => by
  have e : Shp.buildL as_coupletref01_MulDiv vs = [(.int .i64 ((tls 0 vs).headD .nilSl).num), (.int .i64 ((tls 1 vs).headD .nilSl).num), (.int .i64 ((tls 2 vs).headD .nilSl).num), (.int .i64 ((tls 3 vs).headD .nilSl).num)] := by kernel_rfl
  rw [← Shp.buildL_eq _ h, e]
  exact fe_coupletref01_MulDiv _ _ _ _ r hr

open Classical in
noncomputable def go_coupletref01_Root (a : Int) (b : Int) : Option (Int × Bool) := if okW a ∧ okW b then some (((sqr a b : Nat) : Int), !decide (sqr a b * sqr a b < (a).natAbs * (b).natAbs)) else none
def em_coupletref01_Root (r : (Int × Bool)) : PV := (.tup [(.int .i64 r.1), (.bool r.2)])
def as_coupletref01_Root : List Shp := [(.int .i64), (.int .i64)]
noncomputable def ga_coupletref01_Root (vs : List PV) : Option (Int × Bool) := go_coupletref01_Root ((tls 0 vs).headD .nilSl).num ((tls 1 vs).headD .nilSl).num
theorem fe_coupletref01_Root (a : Int) (b : Int) (r : (Int × Bool)) (hr : go_coupletref01_Root a b = some r) : FunEq Tryd.prog GG 43 [(.int .i64 a), (.int .i64 b)] (em_coupletref01_Root r) := by
  unfold go_coupletref01_Root at hr
  split at hr
  · rename_i h
    cases hr
    exact fn_ref_Root GG a b (sqr a b) h.1 h.2 (sqr_le a b) (sqr_lt a b)
  · cases hr
theorem at_coupletref01_Root : FnAt Tryd.prog GG 43 as_coupletref01_Root ga_coupletref01_Root em_coupletref01_Root := fun vs h r hr => by
  have e : Shp.buildL as_coupletref01_Root vs = [(.int .i64 ((tls 0 vs).headD .nilSl).num), (.int .i64 ((tls 1 vs).headD .nilSl).num)] := by kernel_rfl
  rw [← Shp.buildL_eq _ h, e]
  exact fe_coupletref01_Root _ _ r hr

end Go.Proofs
