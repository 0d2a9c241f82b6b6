import Derived.Test.YtbfhholefjngpaaWSB0
import Derived.Test.YtbfhholefjngpaaWSBa
set_option linter.unusedVariables false
set_option linter.unusedSimpArgs false
set_option maxRecDepth 100000
namespace Go.Proofs
open Go Go.Fx Go.Mdlaw Go.Rootlaw
open Classical in
noncomputable def go_coupletref01_MulDiv (a : Int) (b : Int) (c : Int) (m : Int) : Option (Int × Bool) := some ((md a b c m).1, (md a b c m).2)
def em_coupletref01_MulDiv (r : (Int × Bool)) : PV := (.tup [(.int .i64 r.1), (.bool r.2)])
def as_coupletref01_MulDiv : List Shp := [(.int .i64), (.int .i64), (.int .i64), (.int .i64)]
noncomputable def ga_coupletref01_MulDiv (vs : List PV) : Option (Int × Bool) := go_coupletref01_MulDiv ((tls 0 vs).headD .nilSl).num ((tls 1 vs).headD .nilSl).num ((tls 2 vs).headD .nilSl).num ((tls 3 vs).headD .nilSl).num
theorem fe_coupletref01_MulDiv (a : Int) (b : Int) (c : Int) (m : Int) (r : (Int × Bool)) (hr : go_coupletref01_MulDiv a b c m = some r) : FunEq Try.prog GG 25 [(.int .i64 a), (.int .i64 b), (.int .i64 c), (.int .i64 m)] (em_coupletref01_MulDiv r) := by
  unfold go_coupletref01_MulDiv at hr
  cases hr
  exact fn_ref_MulDiv GG a b c m
theorem at_coupletref01_MulDiv : FnAt Try.prog GG 25 as_coupletref01_MulDiv ga_coupletref01_MulDiv em_coupletref01_MulDiv := fun vs h r hr => by
  have e : Shp.buildL as_coupletref01_MulDiv vs = [(.int .i64 ((tls 0 vs).headD .nilSl).num), (.int .i64 ((tls 1 vs).headD .nilSl).num), (.int .i64 ((tls 2 vs).headD .nilSl).num), (.int .i64 ((tls 3 vs).headD .nilSl).num)] := by kernel_rfl
  rw [← Shp.buildL_eq _ h, e]
  exact fe_coupletref01_MulDiv _ _ _ _ r hr

open Classical in
noncomputable def go_coupletref01_Root (a : Int) (b : Int) : Option (Int × Bool) := if okW a ∧ okW b then some (((sqr a b : Nat) : Int), !decide (sqr a b * sqr a b < (a).natAbs * (b).natAbs)) else none
def em_coupletref01_Root (r : (Int × Bool)) : PV := (.tup [(.int .i64 r.1), (.bool r.2)])
def as_coupletref01_Root : List Shp := [(.int .i64), (.int .i64)]
noncomputable def ga_coupletref01_Root (vs : List PV) : Option (Int × Bool) := go_coupletref01_Root ((tls 0 vs).headD .nilSl).num ((tls 1 vs).headD .nilSl).num
theorem fe_coupletref01_Root (a : Int) (b : Int) (r : (Int × Bool)) (hr : go_coupletref01_Root a b = some r) : FunEq Try.prog GG 32 [(.int .i64 a), (.int .i64 b)] (em_coupletref01_Root r) := by
  unfold go_coupletref01_Root at hr
  split at hr
  · rename_i h
    cases hr
    exact fn_ref_Root GG a b (sqr a b) h.1 h.2 (sqr_le a b) (sqr_lt a b)
  · cases hr
theorem at_coupletref01_Root : FnAt Try.prog GG 32 as_coupletref01_Root ga_coupletref01_Root em_coupletref01_Root := fun vs h r hr => by
  have e : Shp.buildL as_coupletref01_Root vs = [(.int .i64 ((tls 0 vs).headD .nilSl).num), (.int .i64 ((tls 1 vs).headD .nilSl).num)] := by kernel_rfl
  rw [← Shp.buildL_eq _ h, e]
  exact fe_coupletref01_Root _ _ r hr

open Classical in
noncomputable def go_coupletref01_Times (a : Int) (b : Int) : Option (Bool × Bool × List Int) := if 0 ≤ a ∧ a < 9223372036854775808 ∧ 0 ≤ b ∧ b < 9223372036854775808 then some (false, false, Bitrow.bits 130 ((a).toNat * (b).toNat)) else none
def em_coupletref01_Times (r : (Bool × Bool × List Int)) : PV := (.isl r.1 r.2.1 .i64 r.2.2)
def as_coupletref01_Times : List Shp := [(.int .i64), (.int .i64)]
noncomputable def ga_coupletref01_Times (vs : List PV) : Option (Bool × Bool × List Int) := go_coupletref01_Times ((tls 0 vs).headD .nilSl).num ((tls 1 vs).headD .nilSl).num
theorem fe_coupletref01_Times (a : Int) (b : Int) (r : (Bool × Bool × List Int)) (hr : go_coupletref01_Times a b = some r) : FunEq Try.prog GG 33 [(.int .i64 a), (.int .i64 b)] (em_coupletref01_Times r) := by
  unfold go_coupletref01_Times at hr
  split at hr
  · rename_i h
    cases hr
    exact times_at h.1 h.2.1 h.2.2.1 h.2.2.2
  · cases hr
theorem at_coupletref01_Times : FnAt Try.prog GG 33 as_coupletref01_Times ga_coupletref01_Times em_coupletref01_Times := fun vs h r hr => by
  have e : Shp.buildL as_coupletref01_Times vs = [(.int .i64 ((tls 0 vs).headD .nilSl).num), (.int .i64 ((tls 1 vs).headD .nilSl).num)] := by kernel_rfl
  rw [← Shp.buildL_eq _ h, e]
  exact fe_coupletref01_Times _ _ r hr

open Classical in
noncomputable def go_coupletref01_Less (an : Bool) (ae : Bool) (a : List Int) (bn : Bool) (be : Bool) (b : List Int) : Option Bool := if ∃ x y : Nat, x < 2 ^ 130 ∧ y < 2 ^ 130 ∧ PV.isl an ae .i64 a = rowP x ∧ PV.isl bn be .i64 b = rowP y then some (lessV a b) else none
def em_coupletref01_Less (r : Bool) : PV := (.bool r)
def as_coupletref01_Less : List Shp := [(.isl .i64), (.isl .i64)]
noncomputable def ga_coupletref01_Less (vs : List PV) : Option Bool := go_coupletref01_Less ((tls 0 vs).headD .nilSl).nl ((tls 0 vs).headD .nilSl).ex ((tls 0 vs).headD .nilSl).ints ((tls 1 vs).headD .nilSl).nl ((tls 1 vs).headD .nilSl).ex ((tls 1 vs).headD .nilSl).ints
theorem fe_coupletref01_Less (an : Bool) (ae : Bool) (a : List Int) (bn : Bool) (be : Bool) (b : List Int) (r : Bool) (hr : go_coupletref01_Less an ae a bn be b = some r) : FunEq Try.prog GG 34 [(.isl an ae .i64 a), (.isl bn be .i64 b)] (em_coupletref01_Less r) := by
  unfold go_coupletref01_Less at hr
  split at hr
  · rename_i h
    cases hr
    exact less_at h
  · cases hr
theorem at_coupletref01_Less : FnAt Try.prog GG 34 as_coupletref01_Less ga_coupletref01_Less em_coupletref01_Less := fun vs h r hr => by
  have e : Shp.buildL as_coupletref01_Less vs = [(.isl ((tls 0 vs).headD .nilSl).nl ((tls 0 vs).headD .nilSl).ex .i64 ((tls 0 vs).headD .nilSl).ints), (.isl ((tls 1 vs).headD .nilSl).nl ((tls 1 vs).headD .nilSl).ex .i64 ((tls 1 vs).headD .nilSl).ints)] := by kernel_rfl
  rw [← Shp.buildL_eq _ h, e]
  exact fe_coupletref01_Less _ _ _ _ _ _ r hr

end Go.Proofs
