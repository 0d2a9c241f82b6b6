import Derived.Test.YtajphaljpkeecaaDoorWSPa
import Derived.Test.YtajphaljpkeecaaDoorWSGf
import Derived.Test.YtajphaljpkeecaaDoorChecked
import Derived.Test.YtajphaljpkeecaaDoorFxFin
set_option linter.unusedVariables false
set_option linter.unusedSimpArgs false
set_option maxRecDepth 100000
namespace Go.Proofs
open Go Go.Fx
open Classical in
noncomputable def go_frame_get (bn : Bool) (be : Bool) (b : List Int) : Option Int := if isB b ∧ b.length ≤ 8 then some (IntKind.wrap .i64 ((val b : Nat) : Int)) else none
def em_frame_get (r : Int) : PV := (.int .i64 r)
def as_frame_get : List Shp := [(.isl .u8)]
noncomputable def ga_frame_get (vs : List PV) : Option Int := go_frame_get ((tls 0 vs).headD .nilSl).nl ((tls 0 vs).headD .nilSl).ex ((tls 0 vs).headD .nilSl).ints
theorem fe_frame_get (bn : Bool) (be : Bool) (b : List Int) (r : Int) (hr : go_frame_get bn be b = some r) : FunEq Tryd.prog GG 53 [(.isl bn be .u8 b)] (em_frame_get r) := by
  unfold go_frame_get at hr
  split at hr
  · rename_i h
    cases hr
    exact fn_get GG h
  · cases hr
theorem at_frame_get : FnAt Tryd.prog GG 53 as_frame_get ga_frame_get em_frame_get := fun vs h r hr => by
  have e : Shp.buildL as_frame_get vs = [(.isl ((tls 0 vs).headD .nilSl).nl ((tls 0 vs).headD .nilSl).ex .u8 ((tls 0 vs).headD .nilSl).ints)] := by kernel_rfl
  rw [← Shp.buildL_eq _ h, e]
  exact .inl ⟨by decide, fe_frame_get _ _ _ r hr⟩

end Go.Proofs
