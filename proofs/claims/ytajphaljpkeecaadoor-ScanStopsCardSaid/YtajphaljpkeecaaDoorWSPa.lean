import Derived.Test.YtajphaljpkeecaaDoorWSP
import Derived.Test.YtajphaljpkeecaaDoorWSG
import Derived.Test.YtajphaljpkeecaaDoorChecked
import Derived.Test.YtajphaljpkeecaaDoorFxFin
set_option linter.unusedVariables false
set_option linter.unusedSimpArgs false
set_option maxRecDepth 100000
namespace Go.Proofs
open Go Go.Fx
/-- What each half of a byte does to a sum. -/
def nibTab : List Int := [0, 498536548, 997073096, 651767980, 1994146192, 1802195444, 1303535960, 1342533948, 3988292384, 4027552580, 3604390888, 3412177804, 2607071920, 2262029012, 2685067896, 3183342108]
def GG : Glob := fun g => match g with | 0 => some (.iref .u32 nibTab 0) | _ => none
open Classical in
noncomputable def go_frame_put (bn : Bool) (be : Bool) (b : List Int) (n : Int) (w : Int) : Option (Bool × Bool × List Int) := if 0 ≤ w ∧ w ≤ 8 ∧ b.length ≤ 1000000 then some ((bn && decide (w = 0)), false, (b ++ (List.range (w).toNat).map (pb n))) else none
def em_frame_put (r : (Bool × Bool × List Int)) : PV := (.isl r.1 r.2.1 .u8 r.2.2)
def as_frame_put : List Shp := [(.isl .u8), (.ref 5 []), (.int .i64), (.int .i64)]
noncomputable def ga_frame_put (vs : List PV) : Option (Bool × Bool × List Int) := go_frame_put ((tls 0 vs).headD .nilSl).nl ((tls 0 vs).headD .nilSl).ex ((tls 0 vs).headD .nilSl).ints ((tls 2 vs).headD .nilSl).num ((tls 3 vs).headD .nilSl).num
theorem fe_frame_put (bn : Bool) (be : Bool) (b : List Int) (n : Int) (w : Int) (r : (Bool × Bool × List Int)) (hr : go_frame_put bn be b n w = some r) : FunRowT Tryd.prog GG 1000047 [(.isl bn be .u8 b), (.ref 5 []), (.int .i64 n), (.int .i64 w)] (em_frame_put r) := by
  unfold go_frame_put at hr
  split at hr
  · rename_i h
    cases hr
    exact ⟨⟨by decide, by decide⟩, rfl, frame_put_at h.1 h.2.1 h.2.2⟩
  · cases hr
theorem at_frame_put : FnAt Tryd.prog GG 1000047 as_frame_put ga_frame_put em_frame_put := fun vs h r hr => by
  have e : Shp.buildL as_frame_put vs = [(.isl ((tls 0 vs).headD .nilSl).nl ((tls 0 vs).headD .nilSl).ex .u8 ((tls 0 vs).headD .nilSl).ints), (.ref 5 []), (.int .i64 ((tls 2 vs).headD .nilSl).num), (.int .i64 ((tls 3 vs).headD .nilSl).num)] := by kernel_rfl
  rw [← Shp.buildL_eq _ h, e]
  exact .inr (.inl (fe_frame_put _ _ _ _ _ r hr))

open Classical in
noncomputable def go_report_put (bn : Bool) (be : Bool) (b : List Int) (n : Int) (w : Int) : Option (Bool × Bool × List Int) := if 0 ≤ w ∧ w ≤ 8 ∧ b.length ≤ 1000000 then some ((bn && decide (w = 0)), false, (b ++ (List.range (w).toNat).map (pb n))) else none
def em_report_put (r : (Bool × Bool × List Int)) : PV := (.isl r.1 r.2.1 .u8 r.2.2)
def as_report_put : List Shp := [(.isl .u8), (.ref 5 []), (.int .i64), (.int .i64)]
noncomputable def ga_report_put (vs : List PV) : Option (Bool × Bool × List Int) := go_report_put ((tls 0 vs).headD .nilSl).nl ((tls 0 vs).headD .nilSl).ex ((tls 0 vs).headD .nilSl).ints ((tls 2 vs).headD .nilSl).num ((tls 3 vs).headD .nilSl).num
theorem fe_report_put (bn : Bool) (be : Bool) (b : List Int) (n : Int) (w : Int) (r : (Bool × Bool × List Int)) (hr : go_report_put bn be b n w = some r) : FunRowT Tryd.prog GG 1000058 [(.isl bn be .u8 b), (.ref 5 []), (.int .i64 n), (.int .i64 w)] (em_report_put r) := by
  unfold go_report_put at hr
  split at hr
  · rename_i h
    cases hr
    exact ⟨⟨by decide, by decide⟩, rfl, report_put_at h.1 h.2.1 h.2.2⟩
  · cases hr
theorem at_report_put : FnAt Tryd.prog GG 1000058 as_report_put ga_report_put em_report_put := fun vs h r hr => by
  have e : Shp.buildL as_report_put vs = [(.isl ((tls 0 vs).headD .nilSl).nl ((tls 0 vs).headD .nilSl).ex .u8 ((tls 0 vs).headD .nilSl).ints), (.ref 5 []), (.int .i64 ((tls 2 vs).headD .nilSl).num), (.int .i64 ((tls 3 vs).headD .nilSl).num)] := by kernel_rfl
  rw [← Shp.buildL_eq _ h, e]
  exact .inr (.inl (fe_report_put _ _ _ _ _ r hr))

open Classical in
noncomputable def go_slices_Grow (bn : Bool) (be : Bool) (b : List Int) (n : Int) : Option (Bool × Bool × List Int) := if bn = true ∧ b = [] ∧ 0 ≤ n ∧ n ≤ 1000000 then some (decide (n = 0), false, []) else none
def em_slices_Grow (r : (Bool × Bool × List Int)) : PV := (.isl r.1 r.2.1 .i64 r.2.2)
def as_slices_Grow : List Shp := [(.isl .i64), (.ref 3 []), (.int .i64)]
noncomputable def ga_slices_Grow (vs : List PV) : Option (Bool × Bool × List Int) := go_slices_Grow ((tls 0 vs).headD .nilSl).nl ((tls 0 vs).headD .nilSl).ex ((tls 0 vs).headD .nilSl).ints ((tls 2 vs).headD .nilSl).num
theorem fe_slices_Grow (bn : Bool) (be : Bool) (b : List Int) (n : Int) (r : (Bool × Bool × List Int)) (hr : go_slices_Grow bn be b n = some r) : FunRowT Tryd.prog GG 1000070 [(.isl bn be .i64 b), (.ref 3 []), (.int .i64 n)] (em_slices_Grow r) := by
  unfold go_slices_Grow at hr
  split at hr
  · rename_i h
    cases hr
    exact ⟨⟨by decide, by decide⟩, rfl, grow_at h.1 h.2.1 h.2.2.1 h.2.2.2⟩
  · cases hr
theorem at_slices_Grow : FnAt Tryd.prog GG 1000070 as_slices_Grow ga_slices_Grow em_slices_Grow := fun vs h r hr => by
  have e : Shp.buildL as_slices_Grow vs = [(.isl ((tls 0 vs).headD .nilSl).nl ((tls 0 vs).headD .nilSl).ex .i64 ((tls 0 vs).headD .nilSl).ints), (.ref 3 []), (.int .i64 ((tls 2 vs).headD .nilSl).num)] := by kernel_rfl
  rw [← Shp.buildL_eq _ h, e]
  exact .inr (.inl (fe_slices_Grow _ _ _ _ r hr))

end Go.Proofs
