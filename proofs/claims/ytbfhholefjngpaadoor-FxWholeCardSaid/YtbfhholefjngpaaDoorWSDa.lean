import Derived.Test.YtbfhholefjngpaaDoorWSD0
import Derived.Test.YtbfhholefjngpaaDoorWSD1
import Derived.Test.YtbfhholefjngpaaDoorChecked
import Derived.Test.YtbfhholefjngpaaDoorFxFin
set_option linter.unusedVariables false
set_option linter.unusedSimpArgs false
set_option maxRecDepth 100000
namespace Go.Proofs
open Go Go.Fx
def GG : Glob := fun g => match g with | 0 => some (.iref .u8 Lib.asciiSpaceTab 0) | 4 => some (.iref .u64 Lib.pow10Tab 0) | _ => none
theorem hG0 : ∀ (w : World) (h : Heap), h ≤ full w → GlobOk GG h → Lib.TabIs Tryd.prog w "strings.asciiSpace" .u8 Lib.asciiSpaceTab := tab_is (g := 0) (by kernel_rfl) rfl
theorem hG4 : ∀ (w : World) (h : Heap), h ≤ full w → GlobOk GG h → Lib.TabIs Tryd.prog w "internal/strconv.uint64pow10" .u64 Lib.pow10Tab := tab_is (g := 4) (by kernel_rfl) rfl
open Classical in
noncomputable def go_strconv_Itoa (n : Int) : Option (List Int) := if -9223372036854775808 ≤ n ∧ n ≤ 9223372036854775807 then some (bytesI (Lib.itoa n)) else none
def em_strconv_Itoa (r : (List Int)) : PV := (.str r)
def as_strconv_Itoa : List Shp := [(.int .i64)]
noncomputable def ga_strconv_Itoa (vs : List PV) : Option (List Int) := go_strconv_Itoa ((tls 0 vs).headD .nilSl).num
theorem fe_strconv_Itoa (n : Int) (r : (List Int)) (hr : go_strconv_Itoa n = some r) : FunEq Tryd.prog GG 37 [(.int .i64 n)] (em_strconv_Itoa r) := by
  unfold go_strconv_Itoa at hr
  split at hr
  · rename_i h
    cases hr
    exact fn_Itoa hG4 n h.1 h.2
  · cases hr
theorem at_strconv_Itoa : FnAt Tryd.prog GG 37 as_strconv_Itoa ga_strconv_Itoa em_strconv_Itoa := fun vs h r hr => by
  have e : Shp.buildL as_strconv_Itoa vs = [(.int .i64 ((tls 0 vs).headD .nilSl).num)] := by kernel_rfl
  rw [← Shp.buildL_eq _ h, e]
  exact fe_strconv_Itoa _ r hr

open Classical in
noncomputable def go_strings_Join (xn : Bool) (xe : Bool) (x : List PV) (sep : List Int) : Option (List Int) := if xn = false ∧ ∃ es : List (List Int), es ≠ [] ∧ x = es.map .str ∧ es.length ≤ 140737488355328 ∧ (Lib.join (es.map strBytes) (strBytes sep)).length ≤ 140737488355328 then some (bytesI (Lib.join ((x.map PV.chars).map strBytes) (strBytes sep))) else none
def em_strings_Join (r : (List Int)) : PV := (.str r)
def as_strings_Join : List Shp := [(.sl 1), .str]
noncomputable def ga_strings_Join (vs : List PV) : Option (List Int) := go_strings_Join ((tls 0 vs).headD .nilSl).nl ((tls 0 vs).headD .nilSl).ex ((tls 0 vs).headD .nilSl).elts ((tls 1 vs).headD .nilSl).chars
theorem fe_strings_Join (xn : Bool) (xe : Bool) (x : List PV) (sep : List Int) (r : (List Int)) (hr : go_strings_Join xn xe x sep = some r) : FunEq Tryd.prog GG 38 [(.sl xn xe 1 x), (.str sep)] (em_strings_Join r) := by
  unfold go_strings_Join at hr
  split at hr
  · rename_i h
    cases hr
    exact join_at h
  · cases hr
theorem at_strings_Join : FnAt Tryd.prog GG 38 as_strings_Join ga_strings_Join em_strings_Join := fun vs h r hr => by
  have e : Shp.buildL as_strings_Join vs = [(.sl ((tls 0 vs).headD .nilSl).nl ((tls 0 vs).headD .nilSl).ex 1 ((tls 0 vs).headD .nilSl).elts), (.str ((tls 1 vs).headD .nilSl).chars)] := by kernel_rfl
  rw [← Shp.buildL_eq _ h, e]
  exact fe_strings_Join _ _ _ _ r hr

open Classical in
noncomputable def go_strings_Fields (x : List Int) : Option (Bool × Bool × List PV) := if x.length < 4294967281 ∧ ∀ n ∈ x, n < 128 then some (false, true, ((Lib.fields (strBytes x)).map fun f => PV.str (bytesI f))) else none
def em_strings_Fields (r : (Bool × Bool × List PV)) : PV := (.sl r.1 r.2.1 1 r.2.2)
def as_strings_Fields : List Shp := [.str]
noncomputable def ga_strings_Fields (vs : List PV) : Option (Bool × Bool × List PV) := go_strings_Fields ((tls 0 vs).headD .nilSl).chars
theorem fe_strings_Fields (x : List Int) (r : (Bool × Bool × List PV)) (hr : go_strings_Fields x = some r) : FunEq Tryd.prog GG 39 [(.str x)] (em_strings_Fields r) := by
  unfold go_strings_Fields at hr
  split at hr
  · rename_i h
    cases hr
    exact fn_Fields hG0 x h.1 h.2
  · cases hr
theorem at_strings_Fields : FnAt Tryd.prog GG 39 as_strings_Fields ga_strings_Fields em_strings_Fields := fun vs h r hr => by
  have e : Shp.buildL as_strings_Fields vs = [(.str ((tls 0 vs).headD .nilSl).chars)] := by kernel_rfl
  rw [← Shp.buildL_eq _ h, e]
  exact fe_strings_Fields _ r hr

open Classical in
noncomputable def go_coupletref02_digits (n : Int) : Option (List Int) := if 0 ≤ n ∧ n < 9223372036854775808 then some (bytesI (Lib.decDigits (n).toNat)) else none
def em_coupletref02_digits (r : (List Int)) : PV := (.str r)
def as_coupletref02_digits : List Shp := [(.int .i64)]
noncomputable def ga_coupletref02_digits (vs : List PV) : Option (List Int) := go_coupletref02_digits ((tls 0 vs).headD .nilSl).num
theorem fe_coupletref02_digits (n : Int) (r : (List Int)) (hr : go_coupletref02_digits n = some r) : FunEq Tryd.prog GG 40 [(.int .i64 n)] (em_coupletref02_digits r) := by
  unfold go_coupletref02_digits at hr
  split at hr
  · rename_i h
    cases hr
    exact digits_at h.1 h.2
  · cases hr
theorem at_coupletref02_digits : FnAt Tryd.prog GG 40 as_coupletref02_digits ga_coupletref02_digits em_coupletref02_digits := fun vs h r hr => by
  have e : Shp.buildL as_coupletref02_digits vs = [(.int .i64 ((tls 0 vs).headD .nilSl).num)] := by kernel_rfl
  rw [← Shp.buildL_eq _ h, e]
  exact fe_coupletref02_digits _ r hr

end Go.Proofs
