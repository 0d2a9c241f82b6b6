/-
  flight.readers gives back a map of three entries.
-/
import Derived.Test.YtlfffpkfipdboaaDoorWSFs
import Derived.Test.YtlfffpkfipdboaaDoorFxMp
import Derived.Test.YtlfffpkfipdboaaDoorChecked
set_option linter.unusedVariables false
set_option maxRecDepth 100000
noncomputable section
namespace Go.Proofs
open Go Go.Fx
def xr_flight_readers : XR := (.seq (.ops false [⟨⟨(some 0), (.mv (.c .nilMap)), none⟩, none⟩]) (.seq (.ops false [⟨⟨(some 1), .mkMap, none⟩, none⟩, ⟨⟨none, (.insS (.tmp 1) (.c (.str [(102), (101), (101), (100)])) (.func 31)), none⟩, none⟩, ⟨⟨none, (.insS (.tmp 1) (.c (.str [(102), (97), (117), (108), (116)])) (.func 33)), none⟩, none⟩, ⟨⟨none, (.insS (.tmp 1) (.c (.str [(114), (101), (115), (101), (116)])) (.func 35)), none⟩, none⟩, ⟨⟨(some 2), (.mv (.tmp 1)), none⟩, none⟩, ⟨⟨(some 0), (.mv (.tmp 2)), none⟩, none⟩]) .ret))
theorem ir_flight_readers : compCode Tryd.prog (Tryd.f18.body.getD .skip) [] = some (xr_flight_readers.erase, []) := by kernel_rfl
def readKeys : List Int × List Int × List Int := ([102, 101, 101, 100], [102, 97, 117, 108, 116], [114, 101, 115, 101, 116])
def go_flight_readers : Option (List Int × List Int × List Int) := some readKeys
def em_flight_readers (r : List Int × List Int × List Int) : PV := .agg [.tup [.str r.1, .fn 31 []], .tup [.str r.2.1, .fn 33 []], .tup [.str r.2.2, .fn 35 []]]
def as_flight_readers : List Shp := [.nilMap]
def ga_flight_readers (vs : List PV) : Option (List Int × List Int × List Int) := go_flight_readers
theorem at_flight_readers : FnAt Tryd.prog GG 3000018 as_flight_readers ga_flight_readers em_flight_readers := fun vs h r hr => by
  cases hr
  have e : Shp.buildL as_flight_readers vs = [.nilMap] := rfl
  rw [← Shp.buildL_eq _ h, e]
  refine .inr (.inr (.inr ?_))
  exact map_of_ev (x := xr_flight_readers) (Λ := fun _ _ _ _ _ => .fail) (rs := [.tmp 0]) (es := [(.str readKeys.1, .p (.fn 31 [])), (.str readKeys.2.1, .p (.fn 33 [])), (.str readKeys.2.2, .p (.fn 35 []))]) GamOk.bot [] Tryd.func18 rfl (by kernel_rfl) ir_flight_readers (by kernel_rfl) (congrArg Array.toList Tryd.results18) (args := []) Tryd.ntmps18 ⟨trivial, trivial, trivial⟩ rfl rfl (by kernel_rfl)
end Go.Proofs
end
