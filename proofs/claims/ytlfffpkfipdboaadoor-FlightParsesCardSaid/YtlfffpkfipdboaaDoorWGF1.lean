import Derived.Test.YtlfffpkfipdboaaDoorWSFs
import Derived.Test.YtlfffpkfipdboaaDoorWSFm
import Derived.Test.YtlfffpkfipdboaaDoorFxRng
import Derived.Test.YtlfffpkfipdboaaDoorFxAny
import Derived.Test.YtlfffpkfipdboaaDoorChecked
set_option linter.unusedVariables false
set_option maxRecDepth 100000
noncomputable section
namespace Go.Proofs
open Go Go.Fx
def xr_internal_stringslite_HasSuffix : XR := (.seq (.ops false [⟨⟨(some 4), (.mv (.c (.bool false))), none⟩, none⟩]) (.seq (.ops false [⟨⟨(some 5), (.mv (.tmp 0)), none⟩, none⟩, ⟨⟨(some 6), (.lenS (.tmp 5)), none⟩, none⟩, ⟨⟨(some 7), (.mv (.tmp 1)), none⟩, none⟩, ⟨⟨(some 8), (.lenS (.tmp 7)), none⟩, none⟩, ⟨⟨(some 9), (.bin .geq (.tmp 6) (.tmp 8)), none⟩, none⟩, ⟨⟨(some 10), (.mv (.tmp 9)), none⟩, none⟩, ⟨⟨(some 11), (.mv (.tmp 0)), (some (10, true))⟩, none⟩, ⟨⟨(some 12), (.mv (.tmp 0)), (some (10, true))⟩, none⟩, ⟨⟨(some 13), (.lenS (.tmp 12)), (some (10, true))⟩, none⟩, ⟨⟨(some 14), (.mv (.tmp 1)), (some (10, true))⟩, none⟩, ⟨⟨(some 15), (.lenS (.tmp 14)), (some (10, true))⟩, none⟩, ⟨⟨(some 16), (.bin .sub (.tmp 13) (.tmp 15)), (some (10, true))⟩, none⟩, ⟨⟨(some 17), (.slcS (.tmp 11) (some (.tmp 16)) none), (some (10, true))⟩, none⟩, ⟨⟨(some 18), (.mv (.tmp 1)), (some (10, true))⟩, none⟩, ⟨⟨(some 19), (.binS .eql (.tmp 17) (.tmp 18)), (some (10, true))⟩, none⟩, ⟨⟨(some 20), (.pick (.tmp 10) (.tmp 19) (.c (.bool false))), none⟩, none⟩, ⟨⟨(some 4), (.mv (.tmp 20)), none⟩, none⟩]) .ret))
def rs_internal_stringslite_HasSuffix : List ResultVar := [(.tmp 4)]
theorem ir_internal_stringslite_HasSuffix : compCode Tryd.prog (Tryd.f50.body.getD .skip) [] = some (xr_internal_stringslite_HasSuffix.erase, []) := by kernel_rfl
def gm_internal_stringslite_HasSuffix : Gam := Gam.bot
theorem gk_internal_stringslite_HasSuffix : GamOk Tryd.prog GG gm_internal_stringslite_HasSuffix := GamOk.bot
def lm_internal_stringslite_HasSuffix : Lam := fun _ j S kn ke => match j with
  | _ => .fail
def go_internal_stringslite_HasSuffix (l0 : List Int) (l1 : List Int) : Option Bool :=
  bif (decide ((((List.length l0) : Nat) : Int) ≥ (((List.length l1) : Nat) : Int))) then
   bif (decide (0 ≤ (IntKind.wrap .i64 ((((List.length l0) : Nat) : Int) - (((List.length l1) : Nat) : Int))))) then
    bif (decide ((IntKind.wrap .i64 ((((List.length l0) : Nat) : Int) - (((List.length l1) : Nat) : Int))) ≤ (((List.length l0) : Nat) : Int))) then
     bif (decide ((((List.length l0) : Nat) : Int) ≤ (((List.length l0) : Nat) : Int))) then
      some ((List.take (Int.toNat ((((List.length l0) : Nat) : Int) - (IntKind.wrap .i64 ((((List.length l0) : Nat) : Int) - (((List.length l1) : Nat) : Int))))) (List.drop (Int.toNat (IntKind.wrap .i64 ((((List.length l0) : Nat) : Int) - (((List.length l1) : Nat) : Int)))) l0)) == l1)
     else none
    else none
   else none
  else
   some false
def em_internal_stringslite_HasSuffix (r : Bool) : PV := (.bool r)
def rh_internal_stringslite_HasSuffix : Shp := .bool
def ra_internal_stringslite_HasSuffix (v : PV) : Bool := v.tru
def kf_internal_stringslite_HasSuffix (v : PV) : Tree Bool := .chk (rh_internal_stringslite_HasSuffix.ok v) (.leaf (ra_internal_stringslite_HasSuffix v))
theorem rn_internal_stringslite_HasSuffix (l0 : List Int) (l1 : List Int) : (ev GG gm_internal_stringslite_HasSuffix lm_internal_stringslite_HasSuffix xr_internal_stringslite_HasSuffix ⟨slots 21 0 [(0, .p (.str l0)), (1, .p (.str l1))], []⟩ (fun S => finT Tryd.prog rs_internal_stringslite_HasSuffix S kf_internal_stringslite_HasSuffix) (retT Tryd.prog rs_internal_stringslite_HasSuffix kf_internal_stringslite_HasSuffix)).run = go_internal_stringslite_HasSuffix l0 l1 := by kernel_rfl
theorem ok_internal_stringslite_HasSuffix (l0 : List Int) (l1 : List Int) (r : Bool) (h : go_internal_stringslite_HasSuffix l0 l1 = some r) : FunEq Tryd.prog GG 50 [(.str l0), (.str l1)] (em_internal_stringslite_HasSuffix r) :=
  fun_of_ev (x := xr_internal_stringslite_HasSuffix) (Λ := lm_internal_stringslite_HasSuffix) gk_internal_stringslite_HasSuffix [] Tryd.func50 rfl (by kernel_rfl) ir_internal_stringslite_HasSuffix (by kernel_rfl) (congrArg Array.toList Tryd.results50) Tryd.ntmps50 (⟨trivial, ⟨trivial, trivial⟩⟩) (leaf_of fun v => (by kernel_rfl : rh_internal_stringslite_HasSuffix.build v = em_internal_stringslite_HasSuffix (ra_internal_stringslite_HasSuffix v))) (by kernel_rfl) ((rn_internal_stringslite_HasSuffix l0 l1).trans h)
def as_internal_stringslite_HasSuffix : List Shp := [.str, .str]
def ga_internal_stringslite_HasSuffix (vs : List PV) : Option Bool := go_internal_stringslite_HasSuffix ((tls 0 vs).headD .nilSl).chars ((tls 1 vs).headD .nilSl).chars
theorem at_internal_stringslite_HasSuffix : FnAt Tryd.prog GG 50 as_internal_stringslite_HasSuffix ga_internal_stringslite_HasSuffix em_internal_stringslite_HasSuffix := fun vs h r hr => by
  have e : Shp.buildL as_internal_stringslite_HasSuffix vs = [(.str ((tls 0 vs).headD .nilSl).chars), (.str ((tls 1 vs).headD .nilSl).chars)] := by kernel_rfl
  rw [← Shp.buildL_eq _ h, e]
  exact .inl ⟨by decide, ok_internal_stringslite_HasSuffix _ _ r hr⟩
def xr_internal_stringslite_TrimSuffix : XR := (.seq (.ops false [⟨⟨(some 4), (.mv (.c (.str []))), none⟩, none⟩]) (.seq (.seq (.ops false [⟨⟨(some 5), (.mv (.tmp 0)), none⟩, none⟩, ⟨⟨(some 6), (.mv (.tmp 1)), none⟩, none⟩, ⟨⟨(some 7), (.call (.func 50) [(.tmp 5), (.tmp 6)]), none⟩, none⟩]) (.cond (.tmp 7) (.seq (.ops false [⟨⟨(some 8), (.mv (.tmp 0)), none⟩, none⟩, ⟨⟨(some 9), (.mv (.tmp 0)), none⟩, none⟩, ⟨⟨(some 10), (.lenS (.tmp 9)), none⟩, none⟩, ⟨⟨(some 11), (.mv (.tmp 1)), none⟩, none⟩, ⟨⟨(some 12), (.lenS (.tmp 11)), none⟩, none⟩, ⟨⟨(some 13), (.bin .sub (.tmp 10) (.tmp 12)), none⟩, none⟩, ⟨⟨(some 14), (.slcS (.tmp 8) none (some (.tmp 13))), none⟩, none⟩, ⟨⟨(some 4), (.mv (.tmp 14)), none⟩, none⟩]) .ret) .skip)) (.seq (.ops false [⟨⟨(some 15), (.mv (.tmp 0)), none⟩, none⟩, ⟨⟨(some 4), (.mv (.tmp 15)), none⟩, none⟩]) .ret)))
def rs_internal_stringslite_TrimSuffix : List ResultVar := [(.tmp 4)]
theorem ir_internal_stringslite_TrimSuffix : compCode Tryd.prog (Tryd.f39.body.getD .skip) [] = some (xr_internal_stringslite_TrimSuffix.erase, []) := by kernel_rfl
def gm_internal_stringslite_TrimSuffix : Gam := (Gam.fn 50 as_internal_stringslite_HasSuffix ga_internal_stringslite_HasSuffix em_internal_stringslite_HasSuffix Gam.bot)
theorem gk_internal_stringslite_TrimSuffix : GamOk Tryd.prog GG gm_internal_stringslite_TrimSuffix := (GamOk.fn at_internal_stringslite_HasSuffix GamOk.bot)
def lm_internal_stringslite_TrimSuffix : Lam := fun _ j S kn ke => match j with
  | _ => .fail
def go_internal_stringslite_TrimSuffix (l0 : List Int) (l1 : List Int) : Option (List Int) :=
  (go_internal_stringslite_HasSuffix l0 l1).bind fun r2 =>
  bif r2 then
   bif (decide (0 ≤ (IntKind.wrap .i64 ((((List.length l0) : Nat) : Int) - (((List.length l1) : Nat) : Int))))) then
    bif (decide ((IntKind.wrap .i64 ((((List.length l0) : Nat) : Int) - (((List.length l1) : Nat) : Int))) ≤ (((List.length l0) : Nat) : Int))) then
     some (List.take (Int.toNat ((IntKind.wrap .i64 ((((List.length l0) : Nat) : Int) - (((List.length l1) : Nat) : Int))) - 0)) (List.drop 0 l0))
    else none
   else none
  else
   some l0
def em_internal_stringslite_TrimSuffix (r : (List Int)) : PV := (.str r)
def rh_internal_stringslite_TrimSuffix : Shp := .str
def ra_internal_stringslite_TrimSuffix (v : PV) : (List Int) := v.chars
def kf_internal_stringslite_TrimSuffix (v : PV) : Tree (List Int) := .chk (rh_internal_stringslite_TrimSuffix.ok v) (.leaf (ra_internal_stringslite_TrimSuffix v))
theorem rn_internal_stringslite_TrimSuffix (l0 : List Int) (l1 : List Int) : (ev GG gm_internal_stringslite_TrimSuffix lm_internal_stringslite_TrimSuffix xr_internal_stringslite_TrimSuffix ⟨slots 16 0 [(0, .p (.str l0)), (1, .p (.str l1))], []⟩ (fun S => finT Tryd.prog rs_internal_stringslite_TrimSuffix S kf_internal_stringslite_TrimSuffix) (retT Tryd.prog rs_internal_stringslite_TrimSuffix kf_internal_stringslite_TrimSuffix)).run = go_internal_stringslite_TrimSuffix l0 l1 := by kernel_rfl
theorem ok_internal_stringslite_TrimSuffix (l0 : List Int) (l1 : List Int) (r : (List Int)) (h : go_internal_stringslite_TrimSuffix l0 l1 = some r) : FunEq Tryd.prog GG 39 [(.str l0), (.str l1)] (em_internal_stringslite_TrimSuffix r) :=
  fun_of_ev (x := xr_internal_stringslite_TrimSuffix) (Λ := lm_internal_stringslite_TrimSuffix) gk_internal_stringslite_TrimSuffix [] Tryd.func39 rfl (by kernel_rfl) ir_internal_stringslite_TrimSuffix (by kernel_rfl) (congrArg Array.toList Tryd.results39) Tryd.ntmps39 (⟨trivial, ⟨⟨trivial, ⟨⟨trivial, trivial⟩, trivial⟩⟩, ⟨trivial, trivial⟩⟩⟩) (leaf_of fun v => (by kernel_rfl : rh_internal_stringslite_TrimSuffix.build v = em_internal_stringslite_TrimSuffix (ra_internal_stringslite_TrimSuffix v))) (by kernel_rfl) ((rn_internal_stringslite_TrimSuffix l0 l1).trans h)
def as_internal_stringslite_TrimSuffix : List Shp := [.str, .str]
def ga_internal_stringslite_TrimSuffix (vs : List PV) : Option (List Int) := go_internal_stringslite_TrimSuffix ((tls 0 vs).headD .nilSl).chars ((tls 1 vs).headD .nilSl).chars
theorem at_internal_stringslite_TrimSuffix : FnAt Tryd.prog GG 39 as_internal_stringslite_TrimSuffix ga_internal_stringslite_TrimSuffix em_internal_stringslite_TrimSuffix := fun vs h r hr => by
  have e : Shp.buildL as_internal_stringslite_TrimSuffix vs = [(.str ((tls 0 vs).headD .nilSl).chars), (.str ((tls 1 vs).headD .nilSl).chars)] := by kernel_rfl
  rw [← Shp.buildL_eq _ h, e]
  exact .inl ⟨by decide, ok_internal_stringslite_TrimSuffix _ _ r hr⟩
def xr_strings_TrimSuffix : XR := (.seq (.ops false [⟨⟨(some 4), (.mv (.c (.str []))), none⟩, none⟩]) (.seq (.ops false [⟨⟨(some 5), (.mv (.tmp 0)), none⟩, none⟩, ⟨⟨(some 6), (.mv (.tmp 1)), none⟩, none⟩, ⟨⟨(some 7), (.call (.func 39) [(.tmp 5), (.tmp 6)]), none⟩, none⟩, ⟨⟨(some 4), (.mv (.tmp 7)), none⟩, none⟩]) .ret))
def rs_strings_TrimSuffix : List ResultVar := [(.tmp 4)]
theorem ir_strings_TrimSuffix : compCode Tryd.prog (Tryd.f29.body.getD .skip) [] = some (xr_strings_TrimSuffix.erase, []) := by kernel_rfl
def gm_strings_TrimSuffix : Gam := (Gam.fn 39 as_internal_stringslite_TrimSuffix ga_internal_stringslite_TrimSuffix em_internal_stringslite_TrimSuffix Gam.bot)
theorem gk_strings_TrimSuffix : GamOk Tryd.prog GG gm_strings_TrimSuffix := (GamOk.fn at_internal_stringslite_TrimSuffix GamOk.bot)
def lm_strings_TrimSuffix : Lam := fun _ j S kn ke => match j with
  | _ => .fail
def go_strings_TrimSuffix (l0 : List Int) (l1 : List Int) : Option (List Int) :=
  (go_internal_stringslite_TrimSuffix l0 l1).bind fun r2 =>
  some r2
def em_strings_TrimSuffix (r : (List Int)) : PV := (.str r)
def rh_strings_TrimSuffix : Shp := .str
def ra_strings_TrimSuffix (v : PV) : (List Int) := v.chars
def kf_strings_TrimSuffix (v : PV) : Tree (List Int) := .chk (rh_strings_TrimSuffix.ok v) (.leaf (ra_strings_TrimSuffix v))
theorem rn_strings_TrimSuffix (l0 : List Int) (l1 : List Int) : (ev GG gm_strings_TrimSuffix lm_strings_TrimSuffix xr_strings_TrimSuffix ⟨slots 8 0 [(0, .p (.str l0)), (1, .p (.str l1))], []⟩ (fun S => finT Tryd.prog rs_strings_TrimSuffix S kf_strings_TrimSuffix) (retT Tryd.prog rs_strings_TrimSuffix kf_strings_TrimSuffix)).run = go_strings_TrimSuffix l0 l1 := by kernel_rfl
theorem ok_strings_TrimSuffix (l0 : List Int) (l1 : List Int) (r : (List Int)) (h : go_strings_TrimSuffix l0 l1 = some r) : FunEq Tryd.prog GG 29 [(.str l0), (.str l1)] (em_strings_TrimSuffix r) :=
  fun_of_ev (x := xr_strings_TrimSuffix) (Λ := lm_strings_TrimSuffix) gk_strings_TrimSuffix [] Tryd.func29 rfl (by kernel_rfl) ir_strings_TrimSuffix (by kernel_rfl) (congrArg Array.toList Tryd.results29) Tryd.ntmps29 (⟨trivial, ⟨trivial, trivial⟩⟩) (leaf_of fun v => (by kernel_rfl : rh_strings_TrimSuffix.build v = em_strings_TrimSuffix (ra_strings_TrimSuffix v))) (by kernel_rfl) ((rn_strings_TrimSuffix l0 l1).trans h)
def as_strings_TrimSuffix : List Shp := [.str, .str]
def ga_strings_TrimSuffix (vs : List PV) : Option (List Int) := go_strings_TrimSuffix ((tls 0 vs).headD .nilSl).chars ((tls 1 vs).headD .nilSl).chars
theorem at_strings_TrimSuffix : FnAt Tryd.prog GG 29 as_strings_TrimSuffix ga_strings_TrimSuffix em_strings_TrimSuffix := fun vs h r hr => by
  have e : Shp.buildL as_strings_TrimSuffix vs = [(.str ((tls 0 vs).headD .nilSl).chars), (.str ((tls 1 vs).headD .nilSl).chars)] := by kernel_rfl
  rw [← Shp.buildL_eq _ h, e]
  exact .inl ⟨by decide, ok_strings_TrimSuffix _ _ r hr⟩
def xb_strings_genSplit_0 : XR := (.seq (.seq (.ops false [⟨⟨(some 34), (.mv (.tmp 10)), none⟩, none⟩, ⟨⟨(some 35), (.mv (.tmp 3)), none⟩, none⟩, ⟨⟨(some 36), (.bin .lss (.tmp 34) (.tmp 35)), none⟩, none⟩]) (.cond (.tmp 36) .skip (.exit 0))) (.block 1 (.seq (.ops false [⟨⟨(some 37), (.mv (.tmp 0)), none⟩, none⟩, ⟨⟨(some 38), (.mv (.tmp 1)), none⟩, none⟩, ⟨⟨(some 39), (.call (.func 42) [(.tmp 37), (.tmp 38)]), none⟩, none⟩, ⟨⟨(some 11), (.mv (.tmp 39)), none⟩, none⟩]) (.seq (.seq (.ops false [⟨⟨(some 40), (.mv (.tmp 11)), none⟩, none⟩, ⟨⟨(some 41), (.bin .lss (.tmp 40) (.c (.int .i64 (0)))), none⟩, none⟩]) (.cond (.tmp 41) (.exit 0) .skip)) (.seq (.ops false [⟨⟨(some 42), (.mv (.tmp 9)), none⟩, none⟩, ⟨⟨(some 43), (.mv (.tmp 10)), none⟩, none⟩, ⟨⟨(some 44), (.mv (.tmp 0)), none⟩, none⟩, ⟨⟨(some 45), (.mv (.tmp 11)), none⟩, none⟩, ⟨⟨(some 46), (.mv (.tmp 2)), none⟩, none⟩, ⟨⟨(some 47), (.bin .add (.tmp 45) (.tmp 46)), none⟩, none⟩, ⟨⟨(some 48), (.slcS (.tmp 44) none (some (.tmp 47))), none⟩, none⟩, ⟨⟨(some 49), (.ixA 1 (.tmp 42) (.tmp 43)), none⟩, none⟩, ⟨⟨none, (.st 1 (.tmp 49) (.tmp 48)), none⟩, none⟩]) (.seq (.ops false [⟨⟨(some 50), (.mv (.tmp 0)), none⟩, none⟩, ⟨⟨(some 51), (.mv (.tmp 11)), none⟩, none⟩, ⟨⟨(some 52), (.mv (.tmp 1)), none⟩, none⟩, ⟨⟨(some 53), (.lenS (.tmp 52)), none⟩, none⟩, ⟨⟨(some 54), (.bin .add (.tmp 51) (.tmp 53)), none⟩, none⟩, ⟨⟨(some 55), (.slcS (.tmp 50) (some (.tmp 54)) none), none⟩, none⟩, ⟨⟨(some 0), (.mv (.tmp 55)), none⟩, none⟩]) (.ops false [⟨⟨(some 56), (.mv (.tmp 10)), none⟩, none⟩, ⟨⟨(some 57), (.bin .add (.tmp 56) (.c (.int .i64 (1)))), none⟩, none⟩, ⟨⟨(some 10), (.mv (.tmp 57)), none⟩, none⟩])))))))
def xr_strings_genSplit : XR := (.seq (.ops false [⟨⟨(some 8), (.mv (.c (.sl true true 1 []))), none⟩, none⟩]) (.seq (.seq (.ops false [⟨⟨(some 12), (.mv (.tmp 3)), none⟩, none⟩, ⟨⟨(some 13), (.bin .eql (.tmp 12) (.c (.int .i64 (0)))), none⟩, none⟩]) (.cond (.tmp 13) (.seq (.ops false [⟨⟨(some 8), (.mv (.c (.sl true true 1 []))), none⟩, none⟩]) .ret) .skip)) (.seq (.seq (.ops false [⟨⟨(some 14), (.mv (.tmp 1)), none⟩, none⟩, ⟨⟨(some 15), (.binS .eql (.tmp 14) (.c (.str []))), none⟩, none⟩]) (.cond (.tmp 15) (.seq (.ops false [⟨⟨(some 16), (.mv (.tmp 0)), none⟩, none⟩, ⟨⟨(some 17), (.mv (.tmp 3)), none⟩, none⟩, ⟨⟨(some 18), (.call (.func 40) [(.tmp 16), (.tmp 17)]), none⟩, none⟩, ⟨⟨(some 8), (.mv (.tmp 18)), none⟩, none⟩]) .ret) .skip)) (.seq (.seq (.ops false [⟨⟨(some 19), (.mv (.tmp 3)), none⟩, none⟩, ⟨⟨(some 20), (.bin .lss (.tmp 19) (.c (.int .i64 (0)))), none⟩, none⟩]) (.cond (.tmp 20) (.ops false [⟨⟨(some 21), (.mv (.tmp 0)), none⟩, none⟩, ⟨⟨(some 22), (.mv (.tmp 1)), none⟩, none⟩, ⟨⟨(some 23), (.call (.func 41) [(.tmp 21), (.tmp 22)]), none⟩, none⟩, ⟨⟨(some 24), (.bin .add (.tmp 23) (.c (.int .i64 (1)))), none⟩, none⟩, ⟨⟨(some 3), (.mv (.tmp 24)), none⟩, none⟩]) .skip)) (.seq (.ops false [⟨⟨(some 25), (.mv (.tmp 3)), none⟩, none⟩, ⟨⟨(some 26), (.mv (.tmp 0)), none⟩, none⟩, ⟨⟨(some 27), (.lenS (.tmp 26)), none⟩, none⟩, ⟨⟨(some 28), (.bin .add (.tmp 27) (.c (.int .i64 (1)))), none⟩, none⟩, ⟨⟨(some 29), (.mins [(.tmp 25), (.tmp 28)]), none⟩, none⟩, ⟨⟨(some 3), (.mv (.tmp 29)), none⟩, none⟩]) (.seq (.ops false [⟨⟨(some 30), (.mv (.tmp 3)), none⟩, none⟩, ⟨⟨(some 31), (.fx (.mkR 9 1 16 [(.str [])] (.tmp 30))), none⟩, none⟩, ⟨⟨(some 9), (.mv (.tmp 31)), none⟩, none⟩]) (.seq (.ops false [⟨⟨(some 32), (.mv (.tmp 3)), none⟩, none⟩, ⟨⟨(some 33), (.bin .sub (.tmp 32) (.c (.int .i64 (1)))), none⟩, none⟩, ⟨⟨(some 3), (.mv (.tmp 33)), none⟩, none⟩]) (.seq (.ops false [⟨⟨(some 10), (.mv (.c (.int .i64 (0)))), none⟩, none⟩]) (.seq (.block 0 (.loop 0 [0, 1, 2, 3, 9, 10] xb_strings_genSplit_0)) (.seq (.ops false [⟨⟨(some 58), (.mv (.tmp 9)), none⟩, none⟩, ⟨⟨(some 59), (.mv (.tmp 10)), none⟩, none⟩, ⟨⟨(some 60), (.mv (.tmp 0)), none⟩, none⟩, ⟨⟨(some 61), (.ixA 1 (.tmp 58) (.tmp 59)), none⟩, none⟩, ⟨⟨none, (.st 1 (.tmp 61) (.tmp 60)), none⟩, none⟩]) (.seq (.ops false [⟨⟨(some 62), (.mv (.tmp 9)), none⟩, none⟩, ⟨⟨(some 63), (.mv (.tmp 10)), none⟩, none⟩, ⟨⟨(some 64), (.bin .add (.tmp 63) (.c (.int .i64 (1)))), none⟩, none⟩, ⟨⟨(some 65), (.fx (.slcX 1 (.tmp 62) none (some (.tmp 64)) none)), none⟩, none⟩, ⟨⟨(some 8), (.mv (.tmp 65)), none⟩, none⟩]) .ret)))))))))))
def rs_strings_genSplit : List ResultVar := [(.tmp 8)]
theorem ir_strings_genSplit : compCode Tryd.prog (Tryd.f30.body.getD .skip) [[0, 1, 2, 3, 9, 10]] = some (xr_strings_genSplit.erase, []) := by kernel_rfl
def gm_strings_genSplit : Gam := (Gam.fn 40 as_strings_explode ga_strings_explode em_strings_explode (Gam.fn 41 as_strings_Count ga_strings_Count em_strings_Count (Gam.fn 42 as_strings_Index ga_strings_Index em_strings_Index Gam.bot)))
theorem gk_strings_genSplit : GamOk Tryd.prog GG gm_strings_genSplit := (GamOk.fn at_strings_explode (GamOk.fn at_strings_Count (GamOk.fn at_strings_Index GamOk.bot)))
def st_strings_genSplit_0 (l6 : List Int) (l7 : List Int) (n8 : Int) (n9 : Int) (n10 : Int) (b11 : Bool) (b12 : Bool) (es13 : List PV) : Option (((List Int × List Int × Int × Int × Int × Bool × Bool × List PV)) ⊕ (((List Int × Int × Bool × Bool × List PV)))) :=
  bif (decide (n10 < n9)) then
   (go_strings_Index l6 l7).bind fun r14 =>
   bif (decide (r14 < 0)) then
    some (Sum.inr (l6, n10, b11, b12, es13))
   else
    bif (decide (0 ≤ (IntKind.wrap .i64 (r14 + n8)))) then
     bif (decide ((IntKind.wrap .i64 (r14 + n8)) ≤ (((List.length l6) : Nat) : Int))) then
      bif (decide (0 ≤ n10)) then
       bif (decide (n10 < (((List.length es13) : Nat) : Int))) then
        bif (decide ((Int.toNat n10) < (List.length es13))) then
         bif (decide (0 ≤ (IntKind.wrap .i64 (r14 + (((List.length l7) : Nat) : Int))))) then
          bif (decide ((IntKind.wrap .i64 (r14 + (((List.length l7) : Nat) : Int))) ≤ (((List.length l6) : Nat) : Int))) then
           bif (decide ((((List.length l6) : Nat) : Int) ≤ (((List.length l6) : Nat) : Int))) then
            some (Sum.inl ((List.take (Int.toNat ((((List.length l6) : Nat) : Int) - (IntKind.wrap .i64 (r14 + (((List.length l7) : Nat) : Int))))) (List.drop (Int.toNat (IntKind.wrap .i64 (r14 + (((List.length l7) : Nat) : Int)))) l6)), l7, n8, n9, (IntKind.wrap .i64 (n10 + 1)), b11, b12, (List.set es13 (Int.toNat n10) (.str (List.take (Int.toNat ((IntKind.wrap .i64 (r14 + n8)) - 0)) (List.drop 0 l6))))))
           else none
          else none
         else none
        else none
       else none
      else none
     else none
    else none
  else
   some (Sum.inr (l6, n10, b11, b12, es13))
def lp_strings_genSplit_0 (l6 : List Int) (l7 : List Int) (n8 : Int) (n9 : Int) (n10 : Int) (b11 : Bool) (b12 : Bool) (es13 : List PV) : Option (((List Int × Int × Bool × Bool × List PV))) := loopN (X := (List Int × List Int × Int × Int × Int × Bool × Bool × List PV)) (fun x => st_strings_genSplit_0 x.1 x.2.1 x.2.2.1 x.2.2.2.1 x.2.2.2.2.1 x.2.2.2.2.2.1 x.2.2.2.2.2.2.1 x.2.2.2.2.2.2.2) (l6, l7, n8, n9, n10, b11, b12, es13)
def sh_strings_genSplit_0 : StSh := ⟨66, [(0, (.p .str)), (1, (.p .str)), (2, (.p (.int .i64))), (3, (.p (.int .i64))), (9, (.row 0)), (10, (.p (.int .i64)))], [(.row 9 1)]⟩
def sx_strings_genSplit_0 (x : (List Int × List Int × Int × Int × Int × Bool × Bool × List PV)) : St := ⟨slots 66 0 [(0, (.p (.str x.1))), (1, (.p (.str x.2.1))), (2, (.p (.int .i64 x.2.2.1))), (3, (.p (.int .i64 x.2.2.2.1))), (9, (.row 0)), (10, (.p (.int .i64 x.2.2.2.2.1)))], [(.row 9 1 x.2.2.2.2.2.1 x.2.2.2.2.2.2.1 x.2.2.2.2.2.2.2)]⟩
def sa_strings_genSplit_0 (S : St) : (List Int × List Int × Int × Int × Int × Bool × Bool × List PV) := (((tls 0 S.t).headD .any).pv.chars, ((tls 1 S.t).headD .any).pv.chars, ((tls 2 S.t).headD .any).pv.num, ((tls 3 S.t).headD .any).pv.num, ((tls 10 S.t).headD .any).pv.num, ((tls 0 S.own).headD .gone).pvD.nl, ((tls 0 S.own).headD .gone).pvD.ex, ((tls 0 S.own).headD .gone).pvD.elts)
def tz_strings_genSplit_0_0 : StSh := ⟨66, [(0, (.p .str)), (9, (.row 0)), (10, (.p (.int .i64)))], [(.row 9 1)]⟩
def tx_strings_genSplit_0_0 (x : (List Int × Int × Bool × Bool × List PV)) : St := ⟨slots 66 0 [(0, (.p (.str x.1))), (9, (.row 0)), (10, (.p (.int .i64 x.2.1)))], [(.row 9 1 x.2.2.1 x.2.2.2.1 x.2.2.2.2)]⟩
def ta_strings_genSplit_0_0 (S : St) : (List Int × Int × Bool × Bool × List PV) := (((tls 0 S.t).headD .any).pv.chars, ((tls 10 S.t).headD .any).pv.num, ((tls 0 S.own).headD .gone).pvD.nl, ((tls 0 S.own).headD .gone).pvD.ex, ((tls 0 S.own).headD .gone).pvD.elts)
def kb_strings_genSplit_0 : Exit → St → Tree (((List Int × List Int × Int × Int × Int × Bool × Bool × List PV)) ⊕ (((List Int × Int × Bool × Bool × List PV)))) := (exOne (.exit 0) [0, 9, 10] tz_strings_genSplit_0_0 ta_strings_genSplit_0_0 (fun y => Sum.inr (y)) exNil)
def ky_strings_genSplit_0 : Dec (((List Int × Int × Bool × Bool × List PV))) := fun _ y ke => ke ((.exit 0) : EK).ex (tx_strings_genSplit_0_0 y)
theorem kk_strings_genSplit_0 : ExOk Sum.inr kb_strings_genSplit_0 ky_strings_genSplit_0 := (ExOk.one (acc := ta_strings_genSplit_0_0) (bY := tx_strings_genSplit_0_0) (inj1 := fun y => y) (fun S => by kernel_rfl) (fun y _ ke => .inr (by kernel_rfl)) ExOk.nil)
def lm_strings_genSplit : Lam := fun _ j S kn ke => match j with
  | 0 => prepT [0, 1, 2, 3, 9, 10] [] S fun S => .chk (sh_strings_genSplit_0.ok S) (.bind (loopN (fun x => st_strings_genSplit_0 x.1 x.2.1 x.2.2.1 x.2.2.2.1 x.2.2.2.2.1 x.2.2.2.2.2.1 x.2.2.2.2.2.2.1 x.2.2.2.2.2.2.2) (sa_strings_genSplit_0 S)) fun y => ky_strings_genSplit_0 _ y ke)
  | _ => .fail
theorem sr_strings_genSplit_0 (x : (List Int × List Int × Int × Int × Int × Bool × Bool × List PV)) : (ev GG gm_strings_genSplit lm_strings_genSplit xb_strings_genSplit_0 (sx_strings_genSplit_0 x) (fun S => forgetT [0, 1, 2, 3, 9, 10] S fun S => prepT [0, 1, 2, 3, 9, 10] [] S fun S => .chk (sh_strings_genSplit_0.ok S) (.leaf (.inl (sa_strings_genSplit_0 S)))) kb_strings_genSplit_0).run = st_strings_genSplit_0 x.1 x.2.1 x.2.2.1 x.2.2.2.1 x.2.2.2.2.1 x.2.2.2.2.2.1 x.2.2.2.2.2.2.1 x.2.2.2.2.2.2.2 := by kernel_rfl
theorem la_strings_genSplit_0 : LamAt Tryd.prog GG lm_strings_genSplit 0 (.loop [0, 1, 2, 3, 9, 10] xb_strings_genSplit_0.erase) := lam_loop (body := xb_strings_genSplit_0) (Λ' := lm_strings_genSplit) gk_strings_genSplit (⟨⟨trivial, ⟨trivial, trivial⟩⟩, ⟨trivial, ⟨⟨trivial, ⟨trivial, trivial⟩⟩, ⟨trivial, ⟨trivial, trivial⟩⟩⟩⟩⟩) (fun S => (by kernel_rfl : sh_strings_genSplit_0.build S = sx_strings_genSplit_0 (sa_strings_genSplit_0 S))) kk_strings_genSplit_0 sr_strings_genSplit_0 (fun _ _ _ => rfl)
def go_strings_genSplit (l0 : List Int) (l1 : List Int) (n2 : Int) (n3 : Int) : Option (Bool × Bool × List PV) :=
  bif (n3 == 0) then
   some (true, true, [])
  else
   bif (l1 == []) then
    (go_strings_explode l0 n3).bind fun r4 =>
    some (r4.1, r4.2.1, r4.2.2)
   else
    bif (decide (n3 < 0)) then
     (go_strings_Count l0 l1).bind fun r5 =>
     bif (decide (0 ≤ (min (IntKind.wrap .i64 (r5 + 1)) (IntKind.wrap .i64 ((((List.length l0) : Nat) : Int) + 1))))) then
      bif (decide (((Int.toNat (min (IntKind.wrap .i64 (r5 + 1)) (IntKind.wrap .i64 ((((List.length l0) : Nat) : Int) + 1)))) * 16) ≤ 140737488355328)) then
       bif (decide ((Int.toNat (min (IntKind.wrap .i64 (r5 + 1)) (IntKind.wrap .i64 ((((List.length l0) : Nat) : Int) + 1)))) ≤ 4611686018427387904)) then
        (lp_strings_genSplit_0 l0 l1 n2 (IntKind.wrap .i64 ((min (IntKind.wrap .i64 (r5 + 1)) (IntKind.wrap .i64 ((((List.length l0) : Nat) : Int) + 1))) - 1)) 0 false true (List.replicate (α := PV) (Int.toNat (min (IntKind.wrap .i64 (r5 + 1)) (IntKind.wrap .i64 ((((List.length l0) : Nat) : Int) + 1)))) (.str []))).bind fun y15 =>
        bif (decide (0 ≤ y15.2.1)) then
         bif (decide (y15.2.1 < (((List.length y15.2.2.2.2) : Nat) : Int))) then
          bif (decide ((Int.toNat y15.2.1) < (List.length y15.2.2.2.2))) then
           bif (decide (0 ≤ (IntKind.wrap .i64 (y15.2.1 + 1)))) then
            bif (decide ((IntKind.wrap .i64 (y15.2.1 + 1)) ≤ (((List.length (List.set y15.2.2.2.2 (Int.toNat y15.2.1) (.str y15.1))) : Nat) : Int))) then
             some (y15.2.2.1, false, (List.take (Int.toNat ((IntKind.wrap .i64 (y15.2.1 + 1)) - 0)) (List.drop 0 (List.set y15.2.2.2.2 (Int.toNat y15.2.1) (.str y15.1)))))
            else none
           else none
          else none
         else none
        else none
       else none
      else none
     else none
    else
     bif (decide (0 ≤ (min n3 (IntKind.wrap .i64 ((((List.length l0) : Nat) : Int) + 1))))) then
      bif (decide (((Int.toNat (min n3 (IntKind.wrap .i64 ((((List.length l0) : Nat) : Int) + 1)))) * 16) ≤ 140737488355328)) then
       bif (decide ((Int.toNat (min n3 (IntKind.wrap .i64 ((((List.length l0) : Nat) : Int) + 1)))) ≤ 4611686018427387904)) then
        (lp_strings_genSplit_0 l0 l1 n2 (IntKind.wrap .i64 ((min n3 (IntKind.wrap .i64 ((((List.length l0) : Nat) : Int) + 1))) - 1)) 0 false true (List.replicate (α := PV) (Int.toNat (min n3 (IntKind.wrap .i64 ((((List.length l0) : Nat) : Int) + 1)))) (.str []))).bind fun y16 =>
        bif (decide (0 ≤ y16.2.1)) then
         bif (decide (y16.2.1 < (((List.length y16.2.2.2.2) : Nat) : Int))) then
          bif (decide ((Int.toNat y16.2.1) < (List.length y16.2.2.2.2))) then
           bif (decide (0 ≤ (IntKind.wrap .i64 (y16.2.1 + 1)))) then
            bif (decide ((IntKind.wrap .i64 (y16.2.1 + 1)) ≤ (((List.length (List.set y16.2.2.2.2 (Int.toNat y16.2.1) (.str y16.1))) : Nat) : Int))) then
             some (y16.2.2.1, false, (List.take (Int.toNat ((IntKind.wrap .i64 (y16.2.1 + 1)) - 0)) (List.drop 0 (List.set y16.2.2.2.2 (Int.toNat y16.2.1) (.str y16.1)))))
            else none
           else none
          else none
         else none
        else none
       else none
      else none
     else none
def em_strings_genSplit (r : (Bool × Bool × List PV)) : PV := (.sl r.1 r.2.1 1 r.2.2)
def rh_strings_genSplit : Shp := (.sl 1)
def ra_strings_genSplit (v : PV) : (Bool × Bool × List PV) := (v.nl, v.ex, v.elts)
def kf_strings_genSplit (v : PV) : Tree (Bool × Bool × List PV) := .chk (rh_strings_genSplit.ok v) (.leaf (ra_strings_genSplit v))
theorem rn_strings_genSplit (l0 : List Int) (l1 : List Int) (n2 : Int) (n3 : Int) : (ev GG gm_strings_genSplit lm_strings_genSplit xr_strings_genSplit ⟨slots 66 0 [(0, .p (.str l0)), (1, .p (.str l1)), (2, .p (.int .i64 n2)), (3, .p (.int .i64 n3))], []⟩ (fun S => finT Tryd.prog rs_strings_genSplit S kf_strings_genSplit) (retT Tryd.prog rs_strings_genSplit kf_strings_genSplit)).run = go_strings_genSplit l0 l1 n2 n3 := by kernel_rfl
theorem ok_strings_genSplit (l0 : List Int) (l1 : List Int) (n2 : Int) (n3 : Int) (r : (Bool × Bool × List PV)) (h : go_strings_genSplit l0 l1 n2 n3 = some r) : FunEq Tryd.prog GG 30 [(.str l0), (.str l1), (.int .i64 n2), (.int .i64 n3)] (em_strings_genSplit r) :=
  fun_of_ev (x := xr_strings_genSplit) (Λ := lm_strings_genSplit) gk_strings_genSplit [[0, 1, 2, 3, 9, 10]] Tryd.func30 rfl (by kernel_rfl) ir_strings_genSplit (by kernel_rfl) (congrArg Array.toList Tryd.results30) Tryd.ntmps30 (⟨trivial, ⟨⟨trivial, ⟨⟨trivial, trivial⟩, trivial⟩⟩, ⟨⟨trivial, ⟨⟨trivial, trivial⟩, trivial⟩⟩, ⟨⟨trivial, ⟨trivial, trivial⟩⟩, ⟨trivial, ⟨trivial, ⟨trivial, ⟨trivial, ⟨la_strings_genSplit_0, ⟨trivial, ⟨trivial, trivial⟩⟩⟩⟩⟩⟩⟩⟩⟩⟩⟩) (leaf_of fun v => (by kernel_rfl : rh_strings_genSplit.build v = em_strings_genSplit (ra_strings_genSplit v))) (by kernel_rfl) ((rn_strings_genSplit l0 l1 n2 n3).trans h)
def as_strings_genSplit : List Shp := [.str, .str, (.int .i64), (.int .i64)]
def ga_strings_genSplit (vs : List PV) : Option (Bool × Bool × List PV) := go_strings_genSplit ((tls 0 vs).headD .nilSl).chars ((tls 1 vs).headD .nilSl).chars ((tls 2 vs).headD .nilSl).num ((tls 3 vs).headD .nilSl).num
theorem at_strings_genSplit : FnAt Tryd.prog GG 30 as_strings_genSplit ga_strings_genSplit em_strings_genSplit := fun vs h r hr => by
  have e : Shp.buildL as_strings_genSplit vs = [(.str ((tls 0 vs).headD .nilSl).chars), (.str ((tls 1 vs).headD .nilSl).chars), (.int .i64 ((tls 2 vs).headD .nilSl).num), (.int .i64 ((tls 3 vs).headD .nilSl).num)] := by kernel_rfl
  rw [← Shp.buildL_eq _ h, e]
  exact .inl ⟨by decide, ok_strings_genSplit _ _ _ _ r hr⟩
def xr_strings_Split : XR := (.seq (.ops false [⟨⟨(some 4), (.mv (.c (.sl true true 1 []))), none⟩, none⟩]) (.seq (.ops false [⟨⟨(some 5), (.mv (.tmp 0)), none⟩, none⟩, ⟨⟨(some 6), (.mv (.tmp 1)), none⟩, none⟩, ⟨⟨(some 7), (.call (.func 30) [(.tmp 5), (.tmp 6), (.c (.int .i64 (0))), (.c (.int .i64 (-1)))]), none⟩, none⟩, ⟨⟨(some 4), (.mv (.tmp 7)), none⟩, none⟩]) .ret))
def rs_strings_Split : List ResultVar := [(.tmp 4)]
theorem ir_strings_Split : compCode Tryd.prog (Tryd.f17.body.getD .skip) [] = some (xr_strings_Split.erase, []) := by kernel_rfl
def gm_strings_Split : Gam := (Gam.fn 30 as_strings_genSplit ga_strings_genSplit em_strings_genSplit Gam.bot)
theorem gk_strings_Split : GamOk Tryd.prog GG gm_strings_Split := (GamOk.fn at_strings_genSplit GamOk.bot)
def lm_strings_Split : Lam := fun _ j S kn ke => match j with
  | _ => .fail
def go_strings_Split (l0 : List Int) (l1 : List Int) : Option (Bool × Bool × List PV) :=
  (go_strings_genSplit l0 l1 0 (-1)).bind fun r2 =>
  some (r2.1, r2.2.1, r2.2.2)
def em_strings_Split (r : (Bool × Bool × List PV)) : PV := (.sl r.1 r.2.1 1 r.2.2)
def rh_strings_Split : Shp := (.sl 1)
def ra_strings_Split (v : PV) : (Bool × Bool × List PV) := (v.nl, v.ex, v.elts)
def kf_strings_Split (v : PV) : Tree (Bool × Bool × List PV) := .chk (rh_strings_Split.ok v) (.leaf (ra_strings_Split v))
theorem rn_strings_Split (l0 : List Int) (l1 : List Int) : (ev GG gm_strings_Split lm_strings_Split xr_strings_Split ⟨slots 8 0 [(0, .p (.str l0)), (1, .p (.str l1))], []⟩ (fun S => finT Tryd.prog rs_strings_Split S kf_strings_Split) (retT Tryd.prog rs_strings_Split kf_strings_Split)).run = go_strings_Split l0 l1 := by kernel_rfl
theorem ok_strings_Split (l0 : List Int) (l1 : List Int) (r : (Bool × Bool × List PV)) (h : go_strings_Split l0 l1 = some r) : FunEq Tryd.prog GG 17 [(.str l0), (.str l1)] (em_strings_Split r) :=
  fun_of_ev (x := xr_strings_Split) (Λ := lm_strings_Split) gk_strings_Split [] Tryd.func17 rfl (by kernel_rfl) ir_strings_Split (by kernel_rfl) (congrArg Array.toList Tryd.results17) Tryd.ntmps17 (⟨trivial, ⟨trivial, trivial⟩⟩) (leaf_of fun v => (by kernel_rfl : rh_strings_Split.build v = em_strings_Split (ra_strings_Split v))) (by kernel_rfl) ((rn_strings_Split l0 l1).trans h)
def as_strings_Split : List Shp := [.str, .str]
def ga_strings_Split (vs : List PV) : Option (Bool × Bool × List PV) := go_strings_Split ((tls 0 vs).headD .nilSl).chars ((tls 1 vs).headD .nilSl).chars
theorem at_strings_Split : FnAt Tryd.prog GG 17 as_strings_Split ga_strings_Split em_strings_Split := fun vs h r hr => by
  have e : Shp.buildL as_strings_Split vs = [(.str ((tls 0 vs).headD .nilSl).chars), (.str ((tls 1 vs).headD .nilSl).chars)] := by kernel_rfl
  rw [← Shp.buildL_eq _ h, e]
  exact .inl ⟨by decide, ok_strings_Split _ _ r hr⟩
def xr_flight_lines : XR := (.seq (.ops false [⟨⟨(some 2), (.mv (.c (.sl true true 1 []))), none⟩, none⟩]) (.seq (.ops false [⟨⟨(some 3), (.mv (.tmp 0)), none⟩, none⟩, ⟨⟨(some 4), (.call (.func 29) [(.tmp 3), (.c (.str [(10)]))]), none⟩, none⟩, ⟨⟨(some 5), (.call (.func 17) [(.tmp 4), (.c (.str [(10)]))]), none⟩, none⟩, ⟨⟨(some 2), (.mv (.tmp 5)), none⟩, none⟩]) .ret))
def rs_flight_lines : List ResultVar := [(.tmp 2)]
theorem ir_flight_lines : compCode Tryd.prog (Tryd.f16.body.getD .skip) [] = some (xr_flight_lines.erase, []) := by kernel_rfl
def gm_flight_lines : Gam := (Gam.fn 29 as_strings_TrimSuffix ga_strings_TrimSuffix em_strings_TrimSuffix (Gam.fn 17 as_strings_Split ga_strings_Split em_strings_Split Gam.bot))
theorem gk_flight_lines : GamOk Tryd.prog GG gm_flight_lines := (GamOk.fn at_strings_TrimSuffix (GamOk.fn at_strings_Split GamOk.bot))
def lm_flight_lines : Lam := fun _ j S kn ke => match j with
  | _ => .fail
def go_flight_lines (l0 : List Int) : Option (Bool × Bool × List PV) :=
  (go_strings_TrimSuffix l0 [10]).bind fun r1 =>
  (go_strings_Split r1 [10]).bind fun r2 =>
  some (r2.1, r2.2.1, r2.2.2)
def em_flight_lines (r : (Bool × Bool × List PV)) : PV := (.sl r.1 r.2.1 1 r.2.2)
def rh_flight_lines : Shp := (.sl 1)
def ra_flight_lines (v : PV) : (Bool × Bool × List PV) := (v.nl, v.ex, v.elts)
def kf_flight_lines (v : PV) : Tree (Bool × Bool × List PV) := .chk (rh_flight_lines.ok v) (.leaf (ra_flight_lines v))
theorem rn_flight_lines (l0 : List Int) : (ev GG gm_flight_lines lm_flight_lines xr_flight_lines ⟨slots 6 0 [(0, .p (.str l0))], []⟩ (fun S => finT Tryd.prog rs_flight_lines S kf_flight_lines) (retT Tryd.prog rs_flight_lines kf_flight_lines)).run = go_flight_lines l0 := by kernel_rfl
theorem ok_flight_lines (l0 : List Int) (r : (Bool × Bool × List PV)) (h : go_flight_lines l0 = some r) : FunEq Tryd.prog GG 16 [(.str l0)] (em_flight_lines r) :=
  fun_of_ev (x := xr_flight_lines) (Λ := lm_flight_lines) gk_flight_lines [] Tryd.func16 rfl (by kernel_rfl) ir_flight_lines (by kernel_rfl) (congrArg Array.toList Tryd.results16) Tryd.ntmps16 (⟨trivial, ⟨trivial, trivial⟩⟩) (leaf_of fun v => (by kernel_rfl : rh_flight_lines.build v = em_flight_lines (ra_flight_lines v))) (by kernel_rfl) ((rn_flight_lines l0).trans h)
def as_flight_lines : List Shp := [.str]
def ga_flight_lines (vs : List PV) : Option (Bool × Bool × List PV) := go_flight_lines ((tls 0 vs).headD .nilSl).chars
theorem at_flight_lines : FnAt Tryd.prog GG 16 as_flight_lines ga_flight_lines em_flight_lines := fun vs h r hr => by
  have e : Shp.buildL as_flight_lines vs = [(.str ((tls 0 vs).headD .nilSl).chars)] := by kernel_rfl
  rw [← Shp.buildL_eq _ h, e]
  exact .inl ⟨by decide, ok_flight_lines _ r hr⟩
def xr_unicode_utf8_ValidRune : XR := (.seq (.ops false [⟨⟨(some 2), (.mv (.c (.bool false))), none⟩, none⟩]) (.seq (.block 0 (.seq (.ops false [⟨⟨(some 4), (.mv (.tmp 0)), none⟩, none⟩, ⟨⟨(some 5), (.bin .leq (.c (.int .i32 (0))) (.tmp 4)), none⟩, none⟩, ⟨⟨(some 6), (.mv (.tmp 5)), none⟩, none⟩, ⟨⟨(some 7), (.mv (.tmp 0)), (some (6, true))⟩, none⟩, ⟨⟨(some 8), (.bin .lss (.tmp 7) (.c (.int .i32 (55296)))), (some (6, true))⟩, none⟩, ⟨⟨(some 9), (.pick (.tmp 6) (.tmp 8) (.c (.bool false))), none⟩, none⟩, ⟨⟨(some 3), (.mv (.tmp 9)), none⟩, none⟩]) (.cond (.tmp 3) (.seq (.ops false [⟨⟨(some 2), (.mv (.c (.bool true))), none⟩, none⟩]) .ret) (.seq (.ops false [⟨⟨(some 11), (.mv (.tmp 0)), none⟩, none⟩, ⟨⟨(some 12), (.bin .lss (.c (.int .i32 (57343))) (.tmp 11)), none⟩, none⟩, ⟨⟨(some 13), (.mv (.tmp 12)), none⟩, none⟩, ⟨⟨(some 14), (.mv (.tmp 0)), (some (13, true))⟩, none⟩, ⟨⟨(some 15), (.bin .leq (.tmp 14) (.c (.int .i32 (1114111)))), (some (13, true))⟩, none⟩, ⟨⟨(some 16), (.pick (.tmp 13) (.tmp 15) (.c (.bool false))), none⟩, none⟩, ⟨⟨(some 10), (.mv (.tmp 16)), none⟩, none⟩]) (.cond (.tmp 10) (.seq (.ops false [⟨⟨(some 2), (.mv (.c (.bool true))), none⟩, none⟩]) .ret) .skip))))) (.seq (.ops false [⟨⟨(some 2), (.mv (.c (.bool false))), none⟩, none⟩]) .ret)))
def rs_unicode_utf8_ValidRune : List ResultVar := [(.tmp 2)]
theorem ir_unicode_utf8_ValidRune : compCode Tryd.prog (Tryd.f56.body.getD .skip) [] = some (xr_unicode_utf8_ValidRune.erase, []) := by kernel_rfl
def gm_unicode_utf8_ValidRune : Gam := Gam.bot
theorem gk_unicode_utf8_ValidRune : GamOk Tryd.prog GG gm_unicode_utf8_ValidRune := GamOk.bot
def lm_unicode_utf8_ValidRune : Lam := fun _ j S kn ke => match j with
  | _ => .fail
def go_unicode_utf8_ValidRune (n0 : Int) : Option Bool :=
  bif (decide (0 ≤ n0)) then
   bif (decide (n0 < 55296)) then
    some true
   else
    bif (decide (57343 < n0)) then
     bif (decide (n0 ≤ 1114111)) then
      some true
     else
      some false
    else
     some false
  else
   bif (decide (57343 < n0)) then
    bif (decide (n0 ≤ 1114111)) then
     some true
    else
     some false
   else
    some false
def em_unicode_utf8_ValidRune (r : Bool) : PV := (.bool r)
def rh_unicode_utf8_ValidRune : Shp := .bool
def ra_unicode_utf8_ValidRune (v : PV) : Bool := v.tru
def kf_unicode_utf8_ValidRune (v : PV) : Tree Bool := .chk (rh_unicode_utf8_ValidRune.ok v) (.leaf (ra_unicode_utf8_ValidRune v))
theorem rn_unicode_utf8_ValidRune (n0 : Int) : (ev GG gm_unicode_utf8_ValidRune lm_unicode_utf8_ValidRune xr_unicode_utf8_ValidRune ⟨slots 17 0 [(0, .p (.int .i32 n0))], []⟩ (fun S => finT Tryd.prog rs_unicode_utf8_ValidRune S kf_unicode_utf8_ValidRune) (retT Tryd.prog rs_unicode_utf8_ValidRune kf_unicode_utf8_ValidRune)).run = go_unicode_utf8_ValidRune n0 := by kernel_rfl
theorem ok_unicode_utf8_ValidRune (n0 : Int) (r : Bool) (h : go_unicode_utf8_ValidRune n0 = some r) : FunEq Tryd.prog GG 56 [(.int .i32 n0)] (em_unicode_utf8_ValidRune r) :=
  fun_of_ev (x := xr_unicode_utf8_ValidRune) (Λ := lm_unicode_utf8_ValidRune) gk_unicode_utf8_ValidRune [] Tryd.func56 rfl (by kernel_rfl) ir_unicode_utf8_ValidRune (by kernel_rfl) (congrArg Array.toList Tryd.results56) Tryd.ntmps56 (⟨trivial, ⟨⟨trivial, ⟨⟨trivial, trivial⟩, ⟨trivial, ⟨⟨trivial, trivial⟩, trivial⟩⟩⟩⟩, ⟨trivial, trivial⟩⟩⟩) (leaf_of fun v => (by kernel_rfl : rh_unicode_utf8_ValidRune.build v = em_unicode_utf8_ValidRune (ra_unicode_utf8_ValidRune v))) (by kernel_rfl) ((rn_unicode_utf8_ValidRune n0).trans h)
def as_unicode_utf8_ValidRune : List Shp := [(.int .i32)]
def ga_unicode_utf8_ValidRune (vs : List PV) : Option Bool := go_unicode_utf8_ValidRune ((tls 0 vs).headD .nilSl).num
theorem at_unicode_utf8_ValidRune : FnAt Tryd.prog GG 56 as_unicode_utf8_ValidRune ga_unicode_utf8_ValidRune em_unicode_utf8_ValidRune := fun vs h r hr => by
  have e : Shp.buildL as_unicode_utf8_ValidRune vs = [(.int .i32 ((tls 0 vs).headD .nilSl).num)] := by kernel_rfl
  rw [← Shp.buildL_eq _ h, e]
  exact .inl ⟨by decide, ok_unicode_utf8_ValidRune _ r hr⟩
def xb_strings_IndexRune_0 : XR := (.seq (.ops false [⟨⟨(some 176), (.fx (.nextS (.tmp 175))), none⟩, none⟩, ⟨⟨(some 177), (.ext (.tmp 176) 0), none⟩, none⟩]) (.seq (.cond (.tmp 177) .skip (.exit 9)) (.block 10 (.seq (.ops false [⟨⟨(some 178), (.ext (.tmp 176) 1), none⟩, none⟩, ⟨⟨(some 179), (.ext (.tmp 176) 2), none⟩, none⟩, ⟨⟨(some 5), (.mv (.tmp 178)), none⟩, none⟩, ⟨⟨(some 6), (.mv (.tmp 179)), none⟩, none⟩]) (.seq (.ops false [⟨⟨(some 180), (.mv (.tmp 6)), none⟩, none⟩, ⟨⟨(some 181), (.bin .eql (.tmp 180) (.c (.int .i32 (65533)))), none⟩, none⟩]) (.cond (.tmp 181) (.seq (.ops false [⟨⟨(some 182), (.mv (.tmp 5)), none⟩, none⟩, ⟨⟨(some 4), (.mv (.tmp 182)), none⟩, none⟩]) .ret) .skip))))))
def xb_strings_IndexRune_4 : XR := (.seq (.seq (.ops false [⟨⟨(some 48), (.mv (.tmp 12)), none⟩, none⟩, ⟨⟨(some 49), (.mv (.tmp 7)), none⟩, none⟩, ⟨⟨(some 50), (.lenS (.tmp 49)), none⟩, none⟩, ⟨⟨(some 51), (.bin .lss (.tmp 48) (.tmp 50)), none⟩, none⟩]) (.cond (.tmp 51) .skip (.exit 3))) (.seq (.block 4 (.seq (.ops true [⟨⟨(some 54), (.mv (.tmp 0)), none⟩, none⟩, ⟨⟨(some 55), (.mv (.tmp 9)), none⟩, none⟩, ⟨⟨(some 56), (.mv (.tmp 12)), none⟩, none⟩, ⟨⟨(some 57), (.bin .sub (.tmp 55) (.tmp 56)), none⟩, none⟩, ⟨⟨(some 58), (.ixS (.tmp 54) (.tmp 57)), none⟩, none⟩, ⟨⟨(some 59), (.mv (.tmp 7)), none⟩, none⟩, ⟨⟨(some 60), (.mv (.tmp 8)), none⟩, none⟩, ⟨⟨(some 61), (.mv (.tmp 12)), none⟩, none⟩, ⟨⟨(some 62), (.bin .sub (.tmp 60) (.tmp 61)), none⟩, none⟩, ⟨⟨(some 63), (.ixS (.tmp 59) (.tmp 62)), none⟩, none⟩, ⟨⟨(some 64), (.bin .neq (.tmp 58) (.tmp 63)), none⟩, none⟩]) (.cond (.tmp 64) (.goto 0) .skip))) (.ops false [⟨⟨(some 52), (.mv (.tmp 12)), none⟩, none⟩, ⟨⟨(some 53), (.bin .add (.tmp 52) (.c (.int .i64 (1)))), none⟩, none⟩, ⟨⟨(some 12), (.mv (.tmp 53)), none⟩, none⟩])))
def xb_strings_IndexRune_3 : XR := (.seq .skip (.seq (.ops false [⟨⟨(some 68), (.mv (.tmp 10)), none⟩, none⟩, ⟨⟨(some 69), (.bin .add (.tmp 68) (.c (.int .i64 (1)))), none⟩, none⟩, ⟨⟨(some 10), (.mv (.tmp 69)), none⟩, none⟩]) (.seq (.ops false [⟨⟨(some 70), (.mv (.tmp 9)), none⟩, none⟩, ⟨⟨(some 71), (.bin .add (.tmp 70) (.c (.int .i64 (1)))), none⟩, none⟩, ⟨⟨(some 9), (.mv (.tmp 71)), none⟩, none⟩]) (.seq (.ops false [⟨⟨(some 72), (.mv (.c (.bool true))), none⟩, none⟩, ⟨⟨(some 73), (.mv (.tmp 10)), (some (72, true))⟩, none⟩, ⟨⟨(some 74), (.mv (.tmp 9)), (some (72, true))⟩, none⟩, ⟨⟨(some 75), (.call (.func 57) [(.tmp 74)]), (some (72, true))⟩, none⟩, ⟨⟨(some 76), (.bin .gtr (.tmp 73) (.tmp 75)), (some (72, true))⟩, none⟩, ⟨⟨(some 77), (.pick (.tmp 72) (.tmp 76) (.c (.bool false))), none⟩, none⟩, ⟨⟨(some 78), (.mv (.tmp 77)), none⟩, none⟩, ⟨⟨(some 79), (.mv (.tmp 9)), (some (78, true))⟩, none⟩, ⟨⟨(some 80), (.mv (.tmp 0)), (some (78, true))⟩, none⟩, ⟨⟨(some 81), (.lenS (.tmp 80)), (some (78, true))⟩, none⟩, ⟨⟨(some 82), (.bin .lss (.tmp 79) (.tmp 81)), (some (78, true))⟩, none⟩, ⟨⟨(some 83), (.pick (.tmp 78) (.tmp 82) (.c (.bool false))), none⟩, none⟩, ⟨⟨(some 84), (.mv (.tmp 83)), none⟩, none⟩, ⟨⟨(some 85), (.mv (.c (.bool false))), (some (84, false))⟩, none⟩, ⟨⟨(some 86), (.mv (.tmp 10)), (some (85, true))⟩, none⟩, ⟨⟨(some 87), (.mv (.tmp 9)), (some (85, true))⟩, none⟩, ⟨⟨(some 88), (.bin .shr (.tmp 87) (.c (.int .u64 (4)))), (some (85, true))⟩, none⟩, ⟨⟨(some 89), (.bin .add (.c (.int .i64 (4))) (.tmp 88)), (some (85, true))⟩, none⟩, ⟨⟨(some 90), (.bin .geq (.tmp 86) (.tmp 89)), (some (85, true))⟩, none⟩, ⟨⟨(some 91), (.pick (.tmp 85) (.tmp 90) (.c (.bool false))), (some (84, false))⟩, none⟩, ⟨⟨(some 92), (.mv (.tmp 91)), (some (84, false))⟩, none⟩, ⟨⟨(some 93), (.mv (.tmp 9)), (some (92, true))⟩, none⟩, ⟨⟨(some 94), (.mv (.tmp 0)), (some (92, true))⟩, none⟩, ⟨⟨(some 95), (.lenS (.tmp 94)), (some (92, true))⟩, none⟩, ⟨⟨(some 96), (.bin .lss (.tmp 93) (.tmp 95)), (some (92, true))⟩, none⟩, ⟨⟨(some 97), (.pick (.tmp 92) (.tmp 96) (.c (.bool false))), (some (84, false))⟩, none⟩, ⟨⟨(some 98), (.pick (.tmp 84) (.c (.bool true)) (.tmp 97)), none⟩, none⟩]) (.cond (.tmp 98) (.goto 1) .skip)))))
def xb_strings_IndexRune_2 : XR := (.seq (.seq (.ops false [⟨⟨(some 23), (.mv (.tmp 9)), none⟩, none⟩, ⟨⟨(some 24), (.mv (.tmp 0)), none⟩, none⟩, ⟨⟨(some 25), (.lenS (.tmp 24)), none⟩, none⟩, ⟨⟨(some 26), (.bin .lss (.tmp 23) (.tmp 25)), none⟩, none⟩]) (.cond (.tmp 26) .skip (.exit 1))) (.block 2 (.scope 3 [0, 1, 7, 8, 9, 10] 0 (.seq (.seq (.ops true [⟨⟨(some 27), (.mv (.tmp 0)), none⟩, none⟩, ⟨⟨(some 28), (.mv (.tmp 9)), none⟩, none⟩, ⟨⟨(some 29), (.ixS (.tmp 27) (.tmp 28)), none⟩, none⟩, ⟨⟨(some 30), (.mv (.tmp 7)), none⟩, none⟩, ⟨⟨(some 31), (.mv (.tmp 8)), none⟩, none⟩, ⟨⟨(some 32), (.ixS (.tmp 30) (.tmp 31)), none⟩, none⟩, ⟨⟨(some 33), (.bin .neq (.tmp 29) (.tmp 32)), none⟩, none⟩]) (.cond (.tmp 33) (.seq (.ops true [⟨⟨(some 34), (.mv (.tmp 0)), none⟩, none⟩, ⟨⟨(some 35), (.mv (.tmp 9)), none⟩, none⟩, ⟨⟨(some 36), (.bin .add (.tmp 35) (.c (.int .i64 (1)))), none⟩, none⟩, ⟨⟨(some 37), (.slcS (.tmp 34) (some (.tmp 36)) none), none⟩, none⟩, ⟨⟨(some 38), (.mv (.tmp 7)), none⟩, none⟩, ⟨⟨(some 39), (.mv (.tmp 8)), none⟩, none⟩, ⟨⟨(some 40), (.ixS (.tmp 38) (.tmp 39)), none⟩, none⟩, ⟨⟨(some 41), (.call (.func 55) [(.tmp 37), (.tmp 40)]), none⟩, none⟩, ⟨⟨(some 11), (.mv (.tmp 41)), none⟩, none⟩]) (.seq (.seq (.ops false [⟨⟨(some 42), (.mv (.tmp 11)), none⟩, none⟩, ⟨⟨(some 43), (.bin .lss (.tmp 42) (.c (.int .i64 (0)))), none⟩, none⟩]) (.cond (.tmp 43) (.seq (.ops false [⟨⟨(some 4), (.mv (.c (.int .i64 (-1)))), none⟩, none⟩]) .ret) .skip)) (.ops false [⟨⟨(some 44), (.mv (.tmp 9)), none⟩, none⟩, ⟨⟨(some 45), (.mv (.tmp 11)), none⟩, none⟩, ⟨⟨(some 46), (.bin .add (.tmp 45) (.c (.int .i64 (1)))), none⟩, none⟩, ⟨⟨(some 47), (.bin .add (.tmp 44) (.tmp 46)), none⟩, none⟩, ⟨⟨(some 9), (.mv (.tmp 47)), none⟩, none⟩]))) .skip)) (.seq (.seq (.ops false [⟨⟨(some 12), (.mv (.c (.int .i64 (1)))), none⟩, none⟩]) (.block 3 (.loop 4 [0, 7, 8, 9, 12] xb_strings_IndexRune_4))) (.seq (.seq (.ops false [⟨⟨(some 65), (.mv (.tmp 9)), none⟩, none⟩, ⟨⟨(some 66), (.mv (.tmp 8)), none⟩, none⟩, ⟨⟨(some 67), (.bin .sub (.tmp 65) (.tmp 66)), none⟩, none⟩, ⟨⟨(some 4), (.mv (.tmp 67)), none⟩, none⟩]) .ret) (.seq (.label 0) (.seq (.ops false [⟨⟨(some 68), (.mv (.tmp 10)), none⟩, none⟩, ⟨⟨(some 69), (.bin .add (.tmp 68) (.c (.int .i64 (1)))), none⟩, none⟩, ⟨⟨(some 10), (.mv (.tmp 69)), none⟩, none⟩]) (.seq (.ops false [⟨⟨(some 70), (.mv (.tmp 9)), none⟩, none⟩, ⟨⟨(some 71), (.bin .add (.tmp 70) (.c (.int .i64 (1)))), none⟩, none⟩, ⟨⟨(some 9), (.mv (.tmp 71)), none⟩, none⟩]) (.seq (.ops false [⟨⟨(some 72), (.mv (.c (.bool true))), none⟩, none⟩, ⟨⟨(some 73), (.mv (.tmp 10)), (some (72, true))⟩, none⟩, ⟨⟨(some 74), (.mv (.tmp 9)), (some (72, true))⟩, none⟩, ⟨⟨(some 75), (.call (.func 57) [(.tmp 74)]), (some (72, true))⟩, none⟩, ⟨⟨(some 76), (.bin .gtr (.tmp 73) (.tmp 75)), (some (72, true))⟩, none⟩, ⟨⟨(some 77), (.pick (.tmp 72) (.tmp 76) (.c (.bool false))), none⟩, none⟩, ⟨⟨(some 78), (.mv (.tmp 77)), none⟩, none⟩, ⟨⟨(some 79), (.mv (.tmp 9)), (some (78, true))⟩, none⟩, ⟨⟨(some 80), (.mv (.tmp 0)), (some (78, true))⟩, none⟩, ⟨⟨(some 81), (.lenS (.tmp 80)), (some (78, true))⟩, none⟩, ⟨⟨(some 82), (.bin .lss (.tmp 79) (.tmp 81)), (some (78, true))⟩, none⟩, ⟨⟨(some 83), (.pick (.tmp 78) (.tmp 82) (.c (.bool false))), none⟩, none⟩, ⟨⟨(some 84), (.mv (.tmp 83)), none⟩, none⟩, ⟨⟨(some 85), (.mv (.c (.bool false))), (some (84, false))⟩, none⟩, ⟨⟨(some 86), (.mv (.tmp 10)), (some (85, true))⟩, none⟩, ⟨⟨(some 87), (.mv (.tmp 9)), (some (85, true))⟩, none⟩, ⟨⟨(some 88), (.bin .shr (.tmp 87) (.c (.int .u64 (4)))), (some (85, true))⟩, none⟩, ⟨⟨(some 89), (.bin .add (.c (.int .i64 (4))) (.tmp 88)), (some (85, true))⟩, none⟩, ⟨⟨(some 90), (.bin .geq (.tmp 86) (.tmp 89)), (some (85, true))⟩, none⟩, ⟨⟨(some 91), (.pick (.tmp 85) (.tmp 90) (.c (.bool false))), (some (84, false))⟩, none⟩, ⟨⟨(some 92), (.mv (.tmp 91)), (some (84, false))⟩, none⟩, ⟨⟨(some 93), (.mv (.tmp 9)), (some (92, true))⟩, none⟩, ⟨⟨(some 94), (.mv (.tmp 0)), (some (92, true))⟩, none⟩, ⟨⟨(some 95), (.lenS (.tmp 94)), (some (92, true))⟩, none⟩, ⟨⟨(some 96), (.bin .lss (.tmp 93) (.tmp 95)), (some (92, true))⟩, none⟩, ⟨⟨(some 97), (.pick (.tmp 92) (.tmp 96) (.c (.bool false))), (some (84, false))⟩, none⟩, ⟨⟨(some 98), (.pick (.tmp 84) (.c (.bool true)) (.tmp 97)), none⟩, none⟩]) (.cond (.tmp 98) (.goto 1) .skip)))))))))))
def xb_strings_IndexRune_7 : XR := (.seq (.seq (.ops false [⟨⟨(some 140), (.mv (.tmp 16)), none⟩, none⟩, ⟨⟨(some 141), (.mv (.tmp 7)), none⟩, none⟩, ⟨⟨(some 142), (.lenS (.tmp 141)), none⟩, none⟩, ⟨⟨(some 143), (.bin .lss (.tmp 140) (.tmp 142)), none⟩, none⟩]) (.cond (.tmp 143) .skip (.exit 7))) (.seq (.block 8 (.seq (.ops true [⟨⟨(some 146), (.mv (.tmp 0)), none⟩, none⟩, ⟨⟨(some 147), (.mv (.tmp 9)), none⟩, none⟩, ⟨⟨(some 148), (.mv (.tmp 16)), none⟩, none⟩, ⟨⟨(some 149), (.bin .sub (.tmp 147) (.tmp 148)), none⟩, none⟩, ⟨⟨(some 150), (.ixS (.tmp 146) (.tmp 149)), none⟩, none⟩, ⟨⟨(some 151), (.mv (.tmp 7)), none⟩, none⟩, ⟨⟨(some 152), (.mv (.tmp 8)), none⟩, none⟩, ⟨⟨(some 153), (.mv (.tmp 16)), none⟩, none⟩, ⟨⟨(some 154), (.bin .sub (.tmp 152) (.tmp 153)), none⟩, none⟩, ⟨⟨(some 155), (.ixS (.tmp 151) (.tmp 154)), none⟩, none⟩, ⟨⟨(some 156), (.bin .neq (.tmp 150) (.tmp 155)), none⟩, none⟩]) (.cond (.tmp 156) (.exit 6) .skip))) (.ops false [⟨⟨(some 144), (.mv (.tmp 16)), none⟩, none⟩, ⟨⟨(some 145), (.bin .add (.tmp 144) (.c (.int .i64 (1)))), none⟩, none⟩, ⟨⟨(some 16), (.mv (.tmp 145)), none⟩, none⟩])))
def xb_strings_IndexRune_6 : XR := (.seq (.seq (.ops false [⟨⟨(some 121), (.mv (.tmp 9)), none⟩, none⟩, ⟨⟨(some 122), (.mv (.tmp 0)), none⟩, none⟩, ⟨⟨(some 123), (.lenS (.tmp 122)), none⟩, none⟩, ⟨⟨(some 124), (.bin .lss (.tmp 121) (.tmp 123)), none⟩, none⟩]) (.cond (.tmp 124) .skip (.exit 5))) (.seq (.block 6 (.seq (.ops false [⟨⟨(some 127), (.mv (.tmp 0)), none⟩, none⟩, ⟨⟨(some 128), (.mv (.tmp 9)), none⟩, none⟩, ⟨⟨(some 129), (.ixS (.tmp 127) (.tmp 128)), none⟩, none⟩, ⟨⟨(some 130), (.mv (.tmp 14)), none⟩, none⟩, ⟨⟨(some 131), (.bin .eql (.tmp 129) (.tmp 130)), none⟩, none⟩, ⟨⟨(some 132), (.mv (.tmp 131)), none⟩, none⟩, ⟨⟨(some 133), (.mv (.tmp 0)), (some (132, true))⟩, none⟩, ⟨⟨(some 134), (.mv (.tmp 9)), (some (132, true))⟩, none⟩, ⟨⟨(some 135), (.bin .sub (.tmp 134) (.c (.int .i64 (1)))), (some (132, true))⟩, none⟩, ⟨⟨(some 136), (.ixS (.tmp 133) (.tmp 135)), (some (132, true))⟩, none⟩, ⟨⟨(some 137), (.mv (.tmp 15)), (some (132, true))⟩, none⟩, ⟨⟨(some 138), (.bin .eql (.tmp 136) (.tmp 137)), (some (132, true))⟩, none⟩, ⟨⟨(some 139), (.pick (.tmp 132) (.tmp 138) (.c (.bool false))), none⟩, none⟩]) (.cond (.tmp 139) (.seq (.seq (.ops false [⟨⟨(some 16), (.mv (.c (.int .i64 (2)))), none⟩, none⟩]) (.block 7 (.loop 7 [0, 7, 8, 9, 14, 15, 16] xb_strings_IndexRune_7))) (.seq (.ops false [⟨⟨(some 157), (.mv (.tmp 9)), none⟩, none⟩, ⟨⟨(some 158), (.mv (.tmp 8)), none⟩, none⟩, ⟨⟨(some 159), (.bin .sub (.tmp 157) (.tmp 158)), none⟩, none⟩, ⟨⟨(some 4), (.mv (.tmp 159)), none⟩, none⟩]) .ret)) .skip))) (.ops false [⟨⟨(some 125), (.mv (.tmp 9)), none⟩, none⟩, ⟨⟨(some 126), (.bin .add (.tmp 125) (.c (.int .i64 (1)))), none⟩, none⟩, ⟨⟨(some 9), (.mv (.tmp 126)), none⟩, none⟩])))
def xb_strings_IndexRune_5 : XR := (.seq .skip (.block 5 (.loop 6 [0, 7, 8, 9, 14, 15] xb_strings_IndexRune_6)))
def xb_strings_IndexRune_1 : XR := (.seq .skip (.seq (.cond (.c (.bool true)) (.seq (.ops false [⟨⟨(some 99), (.mv (.tmp 0)), none⟩, none⟩, ⟨⟨(some 100), (.mv (.tmp 9)), none⟩, none⟩, ⟨⟨(some 101), (.mv (.tmp 8)), none⟩, none⟩, ⟨⟨(some 102), (.bin .sub (.tmp 100) (.tmp 101)), none⟩, none⟩, ⟨⟨(some 103), (.slcS (.tmp 99) (some (.tmp 102)) none), none⟩, none⟩, ⟨⟨(some 104), (.mv (.tmp 1)), none⟩, none⟩, ⟨⟨(some 105), (.cvtRS (.tmp 104)), none⟩, none⟩, ⟨⟨(some 106), (.call (.func 58) [(.tmp 103), (.tmp 105)]), none⟩, none⟩, ⟨⟨(some 13), (.mv (.tmp 106)), none⟩, none⟩]) (.seq (.ops false [⟨⟨(some 107), (.mv (.tmp 13)), none⟩, none⟩, ⟨⟨(some 108), (.bin .geq (.tmp 107) (.c (.int .i64 (0)))), none⟩, none⟩]) (.cond (.tmp 108) (.seq (.ops false [⟨⟨(some 109), (.mv (.tmp 9)), none⟩, none⟩, ⟨⟨(some 110), (.mv (.tmp 13)), none⟩, none⟩, ⟨⟨(some 111), (.bin .add (.tmp 109) (.tmp 110)), none⟩, none⟩, ⟨⟨(some 112), (.mv (.tmp 8)), none⟩, none⟩, ⟨⟨(some 113), (.bin .sub (.tmp 111) (.tmp 112)), none⟩, none⟩, ⟨⟨(some 4), (.mv (.tmp 113)), none⟩, none⟩]) .ret) .skip))) (.scope 5 [0, 7, 8, 9, 14, 15] 2 (.seq (.ops false [⟨⟨(some 114), (.mv (.tmp 7)), none⟩, none⟩, ⟨⟨(some 115), (.mv (.tmp 8)), none⟩, none⟩, ⟨⟨(some 116), (.ixS (.tmp 114) (.tmp 115)), none⟩, none⟩, ⟨⟨(some 14), (.mv (.tmp 116)), none⟩, none⟩]) (.seq (.ops false [⟨⟨(some 117), (.mv (.tmp 7)), none⟩, none⟩, ⟨⟨(some 118), (.mv (.tmp 8)), none⟩, none⟩, ⟨⟨(some 119), (.bin .sub (.tmp 118) (.c (.int .i64 (1)))), none⟩, none⟩, ⟨⟨(some 120), (.ixS (.tmp 117) (.tmp 119)), none⟩, none⟩, ⟨⟨(some 15), (.mv (.tmp 120)), none⟩, none⟩]) (.seq (.label 2) (.block 5 (.loop 6 [0, 7, 8, 9, 14, 15] xb_strings_IndexRune_6))))))) (.seq (.ops false [⟨⟨(some 4), (.mv (.c (.int .i64 (-1)))), none⟩, none⟩]) .ret)))
def xr_strings_IndexRune : XR := (.seq (.ops false [⟨⟨(some 4), (.mv (.c (.int .i64 (0)))), none⟩, none⟩]) (.block 0 (.seq (.ops false [⟨⟨(some 161), (.mv (.tmp 1)), none⟩, none⟩, ⟨⟨(some 162), (.bin .leq (.c (.int .i32 (0))) (.tmp 161)), none⟩, none⟩, ⟨⟨(some 163), (.mv (.tmp 162)), none⟩, none⟩, ⟨⟨(some 164), (.mv (.tmp 1)), (some (163, true))⟩, none⟩, ⟨⟨(some 165), (.bin .lss (.tmp 164) (.c (.int .i32 (128)))), (some (163, true))⟩, none⟩, ⟨⟨(some 166), (.pick (.tmp 163) (.tmp 165) (.c (.bool false))), none⟩, none⟩, ⟨⟨(some 160), (.mv (.tmp 166)), none⟩, none⟩]) (.cond (.tmp 160) (.seq (.ops false [⟨⟨(some 167), (.mv (.tmp 0)), none⟩, none⟩, ⟨⟨(some 168), (.mv (.tmp 1)), none⟩, none⟩, ⟨⟨(some 169), (.cvtI .u8 (.tmp 168)), none⟩, none⟩, ⟨⟨(some 170), (.call (.func 55) [(.tmp 167), (.tmp 169)]), none⟩, none⟩, ⟨⟨(some 4), (.mv (.tmp 170)), none⟩, none⟩]) .ret) (.seq (.ops false [⟨⟨(some 172), (.mv (.tmp 1)), none⟩, none⟩, ⟨⟨(some 173), (.bin .eql (.tmp 172) (.c (.int .i32 (65533)))), none⟩, none⟩, ⟨⟨(some 171), (.mv (.tmp 173)), none⟩, none⟩]) (.cond (.tmp 171) (.seq (.seq (.ops false [⟨⟨(some 174), (.mv (.tmp 0)), none⟩, none⟩, ⟨⟨(some 175), (.fx (.rngS (.tmp 174))), none⟩, none⟩]) (.block 9 (.loop 0 [175] xb_strings_IndexRune_0))) (.seq (.ops false [⟨⟨(some 4), (.mv (.c (.int .i64 (-1)))), none⟩, none⟩]) .ret)) (.seq (.ops false [⟨⟨(some 184), (.mv (.tmp 1)), none⟩, none⟩, ⟨⟨(some 185), (.call (.func 56) [(.tmp 184)]), none⟩, none⟩, ⟨⟨(some 186), (.un .not (.tmp 185)), none⟩, none⟩, ⟨⟨(some 183), (.mv (.tmp 186)), none⟩, none⟩]) (.cond (.tmp 183) (.seq (.ops false [⟨⟨(some 4), (.mv (.c (.int .i64 (-1)))), none⟩, none⟩]) .ret) (.scope 1 [0, 1, 7, 8, 9] 1 (.seq (.ops false [⟨⟨(some 17), (.mv (.tmp 1)), none⟩, none⟩, ⟨⟨(some 18), (.cvtRS (.tmp 17)), none⟩, none⟩, ⟨⟨(some 7), (.mv (.tmp 18)), none⟩, none⟩]) (.seq (.ops false [⟨⟨(some 19), (.mv (.tmp 7)), none⟩, none⟩, ⟨⟨(some 20), (.lenS (.tmp 19)), none⟩, none⟩, ⟨⟨(some 21), (.bin .sub (.tmp 20) (.c (.int .i64 (1)))), none⟩, none⟩, ⟨⟨(some 8), (.mv (.tmp 21)), none⟩, none⟩]) (.seq (.ops false [⟨⟨(some 22), (.mv (.tmp 8)), none⟩, none⟩, ⟨⟨(some 9), (.mv (.tmp 22)), none⟩, none⟩]) (.seq (.ops false [⟨⟨(some 10), (.mv (.c (.int .i64 (0)))), none⟩, none⟩]) (.seq (.block 1 (.loop 2 [0, 7, 8, 9] xb_strings_IndexRune_2)) (.seq (.seq (.ops false [⟨⟨(some 4), (.mv (.c (.int .i64 (-1)))), none⟩, none⟩]) .ret) (.seq (.label 1) (.seq (.cond (.c (.bool true)) (.seq (.ops false [⟨⟨(some 99), (.mv (.tmp 0)), none⟩, none⟩, ⟨⟨(some 100), (.mv (.tmp 9)), none⟩, none⟩, ⟨⟨(some 101), (.mv (.tmp 8)), none⟩, none⟩, ⟨⟨(some 102), (.bin .sub (.tmp 100) (.tmp 101)), none⟩, none⟩, ⟨⟨(some 103), (.slcS (.tmp 99) (some (.tmp 102)) none), none⟩, none⟩, ⟨⟨(some 104), (.mv (.tmp 1)), none⟩, none⟩, ⟨⟨(some 105), (.cvtRS (.tmp 104)), none⟩, none⟩, ⟨⟨(some 106), (.call (.func 58) [(.tmp 103), (.tmp 105)]), none⟩, none⟩, ⟨⟨(some 13), (.mv (.tmp 106)), none⟩, none⟩]) (.seq (.ops false [⟨⟨(some 107), (.mv (.tmp 13)), none⟩, none⟩, ⟨⟨(some 108), (.bin .geq (.tmp 107) (.c (.int .i64 (0)))), none⟩, none⟩]) (.cond (.tmp 108) (.seq (.ops false [⟨⟨(some 109), (.mv (.tmp 9)), none⟩, none⟩, ⟨⟨(some 110), (.mv (.tmp 13)), none⟩, none⟩, ⟨⟨(some 111), (.bin .add (.tmp 109) (.tmp 110)), none⟩, none⟩, ⟨⟨(some 112), (.mv (.tmp 8)), none⟩, none⟩, ⟨⟨(some 113), (.bin .sub (.tmp 111) (.tmp 112)), none⟩, none⟩, ⟨⟨(some 4), (.mv (.tmp 113)), none⟩, none⟩]) .ret) .skip))) (.scope 5 [0, 7, 8, 9, 14, 15] 2 (.seq (.ops false [⟨⟨(some 114), (.mv (.tmp 7)), none⟩, none⟩, ⟨⟨(some 115), (.mv (.tmp 8)), none⟩, none⟩, ⟨⟨(some 116), (.ixS (.tmp 114) (.tmp 115)), none⟩, none⟩, ⟨⟨(some 14), (.mv (.tmp 116)), none⟩, none⟩]) (.seq (.ops false [⟨⟨(some 117), (.mv (.tmp 7)), none⟩, none⟩, ⟨⟨(some 118), (.mv (.tmp 8)), none⟩, none⟩, ⟨⟨(some 119), (.bin .sub (.tmp 118) (.c (.int .i64 (1)))), none⟩, none⟩, ⟨⟨(some 120), (.ixS (.tmp 117) (.tmp 119)), none⟩, none⟩, ⟨⟨(some 15), (.mv (.tmp 120)), none⟩, none⟩]) (.seq (.label 2) (.block 5 (.loop 6 [0, 7, 8, 9, 14, 15] xb_strings_IndexRune_6))))))) (.seq (.ops false [⟨⟨(some 4), (.mv (.c (.int .i64 (-1)))), none⟩, none⟩]) .ret))))))))))))))))))
def rs_strings_IndexRune : List ResultVar := [(.tmp 4)]
theorem ir_strings_IndexRune : compCode Tryd.prog (Tryd.f43.body.getD .skip) [[175], [0, 7, 8, 9], [0, 7, 8, 9, 12], [0, 7, 8, 9, 14, 15], [0, 7, 8, 9, 14, 15, 16]] = some (xr_strings_IndexRune.erase, []) := by kernel_rfl
def gm_strings_IndexRune : Gam := (Gam.fn 55 as_strings_IndexByte ga_strings_IndexByte em_strings_IndexByte (Gam.fn 56 as_unicode_utf8_ValidRune ga_unicode_utf8_ValidRune em_unicode_utf8_ValidRune Gam.bot))
theorem gk_strings_IndexRune : GamOk Tryd.prog GG gm_strings_IndexRune := (GamOk.fn at_strings_IndexByte (GamOk.fn at_unicode_utf8_ValidRune GamOk.bot))
def st_strings_IndexRune_4 (l14 : List Int) (l15 : List Int) (n16 : Int) (n17 : Int) (n18 : Int) : Option (((List Int × List Int × Int × Int × Int)) ⊕ (((Int × Int)) ⊕ (Unit))) :=
  bif (decide (n18 < (((List.length l15) : Nat) : Int))) then
   bif (decide (0 ≤ (IntKind.wrap .i64 (n17 - n18)))) then
    bif (decide ((IntKind.wrap .i64 (n17 - n18)) < (((List.length l14) : Nat) : Int))) then
     bif (decide (0 ≤ (IntKind.wrap .i64 (n16 - n18)))) then
      bif (decide ((IntKind.wrap .i64 (n16 - n18)) < (((List.length l15) : Nat) : Int))) then
       bif ((List.getD l14 (Int.toNat (IntKind.wrap .i64 (n17 - n18))) 0) != (List.getD l15 (Int.toNat (IntKind.wrap .i64 (n16 - n18))) 0)) then
        some (Sum.inr (Sum.inr ()))
       else
        some (Sum.inl (l14, l15, n16, n17, (IntKind.wrap .i64 (n18 + 1))))
      else none
     else none
    else none
   else none
  else
   some (Sum.inr (Sum.inl (n16, n17)))
def lp_strings_IndexRune_4 (l14 : List Int) (l15 : List Int) (n16 : Int) (n17 : Int) (n18 : Int) : Option (((Int × Int)) ⊕ (Unit)) := loopN (X := (List Int × List Int × Int × Int × Int)) (fun x => st_strings_IndexRune_4 x.1 x.2.1 x.2.2.1 x.2.2.2.1 x.2.2.2.2) (l14, l15, n16, n17, n18)
def sh_strings_IndexRune_4 : StSh := ⟨187, [(0, (.p .str)), (7, (.p .str)), (8, (.p (.int .i64))), (9, (.p (.int .i64))), (12, (.p (.int .i64)))], []⟩
def sx_strings_IndexRune_4 (x : (List Int × List Int × Int × Int × Int)) : St := ⟨slots 187 0 [(0, (.p (.str x.1))), (7, (.p (.str x.2.1))), (8, (.p (.int .i64 x.2.2.1))), (9, (.p (.int .i64 x.2.2.2.1))), (12, (.p (.int .i64 x.2.2.2.2)))], []⟩
def sa_strings_IndexRune_4 (S : St) : (List Int × List Int × Int × Int × Int) := (((tls 0 S.t).headD .any).pv.chars, ((tls 7 S.t).headD .any).pv.chars, ((tls 8 S.t).headD .any).pv.num, ((tls 9 S.t).headD .any).pv.num, ((tls 12 S.t).headD .any).pv.num)
def tz_strings_IndexRune_4_1 : StSh := ⟨187, [], []⟩
def tx_strings_IndexRune_4_1 (x : Unit) : St := ⟨slots 187 0 [], []⟩
def ta_strings_IndexRune_4_1 (S : St) : Unit := ()
def tz_strings_IndexRune_4_0 : StSh := ⟨187, [(8, (.p (.int .i64))), (9, (.p (.int .i64)))], []⟩
def tx_strings_IndexRune_4_0 (x : (Int × Int)) : St := ⟨slots 187 0 [(8, (.p (.int .i64 x.1))), (9, (.p (.int .i64 x.2)))], []⟩
def ta_strings_IndexRune_4_0 (S : St) : (Int × Int) := (((tls 8 S.t).headD .any).pv.num, ((tls 9 S.t).headD .any).pv.num)
def kb_strings_IndexRune_4 : Exit → St → Tree (((List Int × List Int × Int × Int × Int)) ⊕ (((Int × Int)) ⊕ (Unit))) := (exOne (.exit 3) [8, 9] tz_strings_IndexRune_4_0 ta_strings_IndexRune_4_0 (fun y => Sum.inr ((Sum.inl y))) (exOne (.goto 0) [] tz_strings_IndexRune_4_1 ta_strings_IndexRune_4_1 (fun y => Sum.inr ((Sum.inr y))) exNil))
def ky_strings_IndexRune_4 : Dec (((Int × Int)) ⊕ (Unit)) := fun _ y ke => .sum y (fun a => ke ((.exit 3) : EK).ex (tx_strings_IndexRune_4_0 a)) (fun y' => ke ((.goto 0) : EK).ex (tx_strings_IndexRune_4_1 y'))
theorem kk_strings_IndexRune_4 : ExOk Sum.inr kb_strings_IndexRune_4 ky_strings_IndexRune_4 := (ExOk.one (acc := ta_strings_IndexRune_4_0) (bY := tx_strings_IndexRune_4_0) (inj1 := fun y => (Sum.inl y)) (fun S => by kernel_rfl) (fun y _ ke => .inr (by kernel_rfl)) (ExOk.one (acc := ta_strings_IndexRune_4_1) (bY := tx_strings_IndexRune_4_1) (inj1 := fun y => (Sum.inr y)) (fun S => by kernel_rfl) (fun y _ ke => .inr (by kernel_rfl)) ExOk.nil))
def st_strings_IndexRune_3 : Option ((Unit) ⊕ (Unit)) :=
  none
def lp_strings_IndexRune_3 : Option (Unit) := loopN (X := Unit) (fun x => st_strings_IndexRune_3) ()
def sh_strings_IndexRune_3 : StSh := ⟨187, [], []⟩
def sx_strings_IndexRune_3 (x : Unit) : St := ⟨slots 187 0 [], []⟩
def sa_strings_IndexRune_3 (S : St) : Unit := ()
def kb_strings_IndexRune_3 : Exit → St → Tree ((Unit) ⊕ (Unit)) := exNil
def ky_strings_IndexRune_3 : Dec (Unit) := fun _ y ke => .fail
theorem kk_strings_IndexRune_3 : ExOk Sum.inr kb_strings_IndexRune_3 ky_strings_IndexRune_3 := ExOk.nil
def st_strings_IndexRune_2 (l9 : List Int) (l10 : List Int) (n11 : Int) (n12 : Int) : Option (((List Int × List Int × Int × Int)) ⊕ ((Unit) ⊕ (Int))) :=
  bif (decide (n12 < (((List.length l9) : Nat) : Int))) then
   bif (decide (0 ≤ n12)) then
    bif (decide (n12 < (((List.length l9) : Nat) : Int))) then
     bif (decide (0 ≤ n11)) then
      bif (decide (n11 < (((List.length l10) : Nat) : Int))) then
       bif ((List.getD l9 (Int.toNat n12) 0) != (List.getD l10 (Int.toNat n11) 0)) then
        bif (decide (0 ≤ (IntKind.wrap .i64 (n12 + 1)))) then
         bif (decide ((IntKind.wrap .i64 (n12 + 1)) ≤ (((List.length l9) : Nat) : Int))) then
          bif (decide ((((List.length l9) : Nat) : Int) ≤ (((List.length l9) : Nat) : Int))) then
           bif (decide (0 ≤ n11)) then
            bif (decide (n11 < (((List.length l10) : Nat) : Int))) then
             (go_strings_IndexByte (List.take (Int.toNat ((((List.length l9) : Nat) : Int) - (IntKind.wrap .i64 (n12 + 1)))) (List.drop (Int.toNat (IntKind.wrap .i64 (n12 + 1))) l9)) (List.getD l10 (Int.toNat n11) 0)).bind fun r13 =>
             bif (decide (r13 < 0)) then
              some (Sum.inr (Sum.inr (-1)))
             else
              (lp_strings_IndexRune_4 l9 l10 n11 (IntKind.wrap .i64 (n12 + (IntKind.wrap .i64 (r13 + 1)))) 1).bind fun y19 =>
              Sum.elim (fun z20 =>
               some (Sum.inr (Sum.inr (IntKind.wrap .i64 (z20.2 - z20.1))))) (fun z21 =>
               (lp_strings_IndexRune_3).bind fun y22 =>
               none) y19
            else none
           else none
          else none
         else none
        else none
       else
        (lp_strings_IndexRune_4 l9 l10 n11 n12 1).bind fun y23 =>
        Sum.elim (fun z24 =>
         some (Sum.inr (Sum.inr (IntKind.wrap .i64 (z24.2 - z24.1))))) (fun z25 =>
         (lp_strings_IndexRune_3).bind fun y26 =>
         none) y23
      else none
     else none
    else none
   else none
  else
   some (Sum.inr (Sum.inl ()))
def lp_strings_IndexRune_2 (l9 : List Int) (l10 : List Int) (n11 : Int) (n12 : Int) : Option ((Unit) ⊕ (Int)) := loopN (X := (List Int × List Int × Int × Int)) (fun x => st_strings_IndexRune_2 x.1 x.2.1 x.2.2.1 x.2.2.2) (l9, l10, n11, n12)
def sh_strings_IndexRune_2 : StSh := ⟨187, [(0, (.p .str)), (7, (.p .str)), (8, (.p (.int .i64))), (9, (.p (.int .i64)))], []⟩
def sx_strings_IndexRune_2 (x : (List Int × List Int × Int × Int)) : St := ⟨slots 187 0 [(0, (.p (.str x.1))), (7, (.p (.str x.2.1))), (8, (.p (.int .i64 x.2.2.1))), (9, (.p (.int .i64 x.2.2.2)))], []⟩
def sa_strings_IndexRune_2 (S : St) : (List Int × List Int × Int × Int) := (((tls 0 S.t).headD .any).pv.chars, ((tls 7 S.t).headD .any).pv.chars, ((tls 8 S.t).headD .any).pv.num, ((tls 9 S.t).headD .any).pv.num)
def tz_strings_IndexRune_2_1 : StSh := ⟨187, [(4, (.p (.int .i64)))], []⟩
def tx_strings_IndexRune_2_1 (x : Int) : St := ⟨slots 187 0 [(4, (.p (.int .i64 x)))], []⟩
def ta_strings_IndexRune_2_1 (S : St) : Int := ((tls 4 S.t).headD .any).pv.num
def tz_strings_IndexRune_2_0 : StSh := ⟨187, [], []⟩
def tx_strings_IndexRune_2_0 (x : Unit) : St := ⟨slots 187 0 [], []⟩
def ta_strings_IndexRune_2_0 (S : St) : Unit := ()
def kb_strings_IndexRune_2 : Exit → St → Tree (((List Int × List Int × Int × Int)) ⊕ ((Unit) ⊕ (Int))) := (exOne (.exit 1) [] tz_strings_IndexRune_2_0 ta_strings_IndexRune_2_0 (fun y => Sum.inr ((Sum.inl y))) (exOne .ret [4] tz_strings_IndexRune_2_1 ta_strings_IndexRune_2_1 (fun y => Sum.inr ((Sum.inr y))) exNil))
def ky_strings_IndexRune_2 : Dec ((Unit) ⊕ (Int)) := fun _ y ke => .sum y (fun a => ke ((.exit 1) : EK).ex (tx_strings_IndexRune_2_0 a)) (fun y' => ke (.ret : EK).ex (tx_strings_IndexRune_2_1 y'))
theorem kk_strings_IndexRune_2 : ExOk Sum.inr kb_strings_IndexRune_2 ky_strings_IndexRune_2 := (ExOk.one (acc := ta_strings_IndexRune_2_0) (bY := tx_strings_IndexRune_2_0) (inj1 := fun y => (Sum.inl y)) (fun S => by kernel_rfl) (fun y _ ke => .inr (by kernel_rfl)) (ExOk.one (acc := ta_strings_IndexRune_2_1) (bY := tx_strings_IndexRune_2_1) (inj1 := fun y => (Sum.inr y)) (fun S => by kernel_rfl) (fun y _ ke => .inr (by kernel_rfl)) ExOk.nil))
def st_strings_IndexRune_0 (l3 : List Int) (i4 : Nat) : Option (((List Int × Nat)) ⊕ ((Unit) ⊕ (Int))) :=
  bif (decide (i4 < (List.length l3))) then
   bif ((runeAt l3 i4) == 65533) then
    some (Sum.inr (Sum.inr ((i4 : Nat) : Int)))
   else
    some (Sum.inl (l3, (i4 + (runeLen l3 i4))))
  else
   some (Sum.inr (Sum.inl ()))
def lp_strings_IndexRune_0 (l3 : List Int) (i4 : Nat) : Option ((Unit) ⊕ (Int)) := loopN (X := (List Int × Nat)) (fun x => st_strings_IndexRune_0 x.1 x.2) (l3, i4)
def sh_strings_IndexRune_0 : StSh := ⟨187, [(175, (.ptr 0 0))], [.iter]⟩
def sx_strings_IndexRune_0 (x : (List Int × Nat)) : St := ⟨slots 187 0 [(175, (.ptr 0 0))], [(.iter x.1 x.2)]⟩
def sa_strings_IndexRune_0 (S : St) : (List Int × Nat) := (((tls 0 S.own).headD .gone).pvD.ints, ((tls 0 S.own).headD .gone).pvD.idx)
def tz_strings_IndexRune_0_1 : StSh := ⟨187, [(4, (.p (.int .i64)))], []⟩
def tx_strings_IndexRune_0_1 (x : Int) : St := ⟨slots 187 0 [(4, (.p (.int .i64 x)))], []⟩
def ta_strings_IndexRune_0_1 (S : St) : Int := ((tls 4 S.t).headD .any).pv.num
def tz_strings_IndexRune_0_0 : StSh := ⟨187, [], []⟩
def tx_strings_IndexRune_0_0 (x : Unit) : St := ⟨slots 187 0 [], []⟩
def ta_strings_IndexRune_0_0 (S : St) : Unit := ()
def kb_strings_IndexRune_0 : Exit → St → Tree (((List Int × Nat)) ⊕ ((Unit) ⊕ (Int))) := (exOne (.exit 9) [] tz_strings_IndexRune_0_0 ta_strings_IndexRune_0_0 (fun y => Sum.inr ((Sum.inl y))) (exOne .ret [4] tz_strings_IndexRune_0_1 ta_strings_IndexRune_0_1 (fun y => Sum.inr ((Sum.inr y))) exNil))
def ky_strings_IndexRune_0 : Dec ((Unit) ⊕ (Int)) := fun _ y ke => .sum y (fun a => ke ((.exit 9) : EK).ex (tx_strings_IndexRune_0_0 a)) (fun y' => ke (.ret : EK).ex (tx_strings_IndexRune_0_1 y'))
theorem kk_strings_IndexRune_0 : ExOk Sum.inr kb_strings_IndexRune_0 ky_strings_IndexRune_0 := (ExOk.one (acc := ta_strings_IndexRune_0_0) (bY := tx_strings_IndexRune_0_0) (inj1 := fun y => (Sum.inl y)) (fun S => by kernel_rfl) (fun y _ ke => .inr (by kernel_rfl)) (ExOk.one (acc := ta_strings_IndexRune_0_1) (bY := tx_strings_IndexRune_0_1) (inj1 := fun y => (Sum.inr y)) (fun S => by kernel_rfl) (fun y _ ke => .inr (by kernel_rfl)) ExOk.nil))
def lm_strings_IndexRune : Lam := fun _ j S kn ke => match j with
  | 0 => prepT [175] [] S fun S => .chk (sh_strings_IndexRune_0.ok S) (.bind (loopN (fun x => st_strings_IndexRune_0 x.1 x.2) (sa_strings_IndexRune_0 S)) fun y => ky_strings_IndexRune_0 _ y ke)
  | 2 => prepT [0, 7, 8, 9] [] S fun S => .chk (sh_strings_IndexRune_2.ok S) (.bind (loopN (fun x => st_strings_IndexRune_2 x.1 x.2.1 x.2.2.1 x.2.2.2) (sa_strings_IndexRune_2 S)) fun y => ky_strings_IndexRune_2 _ y ke)
  | 3 => prepT [0, 1, 7, 8, 9, 10] [] S fun S => .chk (sh_strings_IndexRune_3.ok S) (.bind (loopN (fun x => st_strings_IndexRune_3) (sa_strings_IndexRune_3 S)) fun y => ky_strings_IndexRune_3 _ y (joinK kn ke))
  | 4 => prepT [0, 7, 8, 9, 12] [] S fun S => .chk (sh_strings_IndexRune_4.ok S) (.bind (loopN (fun x => st_strings_IndexRune_4 x.1 x.2.1 x.2.2.1 x.2.2.2.1 x.2.2.2.2) (sa_strings_IndexRune_4 S)) fun y => ky_strings_IndexRune_4 _ y ke)
  | _ => .fail
theorem la_strings_IndexRune_6 : LamAt Tryd.prog GG lm_strings_IndexRune 6 (.loop [0, 7, 8, 9, 14, 15] xb_strings_IndexRune_6.erase) := LamAt.none fun _ _ _ => rfl
theorem la_strings_IndexRune_5 : JumpAt Tryd.prog GG lm_strings_IndexRune 5 2 xb_strings_IndexRune_5.erase := JumpAt.none fun _ _ _ => rfl
theorem sr_strings_IndexRune_4 (x : (List Int × List Int × Int × Int × Int)) : (ev GG gm_strings_IndexRune lm_strings_IndexRune xb_strings_IndexRune_4 (sx_strings_IndexRune_4 x) (fun S => forgetT [0, 7, 8, 9, 12] S fun S => prepT [0, 7, 8, 9, 12] [] S fun S => .chk (sh_strings_IndexRune_4.ok S) (.leaf (.inl (sa_strings_IndexRune_4 S)))) kb_strings_IndexRune_4).run = st_strings_IndexRune_4 x.1 x.2.1 x.2.2.1 x.2.2.2.1 x.2.2.2.2 := by kernel_rfl
theorem la_strings_IndexRune_4 : LamAt Tryd.prog GG lm_strings_IndexRune 4 (.loop [0, 7, 8, 9, 12] xb_strings_IndexRune_4.erase) := lam_loop (body := xb_strings_IndexRune_4) (Λ' := lm_strings_IndexRune) gk_strings_IndexRune (⟨⟨trivial, ⟨trivial, trivial⟩⟩, ⟨⟨trivial, ⟨trivial, trivial⟩⟩, trivial⟩⟩) (fun S => (by kernel_rfl : sh_strings_IndexRune_4.build S = sx_strings_IndexRune_4 (sa_strings_IndexRune_4 S))) kk_strings_IndexRune_4 sr_strings_IndexRune_4 (fun _ _ _ => rfl)
theorem sr_strings_IndexRune_3 (x : Unit) : (ev GG gm_strings_IndexRune lm_strings_IndexRune xb_strings_IndexRune_3 (sx_strings_IndexRune_3 x) (kb_strings_IndexRune_3 .normal) (jumpK 0 (fun S => forgetT [0, 1, 7, 8, 9, 10] S fun S => prepT [0, 1, 7, 8, 9, 10] [] S fun S => .chk (sh_strings_IndexRune_3.ok S) (.leaf (.inl (sa_strings_IndexRune_3 S)))) kb_strings_IndexRune_3)).run = st_strings_IndexRune_3 := by kernel_rfl
theorem la_strings_IndexRune_3 : JumpAt Tryd.prog GG lm_strings_IndexRune 3 0 xb_strings_IndexRune_3.erase := lam_jump (body := xb_strings_IndexRune_3) (Λ' := lm_strings_IndexRune) gk_strings_IndexRune (⟨trivial, ⟨trivial, ⟨trivial, ⟨trivial, ⟨trivial, trivial⟩⟩⟩⟩⟩) (fun S => (by kernel_rfl : sh_strings_IndexRune_3.build S = sx_strings_IndexRune_3 (sa_strings_IndexRune_3 S))) kk_strings_IndexRune_3 sr_strings_IndexRune_3 (fun _ _ _ => rfl)
theorem sr_strings_IndexRune_2 (x : (List Int × List Int × Int × Int)) : (ev GG gm_strings_IndexRune lm_strings_IndexRune xb_strings_IndexRune_2 (sx_strings_IndexRune_2 x) (fun S => forgetT [0, 7, 8, 9] S fun S => prepT [0, 7, 8, 9] [] S fun S => .chk (sh_strings_IndexRune_2.ok S) (.leaf (.inl (sa_strings_IndexRune_2 S)))) kb_strings_IndexRune_2).run = st_strings_IndexRune_2 x.1 x.2.1 x.2.2.1 x.2.2.2 := by kernel_rfl
theorem la_strings_IndexRune_2 : LamAt Tryd.prog GG lm_strings_IndexRune 2 (.loop [0, 7, 8, 9] xb_strings_IndexRune_2.erase) := lam_loop (body := xb_strings_IndexRune_2) (Λ' := lm_strings_IndexRune) gk_strings_IndexRune (⟨⟨trivial, ⟨trivial, trivial⟩⟩, ⟨⟨⟨trivial, ⟨⟨trivial, ⟨⟨trivial, ⟨⟨trivial, trivial⟩, trivial⟩⟩, trivial⟩⟩, trivial⟩⟩, ⟨⟨trivial, la_strings_IndexRune_4⟩, ⟨⟨trivial, trivial⟩, ⟨trivial, ⟨trivial, ⟨trivial, ⟨trivial, ⟨trivial, trivial⟩⟩⟩⟩⟩⟩⟩⟩, _, (by kernel_rfl), la_strings_IndexRune_3⟩⟩) (fun S => (by kernel_rfl : sh_strings_IndexRune_2.build S = sx_strings_IndexRune_2 (sa_strings_IndexRune_2 S))) kk_strings_IndexRune_2 sr_strings_IndexRune_2 (fun _ _ _ => rfl)
theorem la_strings_IndexRune_1 : JumpAt Tryd.prog GG lm_strings_IndexRune 1 1 xb_strings_IndexRune_1.erase := JumpAt.none fun _ _ _ => rfl
theorem sr_strings_IndexRune_0 (x : (List Int × Nat)) : (ev GG gm_strings_IndexRune lm_strings_IndexRune xb_strings_IndexRune_0 (sx_strings_IndexRune_0 x) (fun S => forgetT [175] S fun S => prepT [175] [] S fun S => .chk (sh_strings_IndexRune_0.ok S) (.leaf (.inl (sa_strings_IndexRune_0 S)))) kb_strings_IndexRune_0).run = st_strings_IndexRune_0 x.1 x.2 := by kernel_rfl
theorem la_strings_IndexRune_0 : LamAt Tryd.prog GG lm_strings_IndexRune 0 (.loop [175] xb_strings_IndexRune_0.erase) := lam_loop (body := xb_strings_IndexRune_0) (Λ' := lm_strings_IndexRune) gk_strings_IndexRune (⟨trivial, ⟨⟨trivial, trivial⟩, ⟨trivial, ⟨trivial, ⟨⟨trivial, trivial⟩, trivial⟩⟩⟩⟩⟩) (fun S => (by kernel_rfl : sh_strings_IndexRune_0.build S = sx_strings_IndexRune_0 (sa_strings_IndexRune_0 S))) kk_strings_IndexRune_0 sr_strings_IndexRune_0 (fun _ _ _ => rfl)
def go_strings_IndexRune (l0 : List Int) (n1 : Int) : Option Int :=
  bif (decide (0 ≤ n1)) then
   bif (decide (n1 < 128)) then
    (go_strings_IndexByte l0 (IntKind.wrap .u8 n1)).bind fun r2 =>
    some r2
   else
    bif (n1 == 65533) then
     (lp_strings_IndexRune_0 l0 0).bind fun y5 =>
     Sum.elim (fun z6 =>
      some (-1)) (fun z7 =>
      some z7) y5
    else
     (go_unicode_utf8_ValidRune n1).bind fun r8 =>
     bif (!r8) then
      some (-1)
     else
      (lp_strings_IndexRune_2 l0 (signB n1) (IntKind.wrap .i64 ((((List.length (signB n1)) : Nat) : Int) - 1)) (IntKind.wrap .i64 ((((List.length (signB n1)) : Nat) : Int) - 1))).bind fun y27 =>
      Sum.elim (fun z28 =>
       some (-1)) (fun z29 =>
       some z29) y27
  else
   bif (n1 == 65533) then
    (lp_strings_IndexRune_0 l0 0).bind fun y30 =>
    Sum.elim (fun z31 =>
     some (-1)) (fun z32 =>
     some z32) y30
   else
    (go_unicode_utf8_ValidRune n1).bind fun r33 =>
    bif (!r33) then
     some (-1)
    else
     (lp_strings_IndexRune_2 l0 (signB n1) (IntKind.wrap .i64 ((((List.length (signB n1)) : Nat) : Int) - 1)) (IntKind.wrap .i64 ((((List.length (signB n1)) : Nat) : Int) - 1))).bind fun y34 =>
     Sum.elim (fun z35 =>
      some (-1)) (fun z36 =>
      some z36) y34
def em_strings_IndexRune (r : Int) : PV := (.int .i64 r)
def rh_strings_IndexRune : Shp := (.int .i64)
def ra_strings_IndexRune (v : PV) : Int := v.num
def kf_strings_IndexRune (v : PV) : Tree Int := .chk (rh_strings_IndexRune.ok v) (.leaf (ra_strings_IndexRune v))
theorem rn_strings_IndexRune (l0 : List Int) (n1 : Int) : (ev GG gm_strings_IndexRune lm_strings_IndexRune xr_strings_IndexRune ⟨slots 187 0 [(0, .p (.str l0)), (1, .p (.int .i32 n1))], []⟩ (fun S => finT Tryd.prog rs_strings_IndexRune S kf_strings_IndexRune) (retT Tryd.prog rs_strings_IndexRune kf_strings_IndexRune)).run = go_strings_IndexRune l0 n1 := by kernel_rfl
theorem ok_strings_IndexRune (l0 : List Int) (n1 : Int) (r : Int) (h : go_strings_IndexRune l0 n1 = some r) : FunEq Tryd.prog GG 43 [(.str l0), (.int .i32 n1)] (em_strings_IndexRune r) :=
  fun_of_ev (x := xr_strings_IndexRune) (Λ := lm_strings_IndexRune) gk_strings_IndexRune [[175], [0, 7, 8, 9], [0, 7, 8, 9, 12], [0, 7, 8, 9, 14, 15], [0, 7, 8, 9, 14, 15, 16]] Tryd.func43 rfl (by kernel_rfl) ir_strings_IndexRune (by kernel_rfl) (congrArg Array.toList Tryd.results43) Tryd.ntmps43 (⟨trivial, ⟨trivial, ⟨⟨trivial, trivial⟩, ⟨trivial, ⟨⟨⟨trivial, la_strings_IndexRune_0⟩, ⟨trivial, trivial⟩⟩, ⟨trivial, ⟨⟨trivial, trivial⟩, ⟨⟨trivial, ⟨trivial, ⟨trivial, ⟨trivial, ⟨la_strings_IndexRune_2, ⟨⟨trivial, trivial⟩, ⟨trivial, ⟨⟨⟨trivial, ⟨trivial, ⟨⟨trivial, trivial⟩, trivial⟩⟩⟩, ⟨⟨trivial, ⟨trivial, ⟨trivial, la_strings_IndexRune_6⟩⟩⟩, _, (by kernel_rfl), la_strings_IndexRune_5⟩⟩, ⟨trivial, trivial⟩⟩⟩⟩⟩⟩⟩⟩⟩, _, (by kernel_rfl), la_strings_IndexRune_1⟩⟩⟩⟩⟩⟩⟩⟩) (leaf_of fun v => (by kernel_rfl : rh_strings_IndexRune.build v = em_strings_IndexRune (ra_strings_IndexRune v))) (by kernel_rfl) ((rn_strings_IndexRune l0 n1).trans h)
def as_strings_IndexRune : List Shp := [.str, (.int .i32)]
def ga_strings_IndexRune (vs : List PV) : Option Int := go_strings_IndexRune ((tls 0 vs).headD .nilSl).chars ((tls 1 vs).headD .nilSl).num
theorem at_strings_IndexRune : FnAt Tryd.prog GG 43 as_strings_IndexRune ga_strings_IndexRune em_strings_IndexRune := fun vs h r hr => by
  have e : Shp.buildL as_strings_IndexRune vs = [(.str ((tls 0 vs).headD .nilSl).chars), (.int .i32 ((tls 1 vs).headD .nilSl).num)] := by kernel_rfl
  rw [← Shp.buildL_eq _ h, e]
  exact .inl ⟨by decide, ok_strings_IndexRune _ _ r hr⟩
def xb_flight_bytes_0 : XR := (.seq (.ops false [⟨⟨(some 24), (.fx (.nextS (.tmp 23))), none⟩, none⟩, ⟨⟨(some 25), (.ext (.tmp 24) 0), none⟩, none⟩]) (.seq (.cond (.tmp 25) .skip (.exit 0)) (.block 1 (.seq (.ops false [⟨⟨(some 26), (.ext (.tmp 24) 2), none⟩, none⟩, ⟨⟨(some 7), (.mv (.tmp 26)), none⟩, none⟩]) (.seq (.ops false [⟨⟨(some 27), (.mv (.tmp 7)), none⟩, none⟩, ⟨⟨(some 28), (.call (.func 43) [(.c (.str [(48), (49), (50), (51), (52), (53), (54), (55), (56), (57), (97), (98), (99), (100), (101), (102)])), (.tmp 27)]), none⟩, none⟩, ⟨⟨(some 8), (.mv (.tmp 28)), none⟩, none⟩]) (.block 2 (.seq (.ops false [⟨⟨(some 38), (.mv (.tmp 8)), none⟩, none⟩, ⟨⟨(some 39), (.bin .lss (.tmp 38) (.c (.int .i64 (0)))), none⟩, none⟩, ⟨⟨(some 37), (.mv (.tmp 39)), none⟩, none⟩]) (.cond (.tmp 37) (.seq (.ops false [⟨⟨(some 2), (.mv (.c (.isl true true .u8 []))), none⟩, none⟩, ⟨⟨(some 3), (.mv (.c (.bool false))), none⟩, none⟩]) .ret) (.seq (.ops false [⟨⟨(some 41), (.mv (.tmp 5)), none⟩, none⟩, ⟨⟨(some 42), (.bin .lss (.tmp 41) (.c (.int .i64 (0)))), none⟩, none⟩, ⟨⟨(some 40), (.mv (.tmp 42)), none⟩, none⟩]) (.cond (.tmp 40) (.ops false [⟨⟨(some 43), (.mv (.tmp 8)), none⟩, none⟩, ⟨⟨(some 5), (.mv (.tmp 43)), none⟩, none⟩]) (.seq (.ops false [⟨⟨(some 29), (.mv (.tmp 4)), none⟩, none⟩, ⟨⟨(some 30), (.mv (.tmp 5)), none⟩, none⟩, ⟨⟨(some 31), (.bin .shl (.tmp 30) (.c (.int .u64 (4)))), none⟩, none⟩, ⟨⟨(some 32), (.mv (.tmp 8)), none⟩, none⟩, ⟨⟨(some 33), (.bin .or (.tmp 31) (.tmp 32)), none⟩, none⟩, ⟨⟨(some 34), (.cvtI .u8 (.tmp 33)), none⟩, none⟩, ⟨⟨(some 35), (.bsl 5 (some .u8) 1 [(.tmp 34)]), none⟩, none⟩, ⟨⟨(some 36), (.app 5 (some .u8) 1 1 (.tmp 29) (.tmp 35)), none⟩, none⟩, ⟨⟨(some 4), (.mv (.tmp 36)), none⟩, none⟩]) (.ops false [⟨⟨(some 5), (.mv (.c (.int .i64 (-1)))), none⟩, none⟩]))))))))))))
def xr_flight_bytes : XR := (.seq (.ops false [⟨⟨(some 2), (.mv (.c (.isl true true .u8 []))), none⟩, none⟩, ⟨⟨(some 3), (.mv (.c (.bool false))), none⟩, none⟩]) (.seq (.seq (.ops false [⟨⟨(some 9), (.mv (.tmp 0)), none⟩, none⟩, ⟨⟨(some 10), (.binS .eql (.tmp 9) (.c (.str []))), none⟩, none⟩, ⟨⟨(some 11), (.mv (.tmp 10)), none⟩, none⟩, ⟨⟨(some 12), (.mv (.tmp 0)), (some (11, false))⟩, none⟩, ⟨⟨(some 13), (.lenS (.tmp 12)), (some (11, false))⟩, none⟩, ⟨⟨(some 14), (.bin .rem (.tmp 13) (.c (.int .i64 (2)))), (some (11, false))⟩, none⟩, ⟨⟨(some 15), (.bin .eql (.tmp 14) (.c (.int .i64 (1)))), (some (11, false))⟩, none⟩, ⟨⟨(some 16), (.pick (.tmp 11) (.c (.bool true)) (.tmp 15)), none⟩, none⟩, ⟨⟨(some 17), (.mv (.tmp 16)), none⟩, none⟩, ⟨⟨(some 18), (.mv (.tmp 0)), (some (17, false))⟩, none⟩, ⟨⟨(some 19), (.lenS (.tmp 18)), (some (17, false))⟩, none⟩, ⟨⟨(some 20), (.bin .gtr (.tmp 19) (.c (.int .i64 (1200)))), (some (17, false))⟩, none⟩, ⟨⟨(some 21), (.pick (.tmp 17) (.c (.bool true)) (.tmp 20)), none⟩, none⟩]) (.cond (.tmp 21) (.seq (.ops false [⟨⟨(some 2), (.mv (.c (.isl true true .u8 []))), none⟩, none⟩, ⟨⟨(some 3), (.mv (.c (.bool false))), none⟩, none⟩]) .ret) .skip)) (.seq (.ops false [⟨⟨(some 4), (.mv (.c (.isl true true .u8 []))), none⟩, none⟩]) (.seq (.ops false [⟨⟨(some 5), (.mv (.c (.int .i64 (-1)))), none⟩, none⟩]) (.seq (.seq (.ops false [⟨⟨(some 22), (.mv (.tmp 0)), none⟩, none⟩, ⟨⟨(some 23), (.fx (.rngS (.tmp 22))), none⟩, none⟩]) (.block 0 (.loop 0 [4, 5, 23] xb_flight_bytes_0))) (.seq (.ops false [⟨⟨(some 44), (.mv (.tmp 4)), none⟩, none⟩, ⟨⟨(some 2), (.mv (.tmp 44)), none⟩, none⟩, ⟨⟨(some 3), (.mv (.c (.bool true))), none⟩, none⟩]) .ret))))))
def rs_flight_bytes : List ResultVar := [(.tmp 2), (.tmp 3)]
theorem ir_flight_bytes : compCode Tryd.prog (Tryd.f32.body.getD .skip) [[4, 5, 23]] = some (xr_flight_bytes.erase, []) := by kernel_rfl
def gm_new_flight_bytes : Gam := (Gam.fn 43 as_strings_IndexRune ga_strings_IndexRune em_strings_IndexRune Gam.bot)
theorem gk_new_flight_bytes : GamOk Tryd.prog GG gm_new_flight_bytes := (GamOk.fn at_strings_IndexRune GamOk.bot)
def st_new_flight_bytes_0 (n1 : Int) (b2 : Bool) (b3 : Bool) (l4 : List Int) (l5 : List Int) (i6 : Nat) : Option (((Int × Bool × Bool × List Int × List Int × Nat)) ⊕ (((Bool × Bool × List Int)) ⊕ ((Bool × Bool × List Int × Bool)))) :=
  bif (decide (i6 < (List.length l5))) then
   (go_strings_IndexRune [48, 49, 50, 51, 52, 53, 54, 55, 56, 57, 97, 98, 99, 100, 101, 102] (runeAt l5 i6)).bind fun r7 =>
   bif (decide (r7 < 0)) then
    some (Sum.inr (Sum.inr (true, true, [], false)))
   else
    bif (decide (n1 < 0)) then
     some (Sum.inl (r7, b2, b3, l4, l5, (i6 + (runeLen l5 i6))))
    else
     bif (decide ((((List.length l4) + 1) * 1) ≤ 140737488355328)) then
      bif (decide (((List.length l4) + 1) ≤ 4611686018427387904)) then
       some (Sum.inl ((-1), (b2 && false), false, (l4 ++ [(IntKind.wrap .u8 (IntKind.wrap .i64 (bOr .i64 (IntKind.wrap .i64 (n1 * 16)) r7)))]), l5, (i6 + (runeLen l5 i6))))
      else none
     else none
  else
   some (Sum.inr (Sum.inl (b2, b3, l4)))
def lp_new_flight_bytes_0 (n1 : Int) (b2 : Bool) (b3 : Bool) (l4 : List Int) (l5 : List Int) (i6 : Nat) : Option (((Bool × Bool × List Int)) ⊕ ((Bool × Bool × List Int × Bool))) := loopN (X := (Int × Bool × Bool × List Int × List Int × Nat)) (fun x => st_new_flight_bytes_0 x.1 x.2.1 x.2.2.1 x.2.2.2.1 x.2.2.2.2.1 x.2.2.2.2.2) (n1, b2, b3, l4, l5, i6)
def sh_new_flight_bytes_0 : StSh := ⟨45, [(4, (.row 0)), (5, (.p (.int .i64))), (23, (.ptr 1 0))], [(.irow 5 .u8), .iter]⟩
def sx_new_flight_bytes_0 (x : (Int × Bool × Bool × List Int × List Int × Nat)) : St := ⟨slots 45 0 [(4, (.row 0)), (5, (.p (.int .i64 x.1))), (23, (.ptr 1 0))], [(.irow 5 .u8 x.2.1 x.2.2.1 x.2.2.2.1), (.iter x.2.2.2.2.1 x.2.2.2.2.2)]⟩
def sa_new_flight_bytes_0 (S : St) : (Int × Bool × Bool × List Int × List Int × Nat) := (((tls 5 S.t).headD .any).pv.num, ((tls 0 S.own).headD .gone).pvD.nl, ((tls 0 S.own).headD .gone).pvD.ex, ((tls 0 S.own).headD .gone).pvD.ints, ((tls 1 S.own).headD .gone).pvD.ints, ((tls 1 S.own).headD .gone).pvD.idx)
def tz_new_flight_bytes_0_1 : StSh := ⟨45, [(2, (.p (.isl .u8))), (3, (.p .bool))], []⟩
def tx_new_flight_bytes_0_1 (x : (Bool × Bool × List Int × Bool)) : St := ⟨slots 45 0 [(2, (.p (.isl x.1 x.2.1 .u8 x.2.2.1))), (3, (.p (.bool x.2.2.2)))], []⟩
def ta_new_flight_bytes_0_1 (S : St) : (Bool × Bool × List Int × Bool) := (((tls 2 S.t).headD .any).pv.nl, ((tls 2 S.t).headD .any).pv.ex, ((tls 2 S.t).headD .any).pv.ints, ((tls 3 S.t).headD .any).pv.tru)
def tz_new_flight_bytes_0_0 : StSh := ⟨45, [(4, (.row 0))], [(.irow 5 .u8)]⟩
def tx_new_flight_bytes_0_0 (x : (Bool × Bool × List Int)) : St := ⟨slots 45 0 [(4, (.row 0))], [(.irow 5 .u8 x.1 x.2.1 x.2.2)]⟩
def ta_new_flight_bytes_0_0 (S : St) : (Bool × Bool × List Int) := (((tls 0 S.own).headD .gone).pvD.nl, ((tls 0 S.own).headD .gone).pvD.ex, ((tls 0 S.own).headD .gone).pvD.ints)
def kb_new_flight_bytes_0 : Exit → St → Tree (((Int × Bool × Bool × List Int × List Int × Nat)) ⊕ (((Bool × Bool × List Int)) ⊕ ((Bool × Bool × List Int × Bool)))) := (exOne (.exit 0) [4] tz_new_flight_bytes_0_0 ta_new_flight_bytes_0_0 (fun y => Sum.inr ((Sum.inl y))) (exOne .ret [2, 3] tz_new_flight_bytes_0_1 ta_new_flight_bytes_0_1 (fun y => Sum.inr ((Sum.inr y))) exNil))
def ky_new_flight_bytes_0 : Dec (((Bool × Bool × List Int)) ⊕ ((Bool × Bool × List Int × Bool))) := fun _ y ke => .sum y (fun a => ke ((.exit 0) : EK).ex (tx_new_flight_bytes_0_0 a)) (fun y' => ke (.ret : EK).ex (tx_new_flight_bytes_0_1 y'))
theorem kk_new_flight_bytes_0 : ExOk Sum.inr kb_new_flight_bytes_0 ky_new_flight_bytes_0 := (ExOk.one (acc := ta_new_flight_bytes_0_0) (bY := tx_new_flight_bytes_0_0) (inj1 := fun y => (Sum.inl y)) (fun S => by kernel_rfl) (fun y _ ke => .inr (by kernel_rfl)) (ExOk.one (acc := ta_new_flight_bytes_0_1) (bY := tx_new_flight_bytes_0_1) (inj1 := fun y => (Sum.inr y)) (fun S => by kernel_rfl) (fun y _ ke => .inr (by kernel_rfl)) ExOk.nil))
def lm_new_flight_bytes : Lam := fun _ j S kn ke => match j with
  | 0 => prepT [4, 5, 23] [(4, 5)] S fun S => .chk (sh_new_flight_bytes_0.ok S) (.bind (loopN (fun x => st_new_flight_bytes_0 x.1 x.2.1 x.2.2.1 x.2.2.2.1 x.2.2.2.2.1 x.2.2.2.2.2) (sa_new_flight_bytes_0 S)) fun y => ky_new_flight_bytes_0 _ y ke)
  | _ => .fail
theorem sr_new_flight_bytes_0 (x : (Int × Bool × Bool × List Int × List Int × Nat)) : (ev GG gm_new_flight_bytes lm_new_flight_bytes xb_flight_bytes_0 (sx_new_flight_bytes_0 x) (fun S => forgetT [4, 5, 23] S fun S => prepT [4, 5, 23] [(4, 5)] S fun S => .chk (sh_new_flight_bytes_0.ok S) (.leaf (.inl (sa_new_flight_bytes_0 S)))) kb_new_flight_bytes_0).run = st_new_flight_bytes_0 x.1 x.2.1 x.2.2.1 x.2.2.2.1 x.2.2.2.2.1 x.2.2.2.2.2 := by kernel_rfl
theorem la_new_flight_bytes_0 : LamAt Tryd.prog GG lm_new_flight_bytes 0 (.loop [4, 5, 23] xb_flight_bytes_0.erase) := lam_loop (body := xb_flight_bytes_0) (Λ' := lm_new_flight_bytes) gk_new_flight_bytes (⟨trivial, ⟨⟨trivial, trivial⟩, ⟨trivial, ⟨trivial, ⟨trivial, ⟨⟨trivial, trivial⟩, ⟨trivial, ⟨trivial, ⟨trivial, trivial⟩⟩⟩⟩⟩⟩⟩⟩⟩) (fun S => (by kernel_rfl : sh_new_flight_bytes_0.build S = sx_new_flight_bytes_0 (sa_new_flight_bytes_0 S))) kk_new_flight_bytes_0 sr_new_flight_bytes_0 (fun _ _ _ => rfl)
def go_new_flight_bytes (l0 : List Int) : Option (Bool × Bool × List Int × Bool) :=
  bif (l0 == []) then
   some (true, true, [], false)
  else
   bif ((Int.tmod (((List.length l0) : Nat) : Int) 2) == 1) then
    some (true, true, [], false)
   else
    bif (decide ((((List.length l0) : Nat) : Int) > 1200)) then
     some (true, true, [], false)
    else
     (lp_new_flight_bytes_0 (-1) true true [] l0 0).bind fun y8 =>
     Sum.elim (fun z9 =>
      some (z9.1, z9.2.1, z9.2.2, true)) (fun z10 =>
      bif z10.1 then
       some (true, true, [], z10.2.2.2)
      else none) y8
def em_new_flight_bytes (r : (Bool × Bool × List Int × Bool)) : PV := (.tup [(.isl r.1 r.2.1 .u8 r.2.2.1), (.bool r.2.2.2)])
def rh_new_flight_bytes : Shp := (.tup [(.isl .u8), .bool])
def ra_new_flight_bytes (v : PV) : (Bool × Bool × List Int × Bool) := ((v.subs.headD .nilSl).nl, (v.subs.headD .nilSl).ex, (v.subs.headD .nilSl).ints, (v.subs.tail.headD .nilSl).tru)
def kf_new_flight_bytes (v : PV) : Tree (Bool × Bool × List Int × Bool) := .chk (rh_new_flight_bytes.ok v) (.leaf (ra_new_flight_bytes v))
theorem rn_new_flight_bytes (l0 : List Int) : (ev GG gm_new_flight_bytes lm_new_flight_bytes xr_flight_bytes ⟨slots 45 0 [(0, .p (.str l0))], []⟩ (fun S => newT Tryd.prog 5 rs_flight_bytes S kf_new_flight_bytes) (retN Tryd.prog 5 rs_flight_bytes kf_new_flight_bytes)).run = go_new_flight_bytes l0 := by kernel_rfl
theorem ok_new_flight_bytes (l0 : List Int) (r : (Bool × Bool × List Int × Bool)) (h : go_new_flight_bytes l0 = some r) : FunNewT Tryd.prog GG (32 + 2000000) (.ref 5 [] :: [(.str l0)]) (em_new_flight_bytes r) :=
  new_of_ev (x := xr_flight_bytes) (Λ := lm_new_flight_bytes) gk_new_flight_bytes [[4, 5, 23]] Tryd.func32 rfl (by kernel_rfl) ir_flight_bytes (by kernel_rfl) (congrArg Array.toList Tryd.results32) Tryd.ntmps32 (⟨trivial, ⟨⟨trivial, ⟨⟨trivial, trivial⟩, trivial⟩⟩, ⟨trivial, ⟨trivial, ⟨⟨trivial, la_new_flight_bytes_0⟩, ⟨trivial, trivial⟩⟩⟩⟩⟩⟩) (leaf_of fun v => (by kernel_rfl : rh_new_flight_bytes.build v = em_new_flight_bytes (ra_new_flight_bytes v))) ⟨_, _, _, _, _, rfl⟩ (by kernel_rfl) ((rn_new_flight_bytes l0).trans h)
def as_new_flight_bytes : List Shp := [(.ref 5 []), .str]
def ga_new_flight_bytes (vs : List PV) : Option (Bool × Bool × List Int × Bool) := go_new_flight_bytes ((tls 1 vs).headD .nilSl).chars
theorem at_new_flight_bytes : FnAt Tryd.prog GG 2000032 as_new_flight_bytes ga_new_flight_bytes em_new_flight_bytes := fun vs h r hr => by
  have e : Shp.buildL as_new_flight_bytes vs = [(.ref 5 []), (.str ((tls 1 vs).headD .nilSl).chars)] := by kernel_rfl
  rw [← Shp.buildL_eq _ h, e]
  exact .inr (.inr (.inl (ok_new_flight_bytes _ r hr)))
def xr_flight_readers_1 : XR := (.seq (.ops false [⟨⟨(some 2), (.alloc 35 [(.str []), (.isl true true .u8 []), (.int .i64 (0)), (.int .i64 (0)), (.int .i64 (0))]), none⟩, none⟩, ⟨⟨(some 3), (.mv (.c (.bool false))), none⟩, none⟩]) (.seq (.seq (.ops false [⟨⟨(some 6), (.mv (.tmp 0)), none⟩, none⟩, ⟨⟨(some 7), (.len (.tmp 6)), none⟩, none⟩, ⟨⟨(some 8), (.bin .neq (.tmp 7) (.c (.int .i64 (1)))), none⟩, none⟩]) (.cond (.tmp 8) (.seq (.ops false [⟨⟨(some 9), (.build [(.str []), (.isl true true .u8 []), (.int .i64 (0)), (.int .i64 (0)), (.int .i64 (0))] []), none⟩, none⟩, ⟨⟨none, (.st 5 (.tmp 2) (.tmp 9)), none⟩, none⟩, ⟨⟨(some 3), (.mv (.c (.bool false))), none⟩, none⟩]) .ret) .skip)) (.seq (.ops false [⟨⟨(some 11), (.mv (.tmp 0)), none⟩, none⟩, ⟨⟨(some 12), (.ixA 1 (.tmp 11) (.c (.int .i64 (0)))), none⟩, none⟩, ⟨⟨(some 13), (.ld false 1 (.tmp 12)), none⟩, (some .str)⟩, ⟨⟨(some 14), (.callN 32 5 [(.tmp 13)]), none⟩, none⟩, ⟨⟨(some 10), (.mv (.tmp 14)), none⟩, none⟩, ⟨⟨(some 15), (.ext (.tmp 10) 0), none⟩, none⟩, ⟨⟨(some 16), (.ext (.tmp 10) 1), none⟩, none⟩, ⟨⟨(some 4), (.mv (.tmp 15)), none⟩, none⟩, ⟨⟨(some 5), (.mv (.tmp 16)), none⟩, none⟩]) (.seq (.ops false [⟨⟨(some 17), (.mv (.tmp 4)), none⟩, none⟩, ⟨⟨(some 18), (.build [(.str []), (.isl true true .u8 []), (.int .i64 (0)), (.int .i64 (0)), (.int .i64 (0))] [(1, (1, (.tmp 17)))]), none⟩, none⟩, ⟨⟨(some 19), (.mv (.tmp 5)), none⟩, none⟩, ⟨⟨none, (.st 5 (.tmp 2) (.tmp 18)), none⟩, none⟩, ⟨⟨(some 3), (.mv (.tmp 19)), none⟩, none⟩]) .ret))))
def rs_flight_readers_1 : List ResultVar := [(.cell 2 35), (.tmp 3)]
theorem ir_flight_readers_1 : compCode Tryd.prog (Tryd.f31.body.getD .skip) [] = some (xr_flight_readers_1.erase, []) := by kernel_rfl
def gm_flight_readers_1 : Gam := (Gam.fn 2000032 as_new_flight_bytes ga_new_flight_bytes em_new_flight_bytes Gam.bot)
theorem gk_flight_readers_1 : GamOk Tryd.prog GG gm_flight_readers_1 := (GamOk.fn at_new_flight_bytes GamOk.bot)
def lm_flight_readers_1 : Lam := fun _ j S kn ke => match j with
  | _ => .fail
def go_flight_readers_1 (b0 : Bool) (b1 : Bool) (es2 : List PV) : Option (List Int × Bool × Bool × List Int × Int × Int × Int × Bool) :=
  bif ((((List.length es2) : Nat) : Int) != 1) then
   some ([], true, true, [], 0, 0, 0, false)
  else
   bif (decide (0 < (((List.length es2) : Nat) : Int))) then
    bif (decide (0 < (List.length es2))) then
     bif (PV.scal (List.getD es2 0 .nilSl)) then
      bif (Shp.ok .str (List.getD es2 0 .nilSl)) then
       (go_new_flight_bytes (PV.chars (List.getD es2 0 .nilSl))).bind fun r3 =>
       some ([], r3.1, false, r3.2.2.1, 0, 0, 0, r3.2.2.2)
      else none
     else none
    else none
   else none
def em_flight_readers_1 (r : (List Int × Bool × Bool × List Int × Int × Int × Int × Bool)) : PV := (.tup [(.agg [(.str r.1), (.isl r.2.1 r.2.2.1 .u8 r.2.2.2.1), (.int .i64 r.2.2.2.2.1), (.int .i64 r.2.2.2.2.2.1), (.int .i64 r.2.2.2.2.2.2.1)]), (.bool r.2.2.2.2.2.2.2)])
def rh_flight_readers_1 : Shp := (.tup [(.agg [.str, (.isl .u8), (.int .i64), (.int .i64), (.int .i64)]), .bool])
def ra_flight_readers_1 (v : PV) : (List Int × Bool × Bool × List Int × Int × Int × Int × Bool) := (((v.subs.headD .nilSl).subs.headD .nilSl).chars, ((v.subs.headD .nilSl).subs.tail.headD .nilSl).nl, ((v.subs.headD .nilSl).subs.tail.headD .nilSl).ex, ((v.subs.headD .nilSl).subs.tail.headD .nilSl).ints, ((v.subs.headD .nilSl).subs.tail.tail.headD .nilSl).num, ((v.subs.headD .nilSl).subs.tail.tail.tail.headD .nilSl).num, ((v.subs.headD .nilSl).subs.tail.tail.tail.tail.headD .nilSl).num, (v.subs.tail.headD .nilSl).tru)
def kf_flight_readers_1 (v : PV) : Tree (List Int × Bool × Bool × List Int × Int × Int × Int × Bool) := .chk (rh_flight_readers_1.ok v) (.leaf (ra_flight_readers_1 v))
theorem rn_flight_readers_1 (b0 : Bool) (b1 : Bool) (es2 : List PV) : (ev GG gm_flight_readers_1 lm_flight_readers_1 xr_flight_readers_1 ⟨slots 20 0 [(0, .p (.sl b0 b1 1 es2))], []⟩ (fun S => finT Tryd.prog rs_flight_readers_1 S kf_flight_readers_1) (retT Tryd.prog rs_flight_readers_1 kf_flight_readers_1)).run = go_flight_readers_1 b0 b1 es2 := by kernel_rfl
theorem ok_flight_readers_1 (b0 : Bool) (b1 : Bool) (es2 : List PV) (r : (List Int × Bool × Bool × List Int × Int × Int × Int × Bool)) (h : go_flight_readers_1 b0 b1 es2 = some r) : FunEq Tryd.prog GG 31 [(.sl b0 b1 1 es2)] (em_flight_readers_1 r) :=
  fun_of_ev (x := xr_flight_readers_1) (Λ := lm_flight_readers_1) gk_flight_readers_1 [] Tryd.func31 rfl (by kernel_rfl) ir_flight_readers_1 (by kernel_rfl) (congrArg Array.toList Tryd.results31) Tryd.ntmps31 (⟨trivial, ⟨⟨trivial, ⟨⟨trivial, trivial⟩, trivial⟩⟩, ⟨trivial, ⟨trivial, trivial⟩⟩⟩⟩) (leaf_of fun v => (by kernel_rfl : rh_flight_readers_1.build v = em_flight_readers_1 (ra_flight_readers_1 v))) (by kernel_rfl) ((rn_flight_readers_1 b0 b1 es2).trans h)
def as_flight_readers_1 : List Shp := [(.sl 1)]
def ga_flight_readers_1 (vs : List PV) : Option (List Int × Bool × Bool × List Int × Int × Int × Int × Bool) := go_flight_readers_1 ((tls 0 vs).headD .nilSl).nl ((tls 0 vs).headD .nilSl).ex ((tls 0 vs).headD .nilSl).elts
theorem at_flight_readers_1 : FnAt Tryd.prog GG 31 as_flight_readers_1 ga_flight_readers_1 em_flight_readers_1 := fun vs h r hr => by
  have e : Shp.buildL as_flight_readers_1 vs = [(.sl ((tls 0 vs).headD .nilSl).nl ((tls 0 vs).headD .nilSl).ex 1 ((tls 0 vs).headD .nilSl).elts)] := by kernel_rfl
  rw [← Shp.buildL_eq _ h, e]
  exact .inl ⟨by decide, ok_flight_readers_1 _ _ _ r hr⟩
def xr_internal_stringslite_HasPrefix : XR := (.seq (.ops false [⟨⟨(some 4), (.mv (.c (.bool false))), none⟩, none⟩]) (.seq (.ops false [⟨⟨(some 5), (.mv (.tmp 0)), none⟩, none⟩, ⟨⟨(some 6), (.lenS (.tmp 5)), none⟩, none⟩, ⟨⟨(some 7), (.mv (.tmp 1)), none⟩, none⟩, ⟨⟨(some 8), (.lenS (.tmp 7)), none⟩, none⟩, ⟨⟨(some 9), (.bin .geq (.tmp 6) (.tmp 8)), none⟩, none⟩, ⟨⟨(some 10), (.mv (.tmp 9)), none⟩, none⟩, ⟨⟨(some 11), (.mv (.tmp 0)), (some (10, true))⟩, none⟩, ⟨⟨(some 12), (.mv (.tmp 1)), (some (10, true))⟩, none⟩, ⟨⟨(some 13), (.lenS (.tmp 12)), (some (10, true))⟩, none⟩, ⟨⟨(some 14), (.slcS (.tmp 11) none (some (.tmp 13))), (some (10, true))⟩, none⟩, ⟨⟨(some 15), (.mv (.tmp 1)), (some (10, true))⟩, none⟩, ⟨⟨(some 16), (.binS .eql (.tmp 14) (.tmp 15)), (some (10, true))⟩, none⟩, ⟨⟨(some 17), (.pick (.tmp 10) (.tmp 16) (.c (.bool false))), none⟩, none⟩, ⟨⟨(some 4), (.mv (.tmp 17)), none⟩, none⟩]) .ret))
def rs_internal_stringslite_HasPrefix : List ResultVar := [(.tmp 4)]
theorem ir_internal_stringslite_HasPrefix : compCode Tryd.prog (Tryd.f67.body.getD .skip) [] = some (xr_internal_stringslite_HasPrefix.erase, []) := by kernel_rfl
def gm_internal_stringslite_HasPrefix : Gam := Gam.bot
theorem gk_internal_stringslite_HasPrefix : GamOk Tryd.prog GG gm_internal_stringslite_HasPrefix := GamOk.bot
def lm_internal_stringslite_HasPrefix : Lam := fun _ j S kn ke => match j with
  | _ => .fail
def go_internal_stringslite_HasPrefix (l0 : List Int) (l1 : List Int) : Option Bool :=
  bif (decide ((((List.length l0) : Nat) : Int) ≥ (((List.length l1) : Nat) : Int))) then
   bif (decide ((((List.length l1) : Nat) : Int) ≤ (((List.length l0) : Nat) : Int))) then
    some ((List.take (Int.toNat ((((List.length l1) : Nat) : Int) - 0)) (List.drop 0 l0)) == l1)
   else none
  else
   some false
def em_internal_stringslite_HasPrefix (r : Bool) : PV := (.bool r)
def rh_internal_stringslite_HasPrefix : Shp := .bool
def ra_internal_stringslite_HasPrefix (v : PV) : Bool := v.tru
def kf_internal_stringslite_HasPrefix (v : PV) : Tree Bool := .chk (rh_internal_stringslite_HasPrefix.ok v) (.leaf (ra_internal_stringslite_HasPrefix v))
theorem rn_internal_stringslite_HasPrefix (l0 : List Int) (l1 : List Int) : (ev GG gm_internal_stringslite_HasPrefix lm_internal_stringslite_HasPrefix xr_internal_stringslite_HasPrefix ⟨slots 18 0 [(0, .p (.str l0)), (1, .p (.str l1))], []⟩ (fun S => finT Tryd.prog rs_internal_stringslite_HasPrefix S kf_internal_stringslite_HasPrefix) (retT Tryd.prog rs_internal_stringslite_HasPrefix kf_internal_stringslite_HasPrefix)).run = go_internal_stringslite_HasPrefix l0 l1 := by kernel_rfl
theorem ok_internal_stringslite_HasPrefix (l0 : List Int) (l1 : List Int) (r : Bool) (h : go_internal_stringslite_HasPrefix l0 l1 = some r) : FunEq Tryd.prog GG 67 [(.str l0), (.str l1)] (em_internal_stringslite_HasPrefix r) :=
  fun_of_ev (x := xr_internal_stringslite_HasPrefix) (Λ := lm_internal_stringslite_HasPrefix) gk_internal_stringslite_HasPrefix [] Tryd.func67 rfl (by kernel_rfl) ir_internal_stringslite_HasPrefix (by kernel_rfl) (congrArg Array.toList Tryd.results67) Tryd.ntmps67 (⟨trivial, ⟨trivial, trivial⟩⟩) (leaf_of fun v => (by kernel_rfl : rh_internal_stringslite_HasPrefix.build v = em_internal_stringslite_HasPrefix (ra_internal_stringslite_HasPrefix v))) (by kernel_rfl) ((rn_internal_stringslite_HasPrefix l0 l1).trans h)
def as_internal_stringslite_HasPrefix : List Shp := [.str, .str]
def ga_internal_stringslite_HasPrefix (vs : List PV) : Option Bool := go_internal_stringslite_HasPrefix ((tls 0 vs).headD .nilSl).chars ((tls 1 vs).headD .nilSl).chars
theorem at_internal_stringslite_HasPrefix : FnAt Tryd.prog GG 67 as_internal_stringslite_HasPrefix ga_internal_stringslite_HasPrefix em_internal_stringslite_HasPrefix := fun vs h r hr => by
  have e : Shp.buildL as_internal_stringslite_HasPrefix vs = [(.str ((tls 0 vs).headD .nilSl).chars), (.str ((tls 1 vs).headD .nilSl).chars)] := by kernel_rfl
  rw [← Shp.buildL_eq _ h, e]
  exact .inl ⟨by decide, ok_internal_stringslite_HasPrefix _ _ r hr⟩
def xr_internal_stringslite_TrimPrefix : XR := (.seq (.ops false [⟨⟨(some 4), (.mv (.c (.str []))), none⟩, none⟩]) (.seq (.seq (.ops false [⟨⟨(some 5), (.mv (.tmp 0)), none⟩, none⟩, ⟨⟨(some 6), (.mv (.tmp 1)), none⟩, none⟩, ⟨⟨(some 7), (.call (.func 67) [(.tmp 5), (.tmp 6)]), none⟩, none⟩]) (.cond (.tmp 7) (.seq (.ops false [⟨⟨(some 8), (.mv (.tmp 0)), none⟩, none⟩, ⟨⟨(some 9), (.mv (.tmp 1)), none⟩, none⟩, ⟨⟨(some 10), (.lenS (.tmp 9)), none⟩, none⟩, ⟨⟨(some 11), (.slcS (.tmp 8) (some (.tmp 10)) none), none⟩, none⟩, ⟨⟨(some 4), (.mv (.tmp 11)), none⟩, none⟩]) .ret) .skip)) (.seq (.ops false [⟨⟨(some 12), (.mv (.tmp 0)), none⟩, none⟩, ⟨⟨(some 4), (.mv (.tmp 12)), none⟩, none⟩]) .ret)))
def rs_internal_stringslite_TrimPrefix : List ResultVar := [(.tmp 4)]
theorem ir_internal_stringslite_TrimPrefix : compCode Tryd.prog (Tryd.f59.body.getD .skip) [] = some (xr_internal_stringslite_TrimPrefix.erase, []) := by kernel_rfl
def gm_internal_stringslite_TrimPrefix : Gam := (Gam.fn 67 as_internal_stringslite_HasPrefix ga_internal_stringslite_HasPrefix em_internal_stringslite_HasPrefix Gam.bot)
theorem gk_internal_stringslite_TrimPrefix : GamOk Tryd.prog GG gm_internal_stringslite_TrimPrefix := (GamOk.fn at_internal_stringslite_HasPrefix GamOk.bot)
def lm_internal_stringslite_TrimPrefix : Lam := fun _ j S kn ke => match j with
  | _ => .fail
def go_internal_stringslite_TrimPrefix (l0 : List Int) (l1 : List Int) : Option (List Int) :=
  (go_internal_stringslite_HasPrefix l0 l1).bind fun r2 =>
  bif r2 then
   bif (decide ((((List.length l1) : Nat) : Int) ≤ (((List.length l0) : Nat) : Int))) then
    bif (decide ((((List.length l0) : Nat) : Int) ≤ (((List.length l0) : Nat) : Int))) then
     some (List.take (Int.toNat ((((List.length l0) : Nat) : Int) - (((List.length l1) : Nat) : Int))) (List.drop (Int.toNat (((List.length l1) : Nat) : Int)) l0))
    else none
   else none
  else
   some l0
def em_internal_stringslite_TrimPrefix (r : (List Int)) : PV := (.str r)
def rh_internal_stringslite_TrimPrefix : Shp := .str
def ra_internal_stringslite_TrimPrefix (v : PV) : (List Int) := v.chars
def kf_internal_stringslite_TrimPrefix (v : PV) : Tree (List Int) := .chk (rh_internal_stringslite_TrimPrefix.ok v) (.leaf (ra_internal_stringslite_TrimPrefix v))
theorem rn_internal_stringslite_TrimPrefix (l0 : List Int) (l1 : List Int) : (ev GG gm_internal_stringslite_TrimPrefix lm_internal_stringslite_TrimPrefix xr_internal_stringslite_TrimPrefix ⟨slots 13 0 [(0, .p (.str l0)), (1, .p (.str l1))], []⟩ (fun S => finT Tryd.prog rs_internal_stringslite_TrimPrefix S kf_internal_stringslite_TrimPrefix) (retT Tryd.prog rs_internal_stringslite_TrimPrefix kf_internal_stringslite_TrimPrefix)).run = go_internal_stringslite_TrimPrefix l0 l1 := by kernel_rfl
theorem ok_internal_stringslite_TrimPrefix (l0 : List Int) (l1 : List Int) (r : (List Int)) (h : go_internal_stringslite_TrimPrefix l0 l1 = some r) : FunEq Tryd.prog GG 59 [(.str l0), (.str l1)] (em_internal_stringslite_TrimPrefix r) :=
  fun_of_ev (x := xr_internal_stringslite_TrimPrefix) (Λ := lm_internal_stringslite_TrimPrefix) gk_internal_stringslite_TrimPrefix [] Tryd.func59 rfl (by kernel_rfl) ir_internal_stringslite_TrimPrefix (by kernel_rfl) (congrArg Array.toList Tryd.results59) Tryd.ntmps59 (⟨trivial, ⟨⟨trivial, ⟨⟨trivial, trivial⟩, trivial⟩⟩, ⟨trivial, trivial⟩⟩⟩) (leaf_of fun v => (by kernel_rfl : rh_internal_stringslite_TrimPrefix.build v = em_internal_stringslite_TrimPrefix (ra_internal_stringslite_TrimPrefix v))) (by kernel_rfl) ((rn_internal_stringslite_TrimPrefix l0 l1).trans h)
def as_internal_stringslite_TrimPrefix : List Shp := [.str, .str]
def ga_internal_stringslite_TrimPrefix (vs : List PV) : Option (List Int) := go_internal_stringslite_TrimPrefix ((tls 0 vs).headD .nilSl).chars ((tls 1 vs).headD .nilSl).chars
theorem at_internal_stringslite_TrimPrefix : FnAt Tryd.prog GG 59 as_internal_stringslite_TrimPrefix ga_internal_stringslite_TrimPrefix em_internal_stringslite_TrimPrefix := fun vs h r hr => by
  have e : Shp.buildL as_internal_stringslite_TrimPrefix vs = [(.str ((tls 0 vs).headD .nilSl).chars), (.str ((tls 1 vs).headD .nilSl).chars)] := by kernel_rfl
  rw [← Shp.buildL_eq _ h, e]
  exact .inl ⟨by decide, ok_internal_stringslite_TrimPrefix _ _ r hr⟩
def xr_strings_TrimPrefix : XR := (.seq (.ops false [⟨⟨(some 4), (.mv (.c (.str []))), none⟩, none⟩]) (.seq (.ops false [⟨⟨(some 5), (.mv (.tmp 0)), none⟩, none⟩, ⟨⟨(some 6), (.mv (.tmp 1)), none⟩, none⟩, ⟨⟨(some 7), (.call (.func 59) [(.tmp 5), (.tmp 6)]), none⟩, none⟩, ⟨⟨(some 4), (.mv (.tmp 7)), none⟩, none⟩]) .ret))
def rs_strings_TrimPrefix : List ResultVar := [(.tmp 4)]
theorem ir_strings_TrimPrefix : compCode Tryd.prog (Tryd.f44.body.getD .skip) [] = some (xr_strings_TrimPrefix.erase, []) := by kernel_rfl
def gm_strings_TrimPrefix : Gam := (Gam.fn 59 as_internal_stringslite_TrimPrefix ga_internal_stringslite_TrimPrefix em_internal_stringslite_TrimPrefix Gam.bot)
theorem gk_strings_TrimPrefix : GamOk Tryd.prog GG gm_strings_TrimPrefix := (GamOk.fn at_internal_stringslite_TrimPrefix GamOk.bot)
def lm_strings_TrimPrefix : Lam := fun _ j S kn ke => match j with
  | _ => .fail
def go_strings_TrimPrefix (l0 : List Int) (l1 : List Int) : Option (List Int) :=
  (go_internal_stringslite_TrimPrefix l0 l1).bind fun r2 =>
  some r2
def em_strings_TrimPrefix (r : (List Int)) : PV := (.str r)
def rh_strings_TrimPrefix : Shp := .str
def ra_strings_TrimPrefix (v : PV) : (List Int) := v.chars
def kf_strings_TrimPrefix (v : PV) : Tree (List Int) := .chk (rh_strings_TrimPrefix.ok v) (.leaf (ra_strings_TrimPrefix v))
theorem rn_strings_TrimPrefix (l0 : List Int) (l1 : List Int) : (ev GG gm_strings_TrimPrefix lm_strings_TrimPrefix xr_strings_TrimPrefix ⟨slots 8 0 [(0, .p (.str l0)), (1, .p (.str l1))], []⟩ (fun S => finT Tryd.prog rs_strings_TrimPrefix S kf_strings_TrimPrefix) (retT Tryd.prog rs_strings_TrimPrefix kf_strings_TrimPrefix)).run = go_strings_TrimPrefix l0 l1 := by kernel_rfl
theorem ok_strings_TrimPrefix (l0 : List Int) (l1 : List Int) (r : (List Int)) (h : go_strings_TrimPrefix l0 l1 = some r) : FunEq Tryd.prog GG 44 [(.str l0), (.str l1)] (em_strings_TrimPrefix r) :=
  fun_of_ev (x := xr_strings_TrimPrefix) (Λ := lm_strings_TrimPrefix) gk_strings_TrimPrefix [] Tryd.func44 rfl (by kernel_rfl) ir_strings_TrimPrefix (by kernel_rfl) (congrArg Array.toList Tryd.results44) Tryd.ntmps44 (⟨trivial, ⟨trivial, trivial⟩⟩) (leaf_of fun v => (by kernel_rfl : rh_strings_TrimPrefix.build v = em_strings_TrimPrefix (ra_strings_TrimPrefix v))) (by kernel_rfl) ((rn_strings_TrimPrefix l0 l1).trans h)
def as_strings_TrimPrefix : List Shp := [.str, .str]
def ga_strings_TrimPrefix (vs : List PV) : Option (List Int) := go_strings_TrimPrefix ((tls 0 vs).headD .nilSl).chars ((tls 1 vs).headD .nilSl).chars
theorem at_strings_TrimPrefix : FnAt Tryd.prog GG 44 as_strings_TrimPrefix ga_strings_TrimPrefix em_strings_TrimPrefix := fun vs h r hr => by
  have e : Shp.buildL as_strings_TrimPrefix vs = [(.str ((tls 0 vs).headD .nilSl).chars), (.str ((tls 1 vs).headD .nilSl).chars)] := by kernel_rfl
  rw [← Shp.buildL_eq _ h, e]
  exact .inl ⟨by decide, ok_strings_TrimPrefix _ _ r hr⟩
def xr_flight_number_1 : XR := (.seq (.ops false [⟨⟨(some 2), (.mv (.c (.bool false))), none⟩, none⟩]) (.seq (.ops false [⟨⟨(some 3), (.mv (.tmp 0)), none⟩, none⟩, ⟨⟨(some 4), (.bin .lss (.tmp 3) (.c (.int .i32 (48)))), none⟩, none⟩, ⟨⟨(some 5), (.mv (.tmp 4)), none⟩, none⟩, ⟨⟨(some 6), (.mv (.tmp 0)), (some (5, false))⟩, none⟩, ⟨⟨(some 7), (.bin .gtr (.tmp 6) (.c (.int .i32 (57)))), (some (5, false))⟩, none⟩, ⟨⟨(some 8), (.pick (.tmp 5) (.c (.bool true)) (.tmp 7)), none⟩, none⟩, ⟨⟨(some 2), (.mv (.tmp 8)), none⟩, none⟩]) .ret))
def rs_flight_number_1 : List ResultVar := [(.tmp 2)]
theorem ir_flight_number_1 : compCode Tryd.prog (Tryd.f45.body.getD .skip) [] = some (xr_flight_number_1.erase, []) := by kernel_rfl
def gm_flight_number_1 : Gam := Gam.bot
theorem gk_flight_number_1 : GamOk Tryd.prog GG gm_flight_number_1 := GamOk.bot
def lm_flight_number_1 : Lam := fun _ j S kn ke => match j with
  | _ => .fail
def go_flight_number_1 (n0 : Int) : Option Bool :=
  bif (decide (n0 < 48)) then
   some true
  else
   some (decide (n0 > 57))
def em_flight_number_1 (r : Bool) : PV := (.bool r)
def rh_flight_number_1 : Shp := .bool
def ra_flight_number_1 (v : PV) : Bool := v.tru
def kf_flight_number_1 (v : PV) : Tree Bool := .chk (rh_flight_number_1.ok v) (.leaf (ra_flight_number_1 v))
theorem rn_flight_number_1 (n0 : Int) : (ev GG gm_flight_number_1 lm_flight_number_1 xr_flight_number_1 ⟨slots 9 0 [(0, .p (.int .i32 n0))], []⟩ (fun S => finT Tryd.prog rs_flight_number_1 S kf_flight_number_1) (retT Tryd.prog rs_flight_number_1 kf_flight_number_1)).run = go_flight_number_1 n0 := by kernel_rfl
theorem ok_flight_number_1 (n0 : Int) (r : Bool) (h : go_flight_number_1 n0 = some r) : FunEq Tryd.prog GG 45 [(.int .i32 n0)] (em_flight_number_1 r) :=
  fun_of_ev (x := xr_flight_number_1) (Λ := lm_flight_number_1) gk_flight_number_1 [] Tryd.func45 rfl (by kernel_rfl) ir_flight_number_1 (by kernel_rfl) (congrArg Array.toList Tryd.results45) Tryd.ntmps45 (⟨trivial, ⟨trivial, trivial⟩⟩) (leaf_of fun v => (by kernel_rfl : rh_flight_number_1.build v = em_flight_number_1 (ra_flight_number_1 v))) (by kernel_rfl) ((rn_flight_number_1 n0).trans h)
def as_flight_number_1 : List Shp := [(.int .i32)]
def ga_flight_number_1 (vs : List PV) : Option Bool := go_flight_number_1 ((tls 0 vs).headD .nilSl).num
theorem at_flight_number_1 : FnAt Tryd.prog GG 45 as_flight_number_1 ga_flight_number_1 em_flight_number_1 := fun vs h r hr => by
  have e : Shp.buildL as_flight_number_1 vs = [(.int .i32 ((tls 0 vs).headD .nilSl).num)] := by kernel_rfl
  rw [← Shp.buildL_eq _ h, e]
  exact .inl ⟨by decide, ok_flight_number_1 _ r hr⟩
def xb_strings_indexFunc_0 : XR := (.seq (.ops false [⟨⟨(some 11), (.fx (.nextS (.tmp 10))), none⟩, none⟩, ⟨⟨(some 12), (.ext (.tmp 11) 0), none⟩, none⟩]) (.seq (.cond (.tmp 12) .skip (.exit 0)) (.block 1 (.seq (.ops false [⟨⟨(some 13), (.ext (.tmp 11) 1), none⟩, none⟩, ⟨⟨(some 14), (.ext (.tmp 11) 2), none⟩, none⟩, ⟨⟨(some 7), (.mv (.tmp 13)), none⟩, none⟩, ⟨⟨(some 8), (.mv (.tmp 14)), none⟩, none⟩]) (.seq (.ops false [⟨⟨(some 15), (.mv (.tmp 1)), none⟩, none⟩, ⟨⟨(some 16), (.mv (.tmp 8)), none⟩, none⟩, ⟨⟨(some 17), (.call (.tmp 15) [(.tmp 16)]), none⟩, none⟩, ⟨⟨(some 18), (.mv (.tmp 2)), none⟩, none⟩, ⟨⟨(some 19), (.binB false (.tmp 17) (.tmp 18)), none⟩, none⟩]) (.cond (.tmp 19) (.seq (.ops false [⟨⟨(some 20), (.mv (.tmp 7)), none⟩, none⟩, ⟨⟨(some 6), (.mv (.tmp 20)), none⟩, none⟩]) .ret) .skip))))))
def xr_strings_indexFunc : XR := (.seq (.ops false [⟨⟨(some 6), (.mv (.c (.int .i64 (0)))), none⟩, none⟩]) (.seq (.seq (.ops false [⟨⟨(some 9), (.mv (.tmp 0)), none⟩, none⟩, ⟨⟨(some 10), (.fx (.rngS (.tmp 9))), none⟩, none⟩]) (.block 0 (.loop 0 [1, 2, 10] xb_strings_indexFunc_0))) (.seq (.ops false [⟨⟨(some 6), (.mv (.c (.int .i64 (-1)))), none⟩, none⟩]) .ret)))
def rs_strings_indexFunc : List ResultVar := [(.tmp 6)]
theorem ir_strings_indexFunc : compCode Tryd.prog (Tryd.f68.body.getD .skip) [[1, 2, 10]] = some (xr_strings_indexFunc.erase, []) := by kernel_rfl
def gm_strings_indexFunc : Gam := (Gam.fn 45 as_flight_number_1 ga_flight_number_1 em_flight_number_1 Gam.bot)
theorem gk_strings_indexFunc : GamOk Tryd.prog GG gm_strings_indexFunc := (GamOk.fn at_flight_number_1 GamOk.bot)
def st_strings_indexFunc_0 (b2 : Bool) (l3 : List Int) (i4 : Nat) : Option (((Bool × List Int × Nat)) ⊕ ((Unit) ⊕ (Int))) :=
  bif (decide (i4 < (List.length l3))) then
   (go_flight_number_1 (runeAt l3 i4)).bind fun r5 =>
   bif (r5 == b2) then
    some (Sum.inr (Sum.inr ((i4 : Nat) : Int)))
   else
    some (Sum.inl (b2, l3, (i4 + (runeLen l3 i4))))
  else
   some (Sum.inr (Sum.inl ()))
def lp_strings_indexFunc_0 (b2 : Bool) (l3 : List Int) (i4 : Nat) : Option ((Unit) ⊕ (Int)) := loopN (X := (Bool × List Int × Nat)) (fun x => st_strings_indexFunc_0 x.1 x.2.1 x.2.2) (b2, l3, i4)
def sh_strings_indexFunc_0 : StSh := ⟨21, [(1, (.p (.fn 45 []))), (2, (.p .bool)), (10, (.ptr 0 0))], [.iter]⟩
def sx_strings_indexFunc_0 (x : (Bool × List Int × Nat)) : St := ⟨slots 21 0 [(1, (.p (.fn 45 []))), (2, (.p (.bool x.1))), (10, (.ptr 0 0))], [(.iter x.2.1 x.2.2)]⟩
def sa_strings_indexFunc_0 (S : St) : (Bool × List Int × Nat) := (((tls 2 S.t).headD .any).pv.tru, ((tls 0 S.own).headD .gone).pvD.ints, ((tls 0 S.own).headD .gone).pvD.idx)
def tz_strings_indexFunc_0_1 : StSh := ⟨21, [(6, (.p (.int .i64)))], []⟩
def tx_strings_indexFunc_0_1 (x : Int) : St := ⟨slots 21 0 [(6, (.p (.int .i64 x)))], []⟩
def ta_strings_indexFunc_0_1 (S : St) : Int := ((tls 6 S.t).headD .any).pv.num
def tz_strings_indexFunc_0_0 : StSh := ⟨21, [], []⟩
def tx_strings_indexFunc_0_0 (x : Unit) : St := ⟨slots 21 0 [], []⟩
def ta_strings_indexFunc_0_0 (S : St) : Unit := ()
def kb_strings_indexFunc_0 : Exit → St → Tree (((Bool × List Int × Nat)) ⊕ ((Unit) ⊕ (Int))) := (exOne (.exit 0) [] tz_strings_indexFunc_0_0 ta_strings_indexFunc_0_0 (fun y => Sum.inr ((Sum.inl y))) (exOne .ret [6] tz_strings_indexFunc_0_1 ta_strings_indexFunc_0_1 (fun y => Sum.inr ((Sum.inr y))) exNil))
def ky_strings_indexFunc_0 : Dec ((Unit) ⊕ (Int)) := fun _ y ke => .sum y (fun a => ke ((.exit 0) : EK).ex (tx_strings_indexFunc_0_0 a)) (fun y' => ke (.ret : EK).ex (tx_strings_indexFunc_0_1 y'))
theorem kk_strings_indexFunc_0 : ExOk Sum.inr kb_strings_indexFunc_0 ky_strings_indexFunc_0 := (ExOk.one (acc := ta_strings_indexFunc_0_0) (bY := tx_strings_indexFunc_0_0) (inj1 := fun y => (Sum.inl y)) (fun S => by kernel_rfl) (fun y _ ke => .inr (by kernel_rfl)) (ExOk.one (acc := ta_strings_indexFunc_0_1) (bY := tx_strings_indexFunc_0_1) (inj1 := fun y => (Sum.inr y)) (fun S => by kernel_rfl) (fun y _ ke => .inr (by kernel_rfl)) ExOk.nil))
def lm_strings_indexFunc : Lam := fun _ j S kn ke => match j with
  | 0 => prepT [1, 2, 10] [] S fun S => .chk (sh_strings_indexFunc_0.ok S) (.bind (loopN (fun x => st_strings_indexFunc_0 x.1 x.2.1 x.2.2) (sa_strings_indexFunc_0 S)) fun y => ky_strings_indexFunc_0 _ y ke)
  | _ => .fail
theorem sr_strings_indexFunc_0 (x : (Bool × List Int × Nat)) : (ev GG gm_strings_indexFunc lm_strings_indexFunc xb_strings_indexFunc_0 (sx_strings_indexFunc_0 x) (fun S => forgetT [1, 2, 10] S fun S => prepT [1, 2, 10] [] S fun S => .chk (sh_strings_indexFunc_0.ok S) (.leaf (.inl (sa_strings_indexFunc_0 S)))) kb_strings_indexFunc_0).run = st_strings_indexFunc_0 x.1 x.2.1 x.2.2 := by kernel_rfl
theorem la_strings_indexFunc_0 : LamAt Tryd.prog GG lm_strings_indexFunc 0 (.loop [1, 2, 10] xb_strings_indexFunc_0.erase) := lam_loop (body := xb_strings_indexFunc_0) (Λ' := lm_strings_indexFunc) gk_strings_indexFunc (⟨trivial, ⟨⟨trivial, trivial⟩, ⟨trivial, ⟨trivial, ⟨⟨trivial, trivial⟩, trivial⟩⟩⟩⟩⟩) (fun S => (by kernel_rfl : sh_strings_indexFunc_0.build S = sx_strings_indexFunc_0 (sa_strings_indexFunc_0 S))) kk_strings_indexFunc_0 sr_strings_indexFunc_0 (fun _ _ _ => rfl)
def go_strings_indexFunc (l0 : List Int) (b1 : Bool) : Option Int :=
  (lp_strings_indexFunc_0 b1 l0 0).bind fun y6 =>
  Sum.elim (fun z7 =>
   some (-1)) (fun z8 =>
   some z8) y6
def em_strings_indexFunc (r : Int) : PV := (.int .i64 r)
def rh_strings_indexFunc : Shp := (.int .i64)
def ra_strings_indexFunc (v : PV) : Int := v.num
def kf_strings_indexFunc (v : PV) : Tree Int := .chk (rh_strings_indexFunc.ok v) (.leaf (ra_strings_indexFunc v))
theorem rn_strings_indexFunc (l0 : List Int) (b1 : Bool) : (ev GG gm_strings_indexFunc lm_strings_indexFunc xr_strings_indexFunc ⟨slots 21 0 [(0, .p (.str l0)), (1, .p (.fn 45 [])), (2, .p (.bool b1))], []⟩ (fun S => finT Tryd.prog rs_strings_indexFunc S kf_strings_indexFunc) (retT Tryd.prog rs_strings_indexFunc kf_strings_indexFunc)).run = go_strings_indexFunc l0 b1 := by kernel_rfl
theorem ok_strings_indexFunc (l0 : List Int) (b1 : Bool) (r : Int) (h : go_strings_indexFunc l0 b1 = some r) : FunEq Tryd.prog GG 68 [(.str l0), (.fn 45 []), (.bool b1)] (em_strings_indexFunc r) :=
  fun_of_ev (x := xr_strings_indexFunc) (Λ := lm_strings_indexFunc) gk_strings_indexFunc [[1, 2, 10]] Tryd.func68 rfl (by kernel_rfl) ir_strings_indexFunc (by kernel_rfl) (congrArg Array.toList Tryd.results68) Tryd.ntmps68 (⟨trivial, ⟨⟨trivial, la_strings_indexFunc_0⟩, ⟨trivial, trivial⟩⟩⟩) (leaf_of fun v => (by kernel_rfl : rh_strings_indexFunc.build v = em_strings_indexFunc (ra_strings_indexFunc v))) (by kernel_rfl) ((rn_strings_indexFunc l0 b1).trans h)
def as_strings_indexFunc : List Shp := [.str, (.fn 45 []), .bool]
def ga_strings_indexFunc (vs : List PV) : Option Int := go_strings_indexFunc ((tls 0 vs).headD .nilSl).chars ((tls 2 vs).headD .nilSl).tru
theorem at_strings_indexFunc : FnAt Tryd.prog GG 68 as_strings_indexFunc ga_strings_indexFunc em_strings_indexFunc := fun vs h r hr => by
  have e : Shp.buildL as_strings_indexFunc vs = [(.str ((tls 0 vs).headD .nilSl).chars), (.fn 45 []), (.bool ((tls 2 vs).headD .nilSl).tru)] := by kernel_rfl
  rw [← Shp.buildL_eq _ h, e]
  exact .inl ⟨by decide, ok_strings_indexFunc _ _ r hr⟩
def xr_strings_IndexFunc : XR := (.seq (.ops false [⟨⟨(some 4), (.mv (.c (.int .i64 (0)))), none⟩, none⟩]) (.seq (.ops false [⟨⟨(some 5), (.mv (.tmp 0)), none⟩, none⟩, ⟨⟨(some 6), (.mv (.tmp 1)), none⟩, none⟩, ⟨⟨(some 7), (.call (.func 68) [(.tmp 5), (.tmp 6), (.c (.bool true))]), none⟩, none⟩, ⟨⟨(some 4), (.mv (.tmp 7)), none⟩, none⟩]) .ret))
def rs_strings_IndexFunc : List ResultVar := [(.tmp 4)]
theorem ir_strings_IndexFunc : compCode Tryd.prog (Tryd.f60.body.getD .skip) [] = some (xr_strings_IndexFunc.erase, []) := by kernel_rfl
def gm_strings_IndexFunc : Gam := (Gam.fn 68 as_strings_indexFunc ga_strings_indexFunc em_strings_indexFunc Gam.bot)
theorem gk_strings_IndexFunc : GamOk Tryd.prog GG gm_strings_IndexFunc := (GamOk.fn at_strings_indexFunc GamOk.bot)
def lm_strings_IndexFunc : Lam := fun _ j S kn ke => match j with
  | _ => .fail
def go_strings_IndexFunc (l0 : List Int) : Option Int :=
  (go_strings_indexFunc l0 true).bind fun r1 =>
  some r1
def em_strings_IndexFunc (r : Int) : PV := (.int .i64 r)
def rh_strings_IndexFunc : Shp := (.int .i64)
def ra_strings_IndexFunc (v : PV) : Int := v.num
def kf_strings_IndexFunc (v : PV) : Tree Int := .chk (rh_strings_IndexFunc.ok v) (.leaf (ra_strings_IndexFunc v))
theorem rn_strings_IndexFunc (l0 : List Int) : (ev GG gm_strings_IndexFunc lm_strings_IndexFunc xr_strings_IndexFunc ⟨slots 8 0 [(0, .p (.str l0)), (1, .p (.fn 45 []))], []⟩ (fun S => finT Tryd.prog rs_strings_IndexFunc S kf_strings_IndexFunc) (retT Tryd.prog rs_strings_IndexFunc kf_strings_IndexFunc)).run = go_strings_IndexFunc l0 := by kernel_rfl
theorem ok_strings_IndexFunc (l0 : List Int) (r : Int) (h : go_strings_IndexFunc l0 = some r) : FunEq Tryd.prog GG 60 [(.str l0), (.fn 45 [])] (em_strings_IndexFunc r) :=
  fun_of_ev (x := xr_strings_IndexFunc) (Λ := lm_strings_IndexFunc) gk_strings_IndexFunc [] Tryd.func60 rfl (by kernel_rfl) ir_strings_IndexFunc (by kernel_rfl) (congrArg Array.toList Tryd.results60) Tryd.ntmps60 (⟨trivial, ⟨trivial, trivial⟩⟩) (leaf_of fun v => (by kernel_rfl : rh_strings_IndexFunc.build v = em_strings_IndexFunc (ra_strings_IndexFunc v))) (by kernel_rfl) ((rn_strings_IndexFunc l0).trans h)
def as_strings_IndexFunc : List Shp := [.str, (.fn 45 [])]
def ga_strings_IndexFunc (vs : List PV) : Option Int := go_strings_IndexFunc ((tls 0 vs).headD .nilSl).chars
theorem at_strings_IndexFunc : FnAt Tryd.prog GG 60 as_strings_IndexFunc ga_strings_IndexFunc em_strings_IndexFunc := fun vs h r hr => by
  have e : Shp.buildL as_strings_IndexFunc vs = [(.str ((tls 0 vs).headD .nilSl).chars), (.fn 45 [])] := by kernel_rfl
  rw [← Shp.buildL_eq _ h, e]
  exact .inl ⟨by decide, ok_strings_IndexFunc _ r hr⟩
def xr_strings_ContainsFunc : XR := (.seq (.ops false [⟨⟨(some 4), (.mv (.c (.bool false))), none⟩, none⟩]) (.seq (.ops false [⟨⟨(some 5), (.mv (.tmp 0)), none⟩, none⟩, ⟨⟨(some 6), (.mv (.tmp 1)), none⟩, none⟩, ⟨⟨(some 7), (.call (.func 60) [(.tmp 5), (.tmp 6)]), none⟩, none⟩, ⟨⟨(some 8), (.bin .geq (.tmp 7) (.c (.int .i64 (0)))), none⟩, none⟩, ⟨⟨(some 4), (.mv (.tmp 8)), none⟩, none⟩]) .ret))
def rs_strings_ContainsFunc : List ResultVar := [(.tmp 4)]
theorem ir_strings_ContainsFunc : compCode Tryd.prog (Tryd.f46.body.getD .skip) [] = some (xr_strings_ContainsFunc.erase, []) := by kernel_rfl
def gm_strings_ContainsFunc : Gam := (Gam.fn 60 as_strings_IndexFunc ga_strings_IndexFunc em_strings_IndexFunc Gam.bot)
theorem gk_strings_ContainsFunc : GamOk Tryd.prog GG gm_strings_ContainsFunc := (GamOk.fn at_strings_IndexFunc GamOk.bot)
def lm_strings_ContainsFunc : Lam := fun _ j S kn ke => match j with
  | _ => .fail
def go_strings_ContainsFunc (l0 : List Int) : Option Bool :=
  (go_strings_IndexFunc l0).bind fun r1 =>
  some (decide (r1 ≥ 0))
def em_strings_ContainsFunc (r : Bool) : PV := (.bool r)
def rh_strings_ContainsFunc : Shp := .bool
def ra_strings_ContainsFunc (v : PV) : Bool := v.tru
def kf_strings_ContainsFunc (v : PV) : Tree Bool := .chk (rh_strings_ContainsFunc.ok v) (.leaf (ra_strings_ContainsFunc v))
theorem rn_strings_ContainsFunc (l0 : List Int) : (ev GG gm_strings_ContainsFunc lm_strings_ContainsFunc xr_strings_ContainsFunc ⟨slots 9 0 [(0, .p (.str l0)), (1, .p (.fn 45 []))], []⟩ (fun S => finT Tryd.prog rs_strings_ContainsFunc S kf_strings_ContainsFunc) (retT Tryd.prog rs_strings_ContainsFunc kf_strings_ContainsFunc)).run = go_strings_ContainsFunc l0 := by kernel_rfl
theorem ok_strings_ContainsFunc (l0 : List Int) (r : Bool) (h : go_strings_ContainsFunc l0 = some r) : FunEq Tryd.prog GG 46 [(.str l0), (.fn 45 [])] (em_strings_ContainsFunc r) :=
  fun_of_ev (x := xr_strings_ContainsFunc) (Λ := lm_strings_ContainsFunc) gk_strings_ContainsFunc [] Tryd.func46 rfl (by kernel_rfl) ir_strings_ContainsFunc (by kernel_rfl) (congrArg Array.toList Tryd.results46) Tryd.ntmps46 (⟨trivial, ⟨trivial, trivial⟩⟩) (leaf_of fun v => (by kernel_rfl : rh_strings_ContainsFunc.build v = em_strings_ContainsFunc (ra_strings_ContainsFunc v))) (by kernel_rfl) ((rn_strings_ContainsFunc l0).trans h)
def as_strings_ContainsFunc : List Shp := [.str, (.fn 45 [])]
def ga_strings_ContainsFunc (vs : List PV) : Option Bool := go_strings_ContainsFunc ((tls 0 vs).headD .nilSl).chars
theorem at_strings_ContainsFunc : FnAt Tryd.prog GG 46 as_strings_ContainsFunc ga_strings_ContainsFunc em_strings_ContainsFunc := fun vs h r hr => by
  have e : Shp.buildL as_strings_ContainsFunc vs = [(.str ((tls 0 vs).headD .nilSl).chars), (.fn 45 [])] := by kernel_rfl
  rw [← Shp.buildL_eq _ h, e]
  exact .inl ⟨by decide, ok_strings_ContainsFunc _ r hr⟩
def xr_flight_number : XR := (.seq (.ops false [⟨⟨(some 2), (.mv (.c (.int .i64 (0)))), none⟩, none⟩, ⟨⟨(some 3), (.mv (.c (.bool false))), none⟩, none⟩]) (.seq (.ops false [⟨⟨(some 8), (.mv (.tmp 0)), none⟩, none⟩, ⟨⟨(some 9), (.call (.func 44) [(.tmp 8), (.c (.str [(45)]))]), none⟩, none⟩, ⟨⟨(some 4), (.mv (.tmp 9)), none⟩, none⟩]) (.seq (.ops false [⟨⟨(some 5), (.mv (.func 45)), none⟩, none⟩]) (.seq (.seq (.ops false [⟨⟨(some 10), (.mv (.tmp 4)), none⟩, none⟩, ⟨⟨(some 11), (.binS .eql (.tmp 10) (.c (.str []))), none⟩, none⟩, ⟨⟨(some 12), (.mv (.tmp 11)), none⟩, none⟩, ⟨⟨(some 13), (.mv (.tmp 4)), (some (12, false))⟩, none⟩, ⟨⟨(some 14), (.lenS (.tmp 13)), (some (12, false))⟩, none⟩, ⟨⟨(some 15), (.bin .gtr (.tmp 14) (.c (.int .i64 (16)))), (some (12, false))⟩, none⟩, ⟨⟨(some 16), (.pick (.tmp 12) (.c (.bool true)) (.tmp 15)), none⟩, none⟩, ⟨⟨(some 17), (.mv (.tmp 16)), none⟩, none⟩, ⟨⟨(some 18), (.mv (.tmp 4)), (some (17, false))⟩, none⟩, ⟨⟨(some 19), (.mv (.tmp 5)), (some (17, false))⟩, none⟩, ⟨⟨(some 20), (.call (.func 46) [(.tmp 18), (.tmp 19)]), (some (17, false))⟩, none⟩, ⟨⟨(some 21), (.pick (.tmp 17) (.c (.bool true)) (.tmp 20)), none⟩, none⟩, ⟨⟨(some 22), (.mv (.tmp 21)), none⟩, none⟩, ⟨⟨(some 23), (.mv (.tmp 4)), (some (22, false))⟩, none⟩, ⟨⟨(some 24), (.ixS (.tmp 23) (.c (.int .i64 (0)))), (some (22, false))⟩, none⟩, ⟨⟨(some 25), (.bin .eql (.tmp 24) (.c (.int .u8 (48)))), (some (22, false))⟩, none⟩, ⟨⟨(some 26), (.mv (.tmp 25)), (some (22, false))⟩, none⟩, ⟨⟨(some 27), (.mv (.tmp 0)), (some (26, true))⟩, none⟩, ⟨⟨(some 28), (.binS .neq (.tmp 27) (.c (.str [(48)]))), (some (26, true))⟩, none⟩, ⟨⟨(some 29), (.pick (.tmp 26) (.tmp 28) (.c (.bool false))), (some (22, false))⟩, none⟩, ⟨⟨(some 30), (.pick (.tmp 22) (.c (.bool true)) (.tmp 29)), none⟩, none⟩]) (.cond (.tmp 30) (.seq (.ops false [⟨⟨(some 2), (.mv (.c (.int .i64 (0)))), none⟩, none⟩, ⟨⟨(some 3), (.mv (.c (.bool false))), none⟩, none⟩]) .ret) .skip)) (.seq (.ops false [⟨⟨(some 32), (.mv (.tmp 0)), none⟩, none⟩, ⟨⟨(some 33), (.call (.func 47) [(.tmp 32)]), none⟩, none⟩, ⟨⟨(some 31), (.mv (.tmp 33)), none⟩, none⟩, ⟨⟨(some 34), (.ext (.tmp 31) 0), none⟩, none⟩, ⟨⟨(some 35), (.ext (.tmp 31) 1), none⟩, none⟩, ⟨⟨(some 6), (.mv (.tmp 34)), none⟩, none⟩, ⟨⟨(some 7), (.mv (.tmp 35)), none⟩, none⟩]) (.seq (.ops true [⟨⟨(some 36), (.mv (.tmp 6)), none⟩, none⟩, ⟨⟨(some 37), (.mv (.tmp 7)), none⟩, none⟩, ⟨⟨(some 38), (.eqNilI false (.tmp 37)), none⟩, none⟩, ⟨⟨(some 2), (.mv (.tmp 36)), none⟩, none⟩, ⟨⟨(some 3), (.mv (.tmp 38)), none⟩, none⟩]) .ret))))))
def rs_flight_number : List ResultVar := [(.tmp 2), (.tmp 3)]
theorem ir_flight_number : compCode Tryd.prog (Tryd.f34.body.getD .skip) [] = some (xr_flight_number.erase, []) := by kernel_rfl
def gm_flight_number : Gam := (Gam.fn 44 as_strings_TrimPrefix ga_strings_TrimPrefix em_strings_TrimPrefix (Gam.fn 46 as_strings_ContainsFunc ga_strings_ContainsFunc em_strings_ContainsFunc (Gam.fn 47 as_strconv_Atoi ga_strconv_Atoi em_strconv_Atoi Gam.bot)))
theorem gk_flight_number : GamOk Tryd.prog GG gm_flight_number := (GamOk.fn at_strings_TrimPrefix (GamOk.fn at_strings_ContainsFunc (GamOk.fn at_strconv_Atoi GamOk.bot)))
def lm_flight_number : Lam := fun _ j S kn ke => match j with
  | _ => .fail
def go_flight_number (l0 : List Int) : Option (Int × Bool) :=
  (go_strings_TrimPrefix l0 [45]).bind fun r1 =>
  bif (r1 == []) then
   some (0, false)
  else
   bif (decide ((((List.length r1) : Nat) : Int) > 16)) then
    some (0, false)
   else
    (go_strings_ContainsFunc r1).bind fun r2 =>
    bif r2 then
     some (0, false)
    else
     bif (decide (0 < (((List.length r1) : Nat) : Int))) then
      bif ((List.getD r1 0 0) == 48) then
       bif (!(l0 == [48])) then
        some (0, false)
       else
        (go_strconv_Atoi l0).bind fun r3 =>
        some (r3, true)
      else
       (go_strconv_Atoi l0).bind fun r4 =>
       some (r4, true)
     else none
def em_flight_number (r : (Int × Bool)) : PV := (.tup [(.int .i64 r.1), (.bool r.2)])
def rh_flight_number : Shp := (.tup [(.int .i64), .bool])
def ra_flight_number (v : PV) : (Int × Bool) := ((v.subs.headD .nilSl).num, (v.subs.tail.headD .nilSl).tru)
def kf_flight_number (v : PV) : Tree (Int × Bool) := .chk (rh_flight_number.ok v) (.leaf (ra_flight_number v))
theorem rn_flight_number (l0 : List Int) : (ev GG gm_flight_number lm_flight_number xr_flight_number ⟨slots 39 0 [(0, .p (.str l0))], []⟩ (fun S => finT Tryd.prog rs_flight_number S kf_flight_number) (retT Tryd.prog rs_flight_number kf_flight_number)).run = go_flight_number l0 := by kernel_rfl
theorem ok_flight_number (l0 : List Int) (r : (Int × Bool)) (h : go_flight_number l0 = some r) : FunEq Tryd.prog GG 34 [(.str l0)] (em_flight_number r) :=
  fun_of_ev (x := xr_flight_number) (Λ := lm_flight_number) gk_flight_number [] Tryd.func34 rfl (by kernel_rfl) ir_flight_number (by kernel_rfl) (congrArg Array.toList Tryd.results34) Tryd.ntmps34 (⟨trivial, ⟨trivial, ⟨trivial, ⟨⟨trivial, ⟨⟨trivial, trivial⟩, trivial⟩⟩, ⟨trivial, ⟨trivial, trivial⟩⟩⟩⟩⟩⟩) (leaf_of fun v => (by kernel_rfl : rh_flight_number.build v = em_flight_number (ra_flight_number v))) (by kernel_rfl) ((rn_flight_number l0).trans h)
def as_flight_number : List Shp := [.str]
def ga_flight_number (vs : List PV) : Option (Int × Bool) := go_flight_number ((tls 0 vs).headD .nilSl).chars
theorem at_flight_number : FnAt Tryd.prog GG 34 as_flight_number ga_flight_number em_flight_number := fun vs h r hr => by
  have e : Shp.buildL as_flight_number vs = [(.str ((tls 0 vs).headD .nilSl).chars)] := by kernel_rfl
  rw [← Shp.buildL_eq _ h, e]
  exact .inl ⟨by decide, ok_flight_number _ r hr⟩
def xr_flight_readers_2 : XR := (.seq (.ops false [⟨⟨(some 2), (.alloc 35 [(.str []), (.isl true true .u8 []), (.int .i64 (0)), (.int .i64 (0)), (.int .i64 (0))]), none⟩, none⟩, ⟨⟨(some 3), (.mv (.c (.bool false))), none⟩, none⟩]) (.seq (.seq (.ops false [⟨⟨(some 10), (.mv (.tmp 0)), none⟩, none⟩, ⟨⟨(some 11), (.len (.tmp 10)), none⟩, none⟩, ⟨⟨(some 12), (.bin .neq (.tmp 11) (.c (.int .i64 (3)))), none⟩, none⟩]) (.cond (.tmp 12) (.seq (.ops false [⟨⟨(some 13), (.build [(.str []), (.isl true true .u8 []), (.int .i64 (0)), (.int .i64 (0)), (.int .i64 (0))] []), none⟩, none⟩, ⟨⟨none, (.st 5 (.tmp 2) (.tmp 13)), none⟩, none⟩, ⟨⟨(some 3), (.mv (.c (.bool false))), none⟩, none⟩]) .ret) .skip)) (.seq (.ops false [⟨⟨(some 15), (.mv (.tmp 0)), none⟩, none⟩, ⟨⟨(some 16), (.ixA 1 (.tmp 15) (.c (.int .i64 (0)))), none⟩, none⟩, ⟨⟨(some 17), (.ld false 1 (.tmp 16)), none⟩, (some .str)⟩, ⟨⟨(some 18), (.call (.func 34) [(.tmp 17)]), none⟩, none⟩, ⟨⟨(some 14), (.mv (.tmp 18)), none⟩, none⟩, ⟨⟨(some 19), (.ext (.tmp 14) 0), none⟩, none⟩, ⟨⟨(some 20), (.ext (.tmp 14) 1), none⟩, none⟩, ⟨⟨(some 4), (.mv (.tmp 19)), none⟩, none⟩, ⟨⟨(some 5), (.mv (.tmp 20)), none⟩, none⟩]) (.seq (.ops false [⟨⟨(some 22), (.mv (.tmp 0)), none⟩, none⟩, ⟨⟨(some 23), (.ixA 1 (.tmp 22) (.c (.int .i64 (1)))), none⟩, none⟩, ⟨⟨(some 24), (.ld false 1 (.tmp 23)), none⟩, (some .str)⟩, ⟨⟨(some 25), (.call (.func 34) [(.tmp 24)]), none⟩, none⟩, ⟨⟨(some 21), (.mv (.tmp 25)), none⟩, none⟩, ⟨⟨(some 26), (.ext (.tmp 21) 0), none⟩, none⟩, ⟨⟨(some 27), (.ext (.tmp 21) 1), none⟩, none⟩, ⟨⟨(some 6), (.mv (.tmp 26)), none⟩, none⟩, ⟨⟨(some 7), (.mv (.tmp 27)), none⟩, none⟩]) (.seq (.ops false [⟨⟨(some 29), (.mv (.tmp 0)), none⟩, none⟩, ⟨⟨(some 30), (.ixA 1 (.tmp 29) (.c (.int .i64 (2)))), none⟩, none⟩, ⟨⟨(some 31), (.ld false 1 (.tmp 30)), none⟩, (some .str)⟩, ⟨⟨(some 32), (.call (.func 34) [(.tmp 31)]), none⟩, none⟩, ⟨⟨(some 28), (.mv (.tmp 32)), none⟩, none⟩, ⟨⟨(some 33), (.ext (.tmp 28) 0), none⟩, none⟩, ⟨⟨(some 34), (.ext (.tmp 28) 1), none⟩, none⟩, ⟨⟨(some 8), (.mv (.tmp 33)), none⟩, none⟩, ⟨⟨(some 9), (.mv (.tmp 34)), none⟩, none⟩]) (.seq (.ops false [⟨⟨(some 35), (.mv (.tmp 4)), none⟩, none⟩, ⟨⟨(some 36), (.mv (.tmp 6)), none⟩, none⟩, ⟨⟨(some 37), (.mv (.tmp 8)), none⟩, none⟩, ⟨⟨(some 38), (.build [(.str []), (.isl true true .u8 []), (.int .i64 (0)), (.int .i64 (0)), (.int .i64 (0))] [(2, (1, (.tmp 35))), (3, (1, (.tmp 36))), (4, (1, (.tmp 37)))]), none⟩, none⟩, ⟨⟨(some 39), (.mv (.tmp 5)), none⟩, none⟩, ⟨⟨(some 40), (.mv (.tmp 39)), none⟩, none⟩, ⟨⟨(some 41), (.mv (.tmp 7)), (some (40, true))⟩, none⟩, ⟨⟨(some 42), (.pick (.tmp 40) (.tmp 41) (.c (.bool false))), none⟩, none⟩, ⟨⟨(some 43), (.mv (.tmp 42)), none⟩, none⟩, ⟨⟨(some 44), (.mv (.tmp 9)), (some (43, true))⟩, none⟩, ⟨⟨(some 45), (.pick (.tmp 43) (.tmp 44) (.c (.bool false))), none⟩, none⟩, ⟨⟨none, (.st 5 (.tmp 2) (.tmp 38)), none⟩, none⟩, ⟨⟨(some 3), (.mv (.tmp 45)), none⟩, none⟩]) .ret))))))
def rs_flight_readers_2 : List ResultVar := [(.cell 2 35), (.tmp 3)]
theorem ir_flight_readers_2 : compCode Tryd.prog (Tryd.f33.body.getD .skip) [] = some (xr_flight_readers_2.erase, []) := by kernel_rfl
def gm_flight_readers_2 : Gam := (Gam.fn 34 as_flight_number ga_flight_number em_flight_number Gam.bot)
theorem gk_flight_readers_2 : GamOk Tryd.prog GG gm_flight_readers_2 := (GamOk.fn at_flight_number GamOk.bot)
def lm_flight_readers_2 : Lam := fun _ j S kn ke => match j with
  | _ => .fail
def go_flight_readers_2 (b0 : Bool) (b1 : Bool) (es2 : List PV) : Option (List Int × Bool × Bool × List Int × Int × Int × Int × Bool) :=
  bif ((((List.length es2) : Nat) : Int) != 3) then
   some ([], true, true, [], 0, 0, 0, false)
  else
   bif (decide (0 < (((List.length es2) : Nat) : Int))) then
    bif (decide (0 < (List.length es2))) then
     bif (PV.scal (List.getD es2 0 .nilSl)) then
      bif (Shp.ok .str (List.getD es2 0 .nilSl)) then
       (go_flight_number (PV.chars (List.getD es2 0 .nilSl))).bind fun r3 =>
       bif (decide (1 < (((List.length es2) : Nat) : Int))) then
        bif (decide (1 < (List.length es2))) then
         bif (PV.scal (List.getD es2 1 .nilSl)) then
          bif (Shp.ok .str (List.getD es2 1 .nilSl)) then
           (go_flight_number (PV.chars (List.getD es2 1 .nilSl))).bind fun r4 =>
           bif (decide (2 < (((List.length es2) : Nat) : Int))) then
            bif (decide (2 < (List.length es2))) then
             bif (PV.scal (List.getD es2 2 .nilSl)) then
              bif (Shp.ok .str (List.getD es2 2 .nilSl)) then
               (go_flight_number (PV.chars (List.getD es2 2 .nilSl))).bind fun r5 =>
               bif r3.2 then
                bif r4.2 then
                 some ([], true, true, [], r3.1, r4.1, r5.1, r5.2)
                else
                 some ([], true, true, [], r3.1, r4.1, r5.1, false)
               else
                some ([], true, true, [], r3.1, r4.1, r5.1, false)
              else none
             else none
            else none
           else none
          else none
         else none
        else none
       else none
      else none
     else none
    else none
   else none
def em_flight_readers_2 (r : (List Int × Bool × Bool × List Int × Int × Int × Int × Bool)) : PV := (.tup [(.agg [(.str r.1), (.isl r.2.1 r.2.2.1 .u8 r.2.2.2.1), (.int .i64 r.2.2.2.2.1), (.int .i64 r.2.2.2.2.2.1), (.int .i64 r.2.2.2.2.2.2.1)]), (.bool r.2.2.2.2.2.2.2)])
def rh_flight_readers_2 : Shp := (.tup [(.agg [.str, (.isl .u8), (.int .i64), (.int .i64), (.int .i64)]), .bool])
def ra_flight_readers_2 (v : PV) : (List Int × Bool × Bool × List Int × Int × Int × Int × Bool) := (((v.subs.headD .nilSl).subs.headD .nilSl).chars, ((v.subs.headD .nilSl).subs.tail.headD .nilSl).nl, ((v.subs.headD .nilSl).subs.tail.headD .nilSl).ex, ((v.subs.headD .nilSl).subs.tail.headD .nilSl).ints, ((v.subs.headD .nilSl).subs.tail.tail.headD .nilSl).num, ((v.subs.headD .nilSl).subs.tail.tail.tail.headD .nilSl).num, ((v.subs.headD .nilSl).subs.tail.tail.tail.tail.headD .nilSl).num, (v.subs.tail.headD .nilSl).tru)
def kf_flight_readers_2 (v : PV) : Tree (List Int × Bool × Bool × List Int × Int × Int × Int × Bool) := .chk (rh_flight_readers_2.ok v) (.leaf (ra_flight_readers_2 v))
theorem rn_flight_readers_2 (b0 : Bool) (b1 : Bool) (es2 : List PV) : (ev GG gm_flight_readers_2 lm_flight_readers_2 xr_flight_readers_2 ⟨slots 46 0 [(0, .p (.sl b0 b1 1 es2))], []⟩ (fun S => finT Tryd.prog rs_flight_readers_2 S kf_flight_readers_2) (retT Tryd.prog rs_flight_readers_2 kf_flight_readers_2)).run = go_flight_readers_2 b0 b1 es2 := by kernel_rfl
theorem ok_flight_readers_2 (b0 : Bool) (b1 : Bool) (es2 : List PV) (r : (List Int × Bool × Bool × List Int × Int × Int × Int × Bool)) (h : go_flight_readers_2 b0 b1 es2 = some r) : FunEq Tryd.prog GG 33 [(.sl b0 b1 1 es2)] (em_flight_readers_2 r) :=
  fun_of_ev (x := xr_flight_readers_2) (Λ := lm_flight_readers_2) gk_flight_readers_2 [] Tryd.func33 rfl (by kernel_rfl) ir_flight_readers_2 (by kernel_rfl) (congrArg Array.toList Tryd.results33) Tryd.ntmps33 (⟨trivial, ⟨⟨trivial, ⟨⟨trivial, trivial⟩, trivial⟩⟩, ⟨trivial, ⟨trivial, ⟨trivial, ⟨trivial, trivial⟩⟩⟩⟩⟩⟩) (leaf_of fun v => (by kernel_rfl : rh_flight_readers_2.build v = em_flight_readers_2 (ra_flight_readers_2 v))) (by kernel_rfl) ((rn_flight_readers_2 b0 b1 es2).trans h)
def as_flight_readers_2 : List Shp := [(.sl 1)]
def ga_flight_readers_2 (vs : List PV) : Option (List Int × Bool × Bool × List Int × Int × Int × Int × Bool) := go_flight_readers_2 ((tls 0 vs).headD .nilSl).nl ((tls 0 vs).headD .nilSl).ex ((tls 0 vs).headD .nilSl).elts
theorem at_flight_readers_2 : FnAt Tryd.prog GG 33 as_flight_readers_2 ga_flight_readers_2 em_flight_readers_2 := fun vs h r hr => by
  have e : Shp.buildL as_flight_readers_2 vs = [(.sl ((tls 0 vs).headD .nilSl).nl ((tls 0 vs).headD .nilSl).ex 1 ((tls 0 vs).headD .nilSl).elts)] := by kernel_rfl
  rw [← Shp.buildL_eq _ h, e]
  exact .inl ⟨by decide, ok_flight_readers_2 _ _ _ r hr⟩
def xr_flight_readers_3 : XR := (.seq (.ops false [⟨⟨(some 2), (.alloc 35 [(.str []), (.isl true true .u8 []), (.int .i64 (0)), (.int .i64 (0)), (.int .i64 (0))]), none⟩, none⟩, ⟨⟨(some 3), (.mv (.c (.bool false))), none⟩, none⟩]) (.seq (.ops false [⟨⟨(some 4), (.build [(.str []), (.isl true true .u8 []), (.int .i64 (0)), (.int .i64 (0)), (.int .i64 (0))] []), none⟩, none⟩, ⟨⟨(some 5), (.mv (.tmp 0)), none⟩, none⟩, ⟨⟨(some 6), (.len (.tmp 5)), none⟩, none⟩, ⟨⟨(some 7), (.bin .eql (.tmp 6) (.c (.int .i64 (0)))), none⟩, none⟩, ⟨⟨none, (.st 5 (.tmp 2) (.tmp 4)), none⟩, none⟩, ⟨⟨(some 3), (.mv (.tmp 7)), none⟩, none⟩]) .ret))
def rs_flight_readers_3 : List ResultVar := [(.cell 2 35), (.tmp 3)]
theorem ir_flight_readers_3 : compCode Tryd.prog (Tryd.f35.body.getD .skip) [] = some (xr_flight_readers_3.erase, []) := by kernel_rfl
def gm_flight_readers_3 : Gam := Gam.bot
theorem gk_flight_readers_3 : GamOk Tryd.prog GG gm_flight_readers_3 := GamOk.bot
def lm_flight_readers_3 : Lam := fun _ j S kn ke => match j with
  | _ => .fail
def go_flight_readers_3 (b0 : Bool) (b1 : Bool) (es2 : List PV) : Option (List Int × Bool × Bool × List Int × Int × Int × Int × Bool) :=
  some ([], true, true, [], 0, 0, 0, ((((List.length es2) : Nat) : Int) == 0))
def em_flight_readers_3 (r : (List Int × Bool × Bool × List Int × Int × Int × Int × Bool)) : PV := (.tup [(.agg [(.str r.1), (.isl r.2.1 r.2.2.1 .u8 r.2.2.2.1), (.int .i64 r.2.2.2.2.1), (.int .i64 r.2.2.2.2.2.1), (.int .i64 r.2.2.2.2.2.2.1)]), (.bool r.2.2.2.2.2.2.2)])
def rh_flight_readers_3 : Shp := (.tup [(.agg [.str, (.isl .u8), (.int .i64), (.int .i64), (.int .i64)]), .bool])
def ra_flight_readers_3 (v : PV) : (List Int × Bool × Bool × List Int × Int × Int × Int × Bool) := (((v.subs.headD .nilSl).subs.headD .nilSl).chars, ((v.subs.headD .nilSl).subs.tail.headD .nilSl).nl, ((v.subs.headD .nilSl).subs.tail.headD .nilSl).ex, ((v.subs.headD .nilSl).subs.tail.headD .nilSl).ints, ((v.subs.headD .nilSl).subs.tail.tail.headD .nilSl).num, ((v.subs.headD .nilSl).subs.tail.tail.tail.headD .nilSl).num, ((v.subs.headD .nilSl).subs.tail.tail.tail.tail.headD .nilSl).num, (v.subs.tail.headD .nilSl).tru)
def kf_flight_readers_3 (v : PV) : Tree (List Int × Bool × Bool × List Int × Int × Int × Int × Bool) := .chk (rh_flight_readers_3.ok v) (.leaf (ra_flight_readers_3 v))
theorem rn_flight_readers_3 (b0 : Bool) (b1 : Bool) (es2 : List PV) : (ev GG gm_flight_readers_3 lm_flight_readers_3 xr_flight_readers_3 ⟨slots 8 0 [(0, .p (.sl b0 b1 1 es2))], []⟩ (fun S => finT Tryd.prog rs_flight_readers_3 S kf_flight_readers_3) (retT Tryd.prog rs_flight_readers_3 kf_flight_readers_3)).run = go_flight_readers_3 b0 b1 es2 := by kernel_rfl
theorem ok_flight_readers_3 (b0 : Bool) (b1 : Bool) (es2 : List PV) (r : (List Int × Bool × Bool × List Int × Int × Int × Int × Bool)) (h : go_flight_readers_3 b0 b1 es2 = some r) : FunEq Tryd.prog GG 35 [(.sl b0 b1 1 es2)] (em_flight_readers_3 r) :=
  fun_of_ev (x := xr_flight_readers_3) (Λ := lm_flight_readers_3) gk_flight_readers_3 [] Tryd.func35 rfl (by kernel_rfl) ir_flight_readers_3 (by kernel_rfl) (congrArg Array.toList Tryd.results35) Tryd.ntmps35 (⟨trivial, ⟨trivial, trivial⟩⟩) (leaf_of fun v => (by kernel_rfl : rh_flight_readers_3.build v = em_flight_readers_3 (ra_flight_readers_3 v))) (by kernel_rfl) ((rn_flight_readers_3 b0 b1 es2).trans h)
def as_flight_readers_3 : List Shp := [(.sl 1)]
def ga_flight_readers_3 (vs : List PV) : Option (List Int × Bool × Bool × List Int × Int × Int × Int × Bool) := go_flight_readers_3 ((tls 0 vs).headD .nilSl).nl ((tls 0 vs).headD .nilSl).ex ((tls 0 vs).headD .nilSl).elts
theorem at_flight_readers_3 : FnAt Tryd.prog GG 35 as_flight_readers_3 ga_flight_readers_3 em_flight_readers_3 := fun vs h r hr => by
  have e : Shp.buildL as_flight_readers_3 vs = [(.sl ((tls 0 vs).headD .nilSl).nl ((tls 0 vs).headD .nilSl).ex 1 ((tls 0 vs).headD .nilSl).elts)] := by kernel_rfl
  rw [← Shp.buildL_eq _ h, e]
  exact .inl ⟨by decide, ok_flight_readers_3 _ _ _ r hr⟩
def xo_flight_Parse_1 : OT := (.one 1 (.one 2 (.one 3 (.one 0 (.one 4 (.one 5 (.one 6 (.one 7 (.one 8 (.one 9 .done))))))))))
def xl_flight_Parse_1 : List XOp := [⟨⟨(some 30), (.fx (.callM 18 [])), none⟩, none⟩, ⟨⟨(some 31), (.mv (.tmp 9)), none⟩, none⟩, ⟨⟨(some 32), (.ixA 1 (.tmp 31) (.c (.int .i64 (0)))), none⟩, none⟩, ⟨⟨(some 33), (.ld false 1 (.tmp 32)), none⟩, (some .str)⟩, ⟨⟨(some 34), (.lookS .nilFn (.tmp 30) (.tmp 33)), none⟩, none⟩, ⟨⟨(some 29), (.mv (.tmp 34)), none⟩, none⟩, ⟨⟨(some 35), (.ext (.tmp 29) 0), none⟩, none⟩, ⟨⟨(some 36), (.ext (.tmp 29) 1), none⟩, none⟩, ⟨⟨(some 10), (.mv (.tmp 35)), none⟩, none⟩, ⟨⟨(some 11), (.mv (.tmp 36)), none⟩, none⟩]
def xb_flight_Parse_0 : XR := (.seq (.ops false [⟨⟨(some 21), (.bin .lss (.tmp 20) (.tmp 19)), none⟩, none⟩]) (.seq (.cond (.tmp 21) .skip (.exit 0)) (.seq (.block 1 (.seq (.ops false [⟨⟨(some 22), (.mv (.tmp 20)), none⟩, none⟩, ⟨⟨(some 23), (.ixA 1 (.tmp 18) (.tmp 20)), none⟩, none⟩, ⟨⟨(some 24), (.ld false 1 (.tmp 23)), none⟩, (some .str)⟩, ⟨⟨(some 7), (.mv (.tmp 22)), none⟩, none⟩, ⟨⟨(some 8), (.mv (.tmp 24)), none⟩, none⟩]) (.seq (.seq (.ops false [⟨⟨(some 25), (.mv (.tmp 8)), none⟩, none⟩, ⟨⟨(some 26), (.binS .eql (.tmp 25) (.c (.str []))), none⟩, none⟩]) (.cond (.tmp 26) (.exit 1) .skip)) (.seq (.ops false [⟨⟨(some 27), (.mv (.tmp 8)), none⟩, none⟩, ⟨⟨(some 28), (.call (.func 17) [(.tmp 27), (.c (.str [(32)]))]), none⟩, none⟩, ⟨⟨(some 9), (.mv (.tmp 28)), none⟩, none⟩]) (.seq (.any 1 [5, 6, 7, 9, 18, 19, 20] xo_flight_Parse_1 xl_flight_Parse_1) (.seq (.seq (.ops false [⟨⟨(some 37), (.mv (.tmp 11)), none⟩, none⟩, ⟨⟨(some 38), (.un .not (.tmp 37)), none⟩, none⟩]) (.cond (.tmp 38) (.seq (.ops false [⟨⟨(some 39), (.mv (.tmp 7)), none⟩, none⟩, ⟨⟨(some 40), (.bin .add (.tmp 39) (.c (.int .i64 (1)))), none⟩, none⟩, ⟨⟨(some 2), (.mv (.c (.sl true true 5 []))), none⟩, none⟩, ⟨⟨(some 3), (.mv (.tmp 40)), none⟩, none⟩, ⟨⟨(some 4), (.mv (.c (.int .i64 (4)))), none⟩, none⟩]) .ret) .skip)) (.seq (.ops false [⟨⟨(some 42), (.mv (.tmp 10)), none⟩, none⟩, ⟨⟨(some 43), (.mv (.tmp 9)), none⟩, none⟩, ⟨⟨(some 44), (.fx (.slcX 1 (.tmp 43) (some (.c (.int .i64 (1)))) none none)), none⟩, none⟩, ⟨⟨(some 45), (.call (.tmp 42) [(.tmp 44)]), none⟩, none⟩, ⟨⟨(some 41), (.mv (.tmp 45)), none⟩, none⟩, ⟨⟨(some 46), (.ext (.tmp 41) 0), none⟩, none⟩, ⟨⟨(some 47), (.ext (.tmp 41) 1), none⟩, none⟩, ⟨⟨(some 12), (.alloc 35 [(.str []), (.isl true true .u8 []), (.int .i64 (0)), (.int .i64 (0)), (.int .i64 (0))]), none⟩, none⟩, ⟨⟨none, (.st 5 (.tmp 12) (.tmp 46)), none⟩, none⟩, ⟨⟨(some 11), (.mv (.tmp 47)), none⟩, none⟩]) (.seq (.seq (.ops false [⟨⟨(some 48), (.mv (.tmp 11)), none⟩, none⟩, ⟨⟨(some 49), (.un .not (.tmp 48)), none⟩, none⟩]) (.cond (.tmp 49) (.seq (.ops false [⟨⟨(some 50), (.mv (.tmp 7)), none⟩, none⟩, ⟨⟨(some 51), (.bin .add (.tmp 50) (.c (.int .i64 (1)))), none⟩, none⟩, ⟨⟨(some 2), (.mv (.c (.sl true true 5 []))), none⟩, none⟩, ⟨⟨(some 3), (.mv (.tmp 51)), none⟩, none⟩, ⟨⟨(some 4), (.mv (.c (.int .i64 (4)))), none⟩, none⟩]) .ret) .skip)) (.seq (.ops false [⟨⟨(some 52), (.mv (.tmp 9)), none⟩, none⟩, ⟨⟨(some 53), (.ixA 1 (.tmp 52) (.c (.int .i64 (0)))), none⟩, none⟩, ⟨⟨(some 54), (.ld false 1 (.tmp 53)), none⟩, (some .str)⟩, ⟨⟨(some 55), (.fldA 0 (.tmp 12)), none⟩, none⟩, ⟨⟨none, (.st 1 (.tmp 55) (.tmp 54)), none⟩, none⟩]) (.ops false [⟨⟨(some 56), (.mv (.tmp 6)), none⟩, none⟩, ⟨⟨(some 57), (.ld true 5 (.tmp 12)), none⟩, (some (.agg [.str, (.isl .u8), (.int .i64), (.int .i64), (.int .i64)]))⟩, ⟨⟨(some 58), (.bsl 35 none 5 [(.tmp 57)]), none⟩, none⟩, ⟨⟨(some 59), (.app 35 none 5 64 (.tmp 56) (.tmp 58)), none⟩, none⟩, ⟨⟨(some 6), (.mv (.tmp 59)), none⟩, none⟩])))))))))) (.ops false [⟨⟨(some 60), (.bin .add (.tmp 20) (.c (.int .i64 (1)))), none⟩, none⟩, ⟨⟨(some 20), (.mv (.tmp 60)), none⟩, none⟩]))))
def xr_flight_Parse : XR := (.seq (.ops false [⟨⟨(some 2), (.mv (.c (.sl true true 5 []))), none⟩, none⟩, ⟨⟨(some 3), (.mv (.c (.int .i64 (0)))), none⟩, none⟩, ⟨⟨(some 4), (.mv (.c (.int .i64 (0)))), none⟩, none⟩]) (.seq (.seq (.ops false [⟨⟨(some 13), (.mv (.tmp 0)), none⟩, none⟩, ⟨⟨(some 14), (.lenS (.tmp 13)), none⟩, none⟩, ⟨⟨(some 15), (.bin .gtr (.tmp 14) (.c (.int .i64 (65536)))), none⟩, none⟩]) (.cond (.tmp 15) (.seq (.ops false [⟨⟨(some 2), (.mv (.c (.sl true true 5 []))), none⟩, none⟩, ⟨⟨(some 3), (.mv (.c (.int .i64 (0)))), none⟩, none⟩, ⟨⟨(some 4), (.mv (.c (.int .i64 (3)))), none⟩, none⟩]) .ret) .skip)) (.seq (.ops false [⟨⟨(some 16), (.mv (.tmp 0)), none⟩, none⟩, ⟨⟨(some 17), (.call (.func 16) [(.tmp 16)]), none⟩, none⟩, ⟨⟨(some 5), (.mv (.tmp 17)), none⟩, none⟩]) (.seq (.ops false [⟨⟨(some 6), (.mv (.c (.sl true true 5 []))), none⟩, none⟩]) (.seq (.seq (.ops false [⟨⟨(some 18), (.mv (.tmp 5)), none⟩, none⟩, ⟨⟨(some 19), (.len (.tmp 18)), none⟩, none⟩, ⟨⟨(some 20), (.mv (.c (.int .i64 (0)))), none⟩, none⟩]) (.block 0 (.loop 0 [5, 6, 18, 19, 20] xb_flight_Parse_0))) (.seq (.ops false [⟨⟨(some 61), (.mv (.tmp 6)), none⟩, none⟩, ⟨⟨(some 62), (.mv (.tmp 5)), none⟩, none⟩, ⟨⟨(some 63), (.len (.tmp 62)), none⟩, none⟩, ⟨⟨(some 2), (.mv (.tmp 61)), none⟩, none⟩, ⟨⟨(some 3), (.mv (.tmp 63)), none⟩, none⟩, ⟨⟨(some 4), (.mv (.c (.int .i64 (0)))), none⟩, none⟩]) .ret))))))
def rs_flight_Parse : List ResultVar := [(.tmp 2), (.tmp 3), (.tmp 4)]
theorem ir_flight_Parse : compCode Tryd.prog (Tryd.f8.body.getD .skip) [[5, 6, 18, 19, 20]] = some (xr_flight_Parse.erase, []) := by kernel_rfl
def gm_flight_Parse : Gam := (Gam.fn 16 as_flight_lines ga_flight_lines em_flight_lines (Gam.fn 17 as_strings_Split ga_strings_Split em_strings_Split (Gam.fn 3000018 as_flight_readers ga_flight_readers em_flight_readers (Gam.fn 31 as_flight_readers_1 ga_flight_readers_1 em_flight_readers_1 (Gam.fn 33 as_flight_readers_2 ga_flight_readers_2 em_flight_readers_2 (Gam.fn 35 as_flight_readers_3 ga_flight_readers_3 em_flight_readers_3 Gam.bot))))))
theorem gk_flight_Parse : GamOk Tryd.prog GG gm_flight_Parse := (GamOk.fn at_flight_lines (GamOk.fn at_strings_Split (GamOk.fn at_flight_readers (GamOk.fn at_flight_readers_1 (GamOk.fn at_flight_readers_2 (GamOk.fn at_flight_readers_3 GamOk.bot))))))
theorem gn_flight_Parse : GamNat gm_flight_Parse := (GamNat.fn (GamNat.fn (GamNat.fn (GamNat.fn (GamNat.fn (GamNat.fn GamNat.bot))))))
def st_flight_Parse_0 (b2 : Bool) (b3 : Bool) (es4 : List PV) (b5 : Bool) (b6 : Bool) (es7 : List PV) (n8 : Int) (n9 : Int) (b10 : Bool) (b11 : Bool) (es12 : List PV) : Option (((Bool × Bool × List PV × Bool × Bool × List PV × Int × Int × Bool × Bool × List PV)) ⊕ (((Bool × Bool × List PV × Bool × Bool × List PV)) ⊕ ((Bool × Bool × List PV × Int × Int)))) :=
  bif (decide (n9 < n8)) then
   bif (decide (0 ≤ n9)) then
    bif (decide (n9 < (((List.length es7) : Nat) : Int))) then
     bif (decide ((Int.toNat n9) < (List.length es7))) then
      bif (PV.scal (List.getD es7 (Int.toNat n9) .nilSl)) then
       bif (Shp.ok .str (List.getD es7 (Int.toNat n9) .nilSl)) then
        bif ((PV.chars (List.getD es7 (Int.toNat n9) .nilSl)) == []) then
         some (Sum.inl (b2, b3, es4, b5, b6, es7, n8, (IntKind.wrap .i64 (n9 + 1)), b10, b11, es12))
        else
         (go_strings_Split (PV.chars (List.getD es7 (Int.toNat n9) .nilSl)) [32]).bind fun r13 =>
         bif (decide (0 < (((List.length r13.2.2) : Nat) : Int))) then
          bif (decide (0 < (List.length r13.2.2))) then
           bif (PV.scal (List.getD r13.2.2 0 .nilSl)) then
            bif (Shp.ok .str (List.getD r13.2.2 0 .nilSl)) then
             (go_flight_readers).bind fun r14 =>
             bif ((PV.chars (List.getD r13.2.2 0 .nilSl)) == r14.1) then
              bif (decide (1 ≤ (((List.length r13.2.2) : Nat) : Int))) then
               bif (decide ((((List.length r13.2.2) : Nat) : Int) ≤ (((List.length r13.2.2) : Nat) : Int))) then
                (go_flight_readers_1 r13.1 r13.2.1 (List.take (Int.toNat ((((List.length r13.2.2) : Nat) : Int) - 1)) (List.drop 1 r13.2.2))).bind fun r15 =>
                bif (!r15.2.2.2.2.2.2.2) then
                 some (Sum.inr (Sum.inr (true, true, [], (IntKind.wrap .i64 (n9 + 1)), 4)))
                else
                 bif (decide (0 < (((List.length r13.2.2) : Nat) : Int))) then
                  bif (decide (0 < (List.length r13.2.2))) then
                   bif (PV.scal (List.getD r13.2.2 0 .nilSl)) then
                    bif (Shp.ok .str (List.getD r13.2.2 0 .nilSl)) then
                     bif (decide ((((List.length es12) + 1) * 64) ≤ 140737488355328)) then
                      bif (decide (((List.length es12) + 1) ≤ 4611686018427387904)) then
                       some (Sum.inl (b2, b3, es4, b5, b6, es7, n8, (IntKind.wrap .i64 (n9 + 1)), (b10 && false), false, (es12 ++ [(.agg [(.str (PV.chars (List.getD r13.2.2 0 .nilSl))), (.isl r15.2.1 r15.2.2.1 .u8 r15.2.2.2.1), (.int .i64 r15.2.2.2.2.1), (.int .i64 r15.2.2.2.2.2.1), (.int .i64 r15.2.2.2.2.2.2.1)])])))
                      else none
                     else none
                    else none
                   else none
                  else none
                 else none
               else none
              else none
             else
              bif ((PV.chars (List.getD r13.2.2 0 .nilSl)) == r14.2.1) then
               bif (decide (1 ≤ (((List.length r13.2.2) : Nat) : Int))) then
                bif (decide ((((List.length r13.2.2) : Nat) : Int) ≤ (((List.length r13.2.2) : Nat) : Int))) then
                 (go_flight_readers_2 r13.1 r13.2.1 (List.take (Int.toNat ((((List.length r13.2.2) : Nat) : Int) - 1)) (List.drop 1 r13.2.2))).bind fun r16 =>
                 bif (!r16.2.2.2.2.2.2.2) then
                  some (Sum.inr (Sum.inr (true, true, [], (IntKind.wrap .i64 (n9 + 1)), 4)))
                 else
                  bif (decide (0 < (((List.length r13.2.2) : Nat) : Int))) then
                   bif (decide (0 < (List.length r13.2.2))) then
                    bif (PV.scal (List.getD r13.2.2 0 .nilSl)) then
                     bif (Shp.ok .str (List.getD r13.2.2 0 .nilSl)) then
                      bif (decide ((((List.length es12) + 1) * 64) ≤ 140737488355328)) then
                       bif (decide (((List.length es12) + 1) ≤ 4611686018427387904)) then
                        some (Sum.inl (b2, b3, es4, b5, b6, es7, n8, (IntKind.wrap .i64 (n9 + 1)), (b10 && false), false, (es12 ++ [(.agg [(.str (PV.chars (List.getD r13.2.2 0 .nilSl))), (.isl r16.2.1 r16.2.2.1 .u8 r16.2.2.2.1), (.int .i64 r16.2.2.2.2.1), (.int .i64 r16.2.2.2.2.2.1), (.int .i64 r16.2.2.2.2.2.2.1)])])))
                       else none
                      else none
                     else none
                    else none
                   else none
                  else none
                else none
               else none
              else
               bif ((PV.chars (List.getD r13.2.2 0 .nilSl)) == r14.2.2) then
                bif (decide (1 ≤ (((List.length r13.2.2) : Nat) : Int))) then
                 bif (decide ((((List.length r13.2.2) : Nat) : Int) ≤ (((List.length r13.2.2) : Nat) : Int))) then
                  (go_flight_readers_3 r13.1 r13.2.1 (List.take (Int.toNat ((((List.length r13.2.2) : Nat) : Int) - 1)) (List.drop 1 r13.2.2))).bind fun r17 =>
                  bif (!r17.2.2.2.2.2.2.2) then
                   some (Sum.inr (Sum.inr (true, true, [], (IntKind.wrap .i64 (n9 + 1)), 4)))
                  else
                   bif (decide (0 < (((List.length r13.2.2) : Nat) : Int))) then
                    bif (decide (0 < (List.length r13.2.2))) then
                     bif (PV.scal (List.getD r13.2.2 0 .nilSl)) then
                      bif (Shp.ok .str (List.getD r13.2.2 0 .nilSl)) then
                       bif (decide ((((List.length es12) + 1) * 64) ≤ 140737488355328)) then
                        bif (decide (((List.length es12) + 1) ≤ 4611686018427387904)) then
                         some (Sum.inl (b2, b3, es4, b5, b6, es7, n8, (IntKind.wrap .i64 (n9 + 1)), (b10 && false), false, (es12 ++ [(.agg [(.str (PV.chars (List.getD r13.2.2 0 .nilSl))), (.isl r17.2.1 r17.2.2.1 .u8 r17.2.2.2.1), (.int .i64 r17.2.2.2.2.1), (.int .i64 r17.2.2.2.2.2.1), (.int .i64 r17.2.2.2.2.2.2.1)])])))
                        else none
                       else none
                      else none
                     else none
                    else none
                   else none
                 else none
                else none
               else
                some (Sum.inr (Sum.inr (true, true, [], (IntKind.wrap .i64 (n9 + 1)), 4)))
            else none
           else none
          else none
         else none
       else none
      else none
     else none
    else none
   else none
  else
   some (Sum.inr (Sum.inl (b2, b3, es4, b10, b11, es12)))
def lp_flight_Parse_0 (b2 : Bool) (b3 : Bool) (es4 : List PV) (b5 : Bool) (b6 : Bool) (es7 : List PV) (n8 : Int) (n9 : Int) (b10 : Bool) (b11 : Bool) (es12 : List PV) : Option (((Bool × Bool × List PV × Bool × Bool × List PV)) ⊕ ((Bool × Bool × List PV × Int × Int))) := loopN (X := (Bool × Bool × List PV × Bool × Bool × List PV × Int × Int × Bool × Bool × List PV)) (fun x => st_flight_Parse_0 x.1 x.2.1 x.2.2.1 x.2.2.2.1 x.2.2.2.2.1 x.2.2.2.2.2.1 x.2.2.2.2.2.2.1 x.2.2.2.2.2.2.2.1 x.2.2.2.2.2.2.2.2.1 x.2.2.2.2.2.2.2.2.2.1 x.2.2.2.2.2.2.2.2.2.2) (b2, b3, es4, b5, b6, es7, n8, n9, b10, b11, es12)
def sh_flight_Parse_0 : StSh := ⟨64, [(5, (.p (.sl 1))), (6, (.row 0)), (18, (.p (.sl 1))), (19, (.p (.int .i64))), (20, (.p (.int .i64)))], [(.row 35 5)]⟩
def sx_flight_Parse_0 (x : (Bool × Bool × List PV × Bool × Bool × List PV × Int × Int × Bool × Bool × List PV)) : St := ⟨slots 64 0 [(5, (.p (.sl x.1 x.2.1 1 x.2.2.1))), (6, (.row 0)), (18, (.p (.sl x.2.2.2.1 x.2.2.2.2.1 1 x.2.2.2.2.2.1))), (19, (.p (.int .i64 x.2.2.2.2.2.2.1))), (20, (.p (.int .i64 x.2.2.2.2.2.2.2.1)))], [(.row 35 5 x.2.2.2.2.2.2.2.2.1 x.2.2.2.2.2.2.2.2.2.1 x.2.2.2.2.2.2.2.2.2.2)]⟩
def sa_flight_Parse_0 (S : St) : (Bool × Bool × List PV × Bool × Bool × List PV × Int × Int × Bool × Bool × List PV) := (((tls 5 S.t).headD .any).pv.nl, ((tls 5 S.t).headD .any).pv.ex, ((tls 5 S.t).headD .any).pv.elts, ((tls 18 S.t).headD .any).pv.nl, ((tls 18 S.t).headD .any).pv.ex, ((tls 18 S.t).headD .any).pv.elts, ((tls 19 S.t).headD .any).pv.num, ((tls 20 S.t).headD .any).pv.num, ((tls 0 S.own).headD .gone).pvD.nl, ((tls 0 S.own).headD .gone).pvD.ex, ((tls 0 S.own).headD .gone).pvD.elts)
def tz_flight_Parse_0_1 : StSh := ⟨64, [(2, (.p (.sl 5))), (3, (.p (.int .i64))), (4, (.p (.int .i64)))], []⟩
def tx_flight_Parse_0_1 (x : (Bool × Bool × List PV × Int × Int)) : St := ⟨slots 64 0 [(2, (.p (.sl x.1 x.2.1 5 x.2.2.1))), (3, (.p (.int .i64 x.2.2.2.1))), (4, (.p (.int .i64 x.2.2.2.2)))], []⟩
def ta_flight_Parse_0_1 (S : St) : (Bool × Bool × List PV × Int × Int) := (((tls 2 S.t).headD .any).pv.nl, ((tls 2 S.t).headD .any).pv.ex, ((tls 2 S.t).headD .any).pv.elts, ((tls 3 S.t).headD .any).pv.num, ((tls 4 S.t).headD .any).pv.num)
def tz_flight_Parse_0_0 : StSh := ⟨64, [(5, (.p (.sl 1))), (6, (.row 0))], [(.row 35 5)]⟩
def tx_flight_Parse_0_0 (x : (Bool × Bool × List PV × Bool × Bool × List PV)) : St := ⟨slots 64 0 [(5, (.p (.sl x.1 x.2.1 1 x.2.2.1))), (6, (.row 0))], [(.row 35 5 x.2.2.2.1 x.2.2.2.2.1 x.2.2.2.2.2)]⟩
def ta_flight_Parse_0_0 (S : St) : (Bool × Bool × List PV × Bool × Bool × List PV) := (((tls 5 S.t).headD .any).pv.nl, ((tls 5 S.t).headD .any).pv.ex, ((tls 5 S.t).headD .any).pv.elts, ((tls 0 S.own).headD .gone).pvD.nl, ((tls 0 S.own).headD .gone).pvD.ex, ((tls 0 S.own).headD .gone).pvD.elts)
def kb_flight_Parse_0 : Exit → St → Tree (((Bool × Bool × List PV × Bool × Bool × List PV × Int × Int × Bool × Bool × List PV)) ⊕ (((Bool × Bool × List PV × Bool × Bool × List PV)) ⊕ ((Bool × Bool × List PV × Int × Int)))) := (exOne (.exit 0) [5, 6] tz_flight_Parse_0_0 ta_flight_Parse_0_0 (fun y => Sum.inr ((Sum.inl y))) (exOne .ret [2, 3, 4] tz_flight_Parse_0_1 ta_flight_Parse_0_1 (fun y => Sum.inr ((Sum.inr y))) exNil))
def ky_flight_Parse_0 : Dec (((Bool × Bool × List PV × Bool × Bool × List PV)) ⊕ ((Bool × Bool × List PV × Int × Int))) := fun _ y ke => .sum y (fun a => ke ((.exit 0) : EK).ex (tx_flight_Parse_0_0 a)) (fun y' => ke (.ret : EK).ex (tx_flight_Parse_0_1 y'))
theorem kk_flight_Parse_0 : ExOk Sum.inr kb_flight_Parse_0 ky_flight_Parse_0 := (ExOk.one (acc := ta_flight_Parse_0_0) (bY := tx_flight_Parse_0_0) (inj1 := fun y => (Sum.inl y)) (fun S => by kernel_rfl) (fun y _ ke => .inr (by kernel_rfl)) (ExOk.one (acc := ta_flight_Parse_0_1) (bY := tx_flight_Parse_0_1) (inj1 := fun y => (Sum.inr y)) (fun S => by kernel_rfl) (fun y _ ke => .inr (by kernel_rfl)) ExOk.nil))
def lm_flight_Parse : Lam := fun _ j S kn ke => match j with
  | 0 => prepT [5, 6, 18, 19, 20] [(6, 35)] S fun S => .chk (sh_flight_Parse_0.ok S) (.bind (loopN (fun x => st_flight_Parse_0 x.1 x.2.1 x.2.2.1 x.2.2.2.1 x.2.2.2.2.1 x.2.2.2.2.2.1 x.2.2.2.2.2.2.1 x.2.2.2.2.2.2.2.1 x.2.2.2.2.2.2.2.2.1 x.2.2.2.2.2.2.2.2.2.1 x.2.2.2.2.2.2.2.2.2.2) (sa_flight_Parse_0 S)) fun y => ky_flight_Parse_0 _ y ke)
  | 1 => evAny1 GG gm_flight_Parse xl_flight_Parse_1 xo_flight_Parse_1 S kn
  | _ => .fail
theorem la_flight_Parse_1 : LamAt Tryd.prog GG lm_flight_Parse 1 (.any xo_flight_Parse_1 (xl_flight_Parse_1.map (·.op))) := lam_any1 gk_flight_Parse gn_flight_Parse (by kernel_rfl) (fun _ _ _ => rfl)
theorem sr_flight_Parse_0 (x : (Bool × Bool × List PV × Bool × Bool × List PV × Int × Int × Bool × Bool × List PV)) : (ev GG gm_flight_Parse lm_flight_Parse xb_flight_Parse_0 (sx_flight_Parse_0 x) (fun S => forgetT [5, 6, 18, 19, 20] S fun S => prepT [5, 6, 18, 19, 20] [(6, 35)] S fun S => .chk (sh_flight_Parse_0.ok S) (.leaf (.inl (sa_flight_Parse_0 S)))) kb_flight_Parse_0).run = st_flight_Parse_0 x.1 x.2.1 x.2.2.1 x.2.2.2.1 x.2.2.2.2.1 x.2.2.2.2.2.1 x.2.2.2.2.2.2.1 x.2.2.2.2.2.2.2.1 x.2.2.2.2.2.2.2.2.1 x.2.2.2.2.2.2.2.2.2.1 x.2.2.2.2.2.2.2.2.2.2 := by kernel_rfl
theorem la_flight_Parse_0 : LamAt Tryd.prog GG lm_flight_Parse 0 (.loop [5, 6, 18, 19, 20] xb_flight_Parse_0.erase) := lam_loop (body := xb_flight_Parse_0) (Λ' := lm_flight_Parse) gk_flight_Parse (⟨trivial, ⟨⟨trivial, trivial⟩, ⟨⟨trivial, ⟨⟨trivial, ⟨trivial, trivial⟩⟩, ⟨trivial, ⟨la_flight_Parse_1, ⟨⟨trivial, ⟨⟨trivial, trivial⟩, trivial⟩⟩, ⟨trivial, ⟨⟨trivial, ⟨⟨trivial, trivial⟩, trivial⟩⟩, ⟨trivial, trivial⟩⟩⟩⟩⟩⟩⟩⟩, trivial⟩⟩⟩) (fun S => (by kernel_rfl : sh_flight_Parse_0.build S = sx_flight_Parse_0 (sa_flight_Parse_0 S))) kk_flight_Parse_0 sr_flight_Parse_0 (fun _ _ _ => rfl)
def go_flight_Parse (l0 : List Int) : Option (Bool × Bool × List PV × Int × Int) :=
  bif (decide ((((List.length l0) : Nat) : Int) > 65536)) then
   some (true, true, [], 0, 3)
  else
   (go_flight_lines l0).bind fun r1 =>
   (lp_flight_Parse_0 r1.1 r1.2.1 r1.2.2 r1.1 r1.2.1 r1.2.2 (((List.length r1.2.2) : Nat) : Int) 0 true true []).bind fun y18 =>
   Sum.elim (fun z19 =>
    some (z19.2.2.2.1, z19.2.2.2.2.1, z19.2.2.2.2.2, (((List.length z19.2.2.1) : Nat) : Int), 0)) (fun z20 =>
    some (z20.1, z20.2.1, z20.2.2.1, z20.2.2.2.1, z20.2.2.2.2)) y18
def em_flight_Parse (r : (Bool × Bool × List PV × Int × Int)) : PV := (.tup [(.sl r.1 r.2.1 5 r.2.2.1), (.int .i64 r.2.2.2.1), (.int .i64 r.2.2.2.2)])
def rh_flight_Parse : Shp := (.tup [(.sl 5), (.int .i64), (.int .i64)])
def ra_flight_Parse (v : PV) : (Bool × Bool × List PV × Int × Int) := ((v.subs.headD .nilSl).nl, (v.subs.headD .nilSl).ex, (v.subs.headD .nilSl).elts, (v.subs.tail.headD .nilSl).num, (v.subs.tail.tail.headD .nilSl).num)
def kf_flight_Parse (v : PV) : Tree (Bool × Bool × List PV × Int × Int) := .chk (rh_flight_Parse.ok v) (.leaf (ra_flight_Parse v))
theorem rn_flight_Parse (l0 : List Int) : (ev GG gm_flight_Parse lm_flight_Parse xr_flight_Parse ⟨slots 64 0 [(0, .p (.str l0))], []⟩ (fun S => finT Tryd.prog rs_flight_Parse S kf_flight_Parse) (retT Tryd.prog rs_flight_Parse kf_flight_Parse)).run = go_flight_Parse l0 := by kernel_rfl
theorem ok_flight_Parse (l0 : List Int) (r : (Bool × Bool × List PV × Int × Int)) (h : go_flight_Parse l0 = some r) : FunEq Tryd.prog GG 8 [(.str l0)] (em_flight_Parse r) :=
  fun_of_ev (x := xr_flight_Parse) (Λ := lm_flight_Parse) gk_flight_Parse [[5, 6, 18, 19, 20]] Tryd.func8 rfl (by kernel_rfl) ir_flight_Parse (by kernel_rfl) (congrArg Array.toList Tryd.results8) Tryd.ntmps8 (⟨trivial, ⟨⟨trivial, ⟨⟨trivial, trivial⟩, trivial⟩⟩, ⟨trivial, ⟨trivial, ⟨⟨trivial, la_flight_Parse_0⟩, ⟨trivial, trivial⟩⟩⟩⟩⟩⟩) (leaf_of fun v => (by kernel_rfl : rh_flight_Parse.build v = em_flight_Parse (ra_flight_Parse v))) (by kernel_rfl) ((rn_flight_Parse l0).trans h)
def as_flight_Parse : List Shp := [.str]
def ga_flight_Parse (vs : List PV) : Option (Bool × Bool × List PV × Int × Int) := go_flight_Parse ((tls 0 vs).headD .nilSl).chars
theorem at_flight_Parse : FnAt Tryd.prog GG 8 as_flight_Parse ga_flight_Parse em_flight_Parse := fun vs h r hr => by
  have e : Shp.buildL as_flight_Parse vs = [(.str ((tls 0 vs).headD .nilSl).chars)] := by kernel_rfl
  rw [← Shp.buildL_eq _ h, e]
  exact .inl ⟨by decide, ok_flight_Parse _ r hr⟩
def xr_flight_small : XR := (.seq (.ops false [⟨⟨(some 2), (.mv (.c (.bool false))), none⟩, none⟩]) (.seq (.ops false [⟨⟨(some 6), (.mv (.tmp 0)), none⟩, none⟩, ⟨⟨(some 7), (.call (.func 36) [(.tmp 6)]), none⟩, none⟩, ⟨⟨(some 8), (.call (.func 34) [(.tmp 7)]), none⟩, none⟩, ⟨⟨(some 5), (.mv (.tmp 8)), none⟩, none⟩, ⟨⟨(some 9), (.ext (.tmp 5) 0), none⟩, none⟩, ⟨⟨(some 10), (.ext (.tmp 5) 1), none⟩, none⟩, ⟨⟨(some 3), (.mv (.tmp 9)), none⟩, none⟩, ⟨⟨(some 4), (.mv (.tmp 10)), none⟩, none⟩]) (.seq (.ops false [⟨⟨(some 11), (.mv (.tmp 4)), none⟩, none⟩, ⟨⟨(some 2), (.mv (.tmp 11)), none⟩, none⟩]) .ret)))
def rs_flight_small : List ResultVar := [(.tmp 2)]
theorem ir_flight_small : compCode Tryd.prog (Tryd.f23.body.getD .skip) [] = some (xr_flight_small.erase, []) := by kernel_rfl
def gm_flight_small : Gam := (Gam.fn 36 as_strconv_Itoa ga_strconv_Itoa em_strconv_Itoa (Gam.fn 34 as_flight_number ga_flight_number em_flight_number Gam.bot))
theorem gk_flight_small : GamOk Tryd.prog GG gm_flight_small := (GamOk.fn at_strconv_Itoa (GamOk.fn at_flight_number GamOk.bot))
def lm_flight_small : Lam := fun _ j S kn ke => match j with
  | _ => .fail
def go_flight_small (n0 : Int) : Option Bool :=
  (go_strconv_Itoa n0).bind fun r1 =>
  (go_flight_number r1).bind fun r2 =>
  some r2.2
def em_flight_small (r : Bool) : PV := (.bool r)
def rh_flight_small : Shp := .bool
def ra_flight_small (v : PV) : Bool := v.tru
def kf_flight_small (v : PV) : Tree Bool := .chk (rh_flight_small.ok v) (.leaf (ra_flight_small v))
theorem rn_flight_small (n0 : Int) : (ev GG gm_flight_small lm_flight_small xr_flight_small ⟨slots 12 0 [(0, .p (.int .i64 n0))], []⟩ (fun S => finT Tryd.prog rs_flight_small S kf_flight_small) (retT Tryd.prog rs_flight_small kf_flight_small)).run = go_flight_small n0 := by kernel_rfl
theorem ok_flight_small (n0 : Int) (r : Bool) (h : go_flight_small n0 = some r) : FunEq Tryd.prog GG 23 [(.int .i64 n0)] (em_flight_small r) :=
  fun_of_ev (x := xr_flight_small) (Λ := lm_flight_small) gk_flight_small [] Tryd.func23 rfl (by kernel_rfl) ir_flight_small (by kernel_rfl) (congrArg Array.toList Tryd.results23) Tryd.ntmps23 (⟨trivial, ⟨trivial, ⟨trivial, trivial⟩⟩⟩) (leaf_of fun v => (by kernel_rfl : rh_flight_small.build v = em_flight_small (ra_flight_small v))) (by kernel_rfl) ((rn_flight_small n0).trans h)
def as_flight_small : List Shp := [(.int .i64)]
def ga_flight_small (vs : List PV) : Option Bool := go_flight_small ((tls 0 vs).headD .nilSl).num
theorem at_flight_small : FnAt Tryd.prog GG 23 as_flight_small ga_flight_small em_flight_small := fun vs h r hr => by
  have e : Shp.buildL as_flight_small vs = [(.int .i64 ((tls 0 vs).headD .nilSl).num)] := by kernel_rfl
  rw [← Shp.buildL_eq _ h, e]
  exact .inl ⟨by decide, ok_flight_small _ r hr⟩
def xr_flight_Right : XR := (.seq (.ops false [⟨⟨(some 1), (.box 35 (.tmp 0)), none⟩, none⟩, ⟨⟨(some 2), (.mv (.c (.bool false))), none⟩, none⟩]) (.seq (.ops false [⟨⟨(some 4), (.fldA 2 (.tmp 1)), none⟩, none⟩, ⟨⟨(some 5), (.ld false 1 (.tmp 4)), none⟩, (some (.int .i64))⟩, ⟨⟨(some 6), (.bin .eql (.tmp 5) (.c (.int .i64 (0)))), none⟩, none⟩, ⟨⟨(some 7), (.mv (.tmp 6)), none⟩, none⟩, ⟨⟨(some 8), (.fldA 3 (.tmp 1)), (some (7, true))⟩, none⟩, ⟨⟨(some 9), (.ld false 1 (.tmp 8)), (some (7, true))⟩, (some (.int .i64))⟩, ⟨⟨(some 10), (.bin .eql (.tmp 9) (.c (.int .i64 (0)))), (some (7, true))⟩, none⟩, ⟨⟨(some 11), (.pick (.tmp 7) (.tmp 10) (.c (.bool false))), none⟩, none⟩, ⟨⟨(some 12), (.mv (.tmp 11)), none⟩, none⟩, ⟨⟨(some 13), (.fldA 4 (.tmp 1)), (some (12, true))⟩, none⟩, ⟨⟨(some 14), (.ld false 1 (.tmp 13)), (some (12, true))⟩, (some (.int .i64))⟩, ⟨⟨(some 15), (.bin .eql (.tmp 14) (.c (.int .i64 (0)))), (some (12, true))⟩, none⟩, ⟨⟨(some 16), (.pick (.tmp 12) (.tmp 15) (.c (.bool false))), none⟩, none⟩, ⟨⟨(some 3), (.mv (.tmp 16)), none⟩, none⟩]) (.seq (.seq (.ops false [⟨⟨(some 17), (.fldA 0 (.tmp 1)), none⟩, none⟩, ⟨⟨(some 18), (.ld false 1 (.tmp 17)), none⟩, (some .str)⟩]) (.block 0 (.seq (.ops false [⟨⟨(some 20), (.binS .eql (.tmp 18) (.c (.str [(102), (101), (101), (100)]))), none⟩, none⟩, ⟨⟨(some 19), (.mv (.tmp 20)), none⟩, none⟩]) (.cond (.tmp 19) (.seq (.ops false [⟨⟨(some 21), (.mv (.tmp 3)), none⟩, none⟩, ⟨⟨(some 22), (.mv (.tmp 21)), none⟩, none⟩, ⟨⟨(some 23), (.fldA 1 (.tmp 1)), (some (22, true))⟩, none⟩, ⟨⟨(some 24), (.ld false 1 (.tmp 23)), (some (22, true))⟩, (some (.isl .u8))⟩, ⟨⟨(some 25), (.len (.tmp 24)), (some (22, true))⟩, none⟩, ⟨⟨(some 26), (.bin .geq (.tmp 25) (.c (.int .i64 (1)))), (some (22, true))⟩, none⟩, ⟨⟨(some 27), (.pick (.tmp 22) (.tmp 26) (.c (.bool false))), none⟩, none⟩, ⟨⟨(some 28), (.mv (.tmp 27)), none⟩, none⟩, ⟨⟨(some 29), (.fldA 1 (.tmp 1)), (some (28, true))⟩, none⟩, ⟨⟨(some 30), (.ld false 1 (.tmp 29)), (some (28, true))⟩, (some (.isl .u8))⟩, ⟨⟨(some 31), (.len (.tmp 30)), (some (28, true))⟩, none⟩, ⟨⟨(some 32), (.bin .leq (.tmp 31) (.c (.int .i64 (600)))), (some (28, true))⟩, none⟩, ⟨⟨(some 33), (.pick (.tmp 28) (.tmp 32) (.c (.bool false))), none⟩, none⟩, ⟨⟨(some 2), (.mv (.tmp 33)), none⟩, none⟩]) .ret) (.seq (.ops false [⟨⟨(some 35), (.binS .eql (.tmp 18) (.c (.str [(102), (97), (117), (108), (116)]))), none⟩, none⟩, ⟨⟨(some 34), (.mv (.tmp 35)), none⟩, none⟩]) (.cond (.tmp 34) (.seq (.ops false [⟨⟨(some 36), (.fldA 1 (.tmp 1)), none⟩, none⟩, ⟨⟨(some 37), (.ld false 1 (.tmp 36)), none⟩, (some (.isl .u8))⟩, ⟨⟨(some 38), (.len (.tmp 37)), none⟩, none⟩, ⟨⟨(some 39), (.bin .eql (.tmp 38) (.c (.int .i64 (0)))), none⟩, none⟩, ⟨⟨(some 40), (.mv (.tmp 39)), none⟩, none⟩, ⟨⟨(some 41), (.fldA 2 (.tmp 1)), (some (40, true))⟩, none⟩, ⟨⟨(some 42), (.ld false 1 (.tmp 41)), (some (40, true))⟩, (some (.int .i64))⟩, ⟨⟨(some 43), (.call (.func 23) [(.tmp 42)]), (some (40, true))⟩, none⟩, ⟨⟨(some 44), (.pick (.tmp 40) (.tmp 43) (.c (.bool false))), none⟩, none⟩, ⟨⟨(some 45), (.mv (.tmp 44)), none⟩, none⟩, ⟨⟨(some 46), (.fldA 3 (.tmp 1)), (some (45, true))⟩, none⟩, ⟨⟨(some 47), (.ld false 1 (.tmp 46)), (some (45, true))⟩, (some (.int .i64))⟩, ⟨⟨(some 48), (.call (.func 23) [(.tmp 47)]), (some (45, true))⟩, none⟩, ⟨⟨(some 49), (.pick (.tmp 45) (.tmp 48) (.c (.bool false))), none⟩, none⟩, ⟨⟨(some 50), (.mv (.tmp 49)), none⟩, none⟩, ⟨⟨(some 51), (.fldA 4 (.tmp 1)), (some (50, true))⟩, none⟩, ⟨⟨(some 52), (.ld false 1 (.tmp 51)), (some (50, true))⟩, (some (.int .i64))⟩, ⟨⟨(some 53), (.call (.func 23) [(.tmp 52)]), (some (50, true))⟩, none⟩, ⟨⟨(some 54), (.pick (.tmp 50) (.tmp 53) (.c (.bool false))), none⟩, none⟩, ⟨⟨(some 2), (.mv (.tmp 54)), none⟩, none⟩]) .ret) .skip)))))) (.seq (.ops false [⟨⟨(some 55), (.fldA 0 (.tmp 1)), none⟩, none⟩, ⟨⟨(some 56), (.ld false 1 (.tmp 55)), none⟩, (some .str)⟩, ⟨⟨(some 57), (.binS .eql (.tmp 56) (.c (.str [(114), (101), (115), (101), (116)]))), none⟩, none⟩, ⟨⟨(some 58), (.mv (.tmp 57)), none⟩, none⟩, ⟨⟨(some 59), (.mv (.tmp 3)), (some (58, true))⟩, none⟩, ⟨⟨(some 60), (.pick (.tmp 58) (.tmp 59) (.c (.bool false))), none⟩, none⟩, ⟨⟨(some 61), (.mv (.tmp 60)), none⟩, none⟩, ⟨⟨(some 62), (.fldA 1 (.tmp 1)), (some (61, true))⟩, none⟩, ⟨⟨(some 63), (.ld false 1 (.tmp 62)), (some (61, true))⟩, (some (.isl .u8))⟩, ⟨⟨(some 64), (.len (.tmp 63)), (some (61, true))⟩, none⟩, ⟨⟨(some 65), (.bin .eql (.tmp 64) (.c (.int .i64 (0)))), (some (61, true))⟩, none⟩, ⟨⟨(some 66), (.pick (.tmp 61) (.tmp 65) (.c (.bool false))), none⟩, none⟩, ⟨⟨(some 2), (.mv (.tmp 66)), none⟩, none⟩]) .ret))))
def rs_flight_Right : List ResultVar := [(.tmp 2)]
theorem ir_flight_Right : compCode Tryd.prog (Tryd.f14.body.getD .skip) [] = some (xr_flight_Right.erase, []) := by kernel_rfl
def gm_flight_Right : Gam := (Gam.fn 23 as_flight_small ga_flight_small em_flight_small Gam.bot)
theorem gk_flight_Right : GamOk Tryd.prog GG gm_flight_Right := (GamOk.fn at_flight_small GamOk.bot)
def lm_flight_Right : Lam := fun _ j S kn ke => match j with
  | _ => .fail
def go_flight_Right (l0 : List Int) (b1 : Bool) (b2 : Bool) (l3 : List Int) (n4 : Int) (n5 : Int) (n6 : Int) : Option Bool :=
  bif (n4 == 0) then
   bif (n5 == 0) then
    bif (l0 == [102, 101, 101, 100]) then
     bif (n6 == 0) then
      bif (decide ((((List.length l3) : Nat) : Int) ≥ 1)) then
       some (decide ((((List.length l3) : Nat) : Int) ≤ 600))
      else
       some false
     else
      some false
    else
     bif (l0 == [102, 97, 117, 108, 116]) then
      bif ((((List.length l3) : Nat) : Int) == 0) then
       (go_flight_small n4).bind fun r7 =>
       bif r7 then
        (go_flight_small n5).bind fun r8 =>
        bif r8 then
         (go_flight_small n6).bind fun r9 =>
         some r9
        else
         some false
       else
        some false
      else
       some false
     else
      bif (l0 == [114, 101, 115, 101, 116]) then
       bif (n6 == 0) then
        some ((((List.length l3) : Nat) : Int) == 0)
       else
        some false
      else
       some false
   else
    bif (l0 == [102, 101, 101, 100]) then
     some false
    else
     bif (l0 == [102, 97, 117, 108, 116]) then
      bif ((((List.length l3) : Nat) : Int) == 0) then
       (go_flight_small n4).bind fun r10 =>
       bif r10 then
        (go_flight_small n5).bind fun r11 =>
        bif r11 then
         (go_flight_small n6).bind fun r12 =>
         some r12
        else
         some false
       else
        some false
      else
       some false
     else
      bif (l0 == [114, 101, 115, 101, 116]) then
       some false
      else
       some false
  else
   bif (l0 == [102, 101, 101, 100]) then
    some false
   else
    bif (l0 == [102, 97, 117, 108, 116]) then
     bif ((((List.length l3) : Nat) : Int) == 0) then
      (go_flight_small n4).bind fun r13 =>
      bif r13 then
       (go_flight_small n5).bind fun r14 =>
       bif r14 then
        (go_flight_small n6).bind fun r15 =>
        some r15
       else
        some false
      else
       some false
     else
      some false
    else
     bif (l0 == [114, 101, 115, 101, 116]) then
      some false
     else
      some false
def em_flight_Right (r : Bool) : PV := (.bool r)
def rh_flight_Right : Shp := .bool
def ra_flight_Right (v : PV) : Bool := v.tru
def kf_flight_Right (v : PV) : Tree Bool := .chk (rh_flight_Right.ok v) (.leaf (ra_flight_Right v))
theorem rn_flight_Right (l0 : List Int) (b1 : Bool) (b2 : Bool) (l3 : List Int) (n4 : Int) (n5 : Int) (n6 : Int) : (ev GG gm_flight_Right lm_flight_Right xr_flight_Right ⟨slots 67 0 [(0, .p (.agg [(.str l0), (.isl b1 b2 .u8 l3), (.int .i64 n4), (.int .i64 n5), (.int .i64 n6)]))], []⟩ (fun S => finT Tryd.prog rs_flight_Right S kf_flight_Right) (retT Tryd.prog rs_flight_Right kf_flight_Right)).run = go_flight_Right l0 b1 b2 l3 n4 n5 n6 := by kernel_rfl
theorem ok_flight_Right (l0 : List Int) (b1 : Bool) (b2 : Bool) (l3 : List Int) (n4 : Int) (n5 : Int) (n6 : Int) (r : Bool) (h : go_flight_Right l0 b1 b2 l3 n4 n5 n6 = some r) : FunEq Tryd.prog GG 14 [(.agg [(.str l0), (.isl b1 b2 .u8 l3), (.int .i64 n4), (.int .i64 n5), (.int .i64 n6)])] (em_flight_Right r) :=
  fun_of_ev (x := xr_flight_Right) (Λ := lm_flight_Right) gk_flight_Right [] Tryd.func14 rfl (by kernel_rfl) ir_flight_Right (by kernel_rfl) (congrArg Array.toList Tryd.results14) Tryd.ntmps14 (⟨trivial, ⟨trivial, ⟨⟨trivial, ⟨trivial, ⟨⟨trivial, trivial⟩, ⟨trivial, ⟨⟨trivial, trivial⟩, trivial⟩⟩⟩⟩⟩, ⟨trivial, trivial⟩⟩⟩⟩) (leaf_of fun v => (by kernel_rfl : rh_flight_Right.build v = em_flight_Right (ra_flight_Right v))) (by kernel_rfl) ((rn_flight_Right l0 b1 b2 l3 n4 n5 n6).trans h)
def as_flight_Right : List Shp := [(.agg [.str, (.isl .u8), (.int .i64), (.int .i64), (.int .i64)])]
def ga_flight_Right (vs : List PV) : Option Bool := go_flight_Right (((tls 0 vs).headD .nilSl).subs.headD .nilSl).chars (((tls 0 vs).headD .nilSl).subs.tail.headD .nilSl).nl (((tls 0 vs).headD .nilSl).subs.tail.headD .nilSl).ex (((tls 0 vs).headD .nilSl).subs.tail.headD .nilSl).ints (((tls 0 vs).headD .nilSl).subs.tail.tail.headD .nilSl).num (((tls 0 vs).headD .nilSl).subs.tail.tail.tail.headD .nilSl).num (((tls 0 vs).headD .nilSl).subs.tail.tail.tail.tail.headD .nilSl).num
theorem at_flight_Right : FnAt Tryd.prog GG 14 as_flight_Right ga_flight_Right em_flight_Right := fun vs h r hr => by
  have e : Shp.buildL as_flight_Right vs = [(.agg [(.str (((tls 0 vs).headD .nilSl).subs.headD .nilSl).chars), (.isl (((tls 0 vs).headD .nilSl).subs.tail.headD .nilSl).nl (((tls 0 vs).headD .nilSl).subs.tail.headD .nilSl).ex .u8 (((tls 0 vs).headD .nilSl).subs.tail.headD .nilSl).ints), (.int .i64 (((tls 0 vs).headD .nilSl).subs.tail.tail.headD .nilSl).num), (.int .i64 (((tls 0 vs).headD .nilSl).subs.tail.tail.tail.headD .nilSl).num), (.int .i64 (((tls 0 vs).headD .nilSl).subs.tail.tail.tail.tail.headD .nilSl).num)])] := by kernel_rfl
  rw [← Shp.buildL_eq _ h, e]
  exact .inl ⟨by decide, ok_flight_Right _ _ _ _ _ _ _ r hr⟩
def xb_flight_line_0 : XR := (.seq (.ops false [⟨⟨(some 19), (.bin .lss (.tmp 18) (.tmp 17)), none⟩, none⟩]) (.seq (.cond (.tmp 19) .skip (.exit 0)) (.seq (.block 1 (.seq (.ops false [⟨⟨(some 20), (.ixA 1 (.tmp 16) (.tmp 18)), none⟩, none⟩, ⟨⟨(some 21), (.ld false 1 (.tmp 20)), none⟩, (some (.int .u8))⟩, ⟨⟨(some 5), (.mv (.tmp 21)), none⟩, none⟩]) (.ops true [⟨⟨(some 22), (.mv (.tmp 3)), none⟩, none⟩, ⟨⟨(some 23), (.mv (.tmp 5)), none⟩, none⟩, ⟨⟨(some 24), (.bin .shr (.tmp 23) (.c (.int .u64 (4)))), none⟩, none⟩, ⟨⟨(some 25), (.ixS (.c (.str [(48), (49), (50), (51), (52), (53), (54), (55), (56), (57), (97), (98), (99), (100), (101), (102)])) (.tmp 24)), none⟩, none⟩, ⟨⟨(some 26), (.cvtRS (.tmp 25)), none⟩, none⟩, ⟨⟨(some 27), (.mv (.tmp 5)), none⟩, none⟩, ⟨⟨(some 28), (.bin .and (.tmp 27) (.c (.int .u8 (15)))), none⟩, none⟩, ⟨⟨(some 29), (.ixS (.c (.str [(48), (49), (50), (51), (52), (53), (54), (55), (56), (57), (97), (98), (99), (100), (101), (102)])) (.tmp 28)), none⟩, none⟩, ⟨⟨(some 30), (.cvtRS (.tmp 29)), none⟩, none⟩, ⟨⟨(some 31), (.binS .add (.tmp 26) (.tmp 30)), none⟩, none⟩, ⟨⟨(some 32), (.binS .add (.tmp 22) (.tmp 31)), none⟩, none⟩, ⟨⟨(some 3), (.mv (.tmp 32)), none⟩, none⟩]))) (.ops false [⟨⟨(some 33), (.bin .add (.tmp 18) (.c (.int .i64 (1)))), none⟩, none⟩, ⟨⟨(some 18), (.mv (.tmp 33)), none⟩, none⟩]))))
def xb_flight_line_1 : XR := (.seq (.ops false [⟨⟨(some 45), (.bin .lss (.tmp 44) (.c (.int .i64 (3)))), none⟩, none⟩]) (.seq (.cond (.tmp 45) .skip (.exit 2)) (.seq (.block 3 (.seq (.ops false [⟨⟨(some 46), (.ixV false 1 3 (.tmp 43) (.tmp 44)), none⟩, none⟩, ⟨⟨(some 7), (.mv (.tmp 46)), none⟩, none⟩]) (.ops false [⟨⟨(some 47), (.mv (.tmp 3)), none⟩, none⟩, ⟨⟨(some 48), (.mv (.tmp 7)), none⟩, none⟩, ⟨⟨(some 49), (.call (.func 36) [(.tmp 48)]), none⟩, none⟩, ⟨⟨(some 50), (.binS .add (.c (.str [(32)])) (.tmp 49)), none⟩, none⟩, ⟨⟨(some 51), (.binS .add (.tmp 47) (.tmp 50)), none⟩, none⟩, ⟨⟨(some 3), (.mv (.tmp 51)), none⟩, none⟩]))) (.ops false [⟨⟨(some 52), (.bin .add (.tmp 44) (.c (.int .i64 (1)))), none⟩, none⟩, ⟨⟨(some 44), (.mv (.tmp 52)), none⟩, none⟩]))))
def xr_flight_line : XR := (.seq (.ops false [⟨⟨(some 1), (.box 35 (.tmp 0)), none⟩, none⟩, ⟨⟨(some 2), (.mv (.c (.str []))), none⟩, none⟩]) (.seq (.ops false [⟨⟨(some 8), (.fldA 0 (.tmp 1)), none⟩, none⟩, ⟨⟨(some 9), (.ld false 1 (.tmp 8)), none⟩, (some .str)⟩, ⟨⟨(some 3), (.mv (.tmp 9)), none⟩, none⟩]) (.seq (.seq (.ops false [⟨⟨(some 10), (.fldA 0 (.tmp 1)), none⟩, none⟩, ⟨⟨(some 11), (.ld false 1 (.tmp 10)), none⟩, (some .str)⟩, ⟨⟨(some 12), (.binS .eql (.tmp 11) (.c (.str [(102), (101), (101), (100)]))), none⟩, none⟩]) (.cond (.tmp 12) (.seq (.ops false [⟨⟨(some 13), (.mv (.tmp 3)), none⟩, none⟩, ⟨⟨(some 14), (.binS .add (.tmp 13) (.c (.str [(32)]))), none⟩, none⟩, ⟨⟨(some 3), (.mv (.tmp 14)), none⟩, none⟩]) (.seq (.ops false [⟨⟨(some 15), (.fldA 1 (.tmp 1)), none⟩, none⟩, ⟨⟨(some 16), (.ld false 1 (.tmp 15)), none⟩, (some (.isl .u8))⟩, ⟨⟨(some 17), (.len (.tmp 16)), none⟩, none⟩, ⟨⟨(some 18), (.mv (.c (.int .i64 (0)))), none⟩, none⟩]) (.block 0 (.loop 0 [1, 3, 16, 17, 18] xb_flight_line_0)))) .skip)) (.seq (.seq (.ops false [⟨⟨(some 34), (.fldA 0 (.tmp 1)), none⟩, none⟩, ⟨⟨(some 35), (.ld false 1 (.tmp 34)), none⟩, (some .str)⟩, ⟨⟨(some 36), (.binS .eql (.tmp 35) (.c (.str [(102), (97), (117), (108), (116)]))), none⟩, none⟩]) (.cond (.tmp 36) (.seq (.ops false [⟨⟨(some 37), (.fldA 2 (.tmp 1)), none⟩, none⟩, ⟨⟨(some 38), (.ld false 1 (.tmp 37)), none⟩, (some (.int .i64))⟩, ⟨⟨(some 39), (.fldA 3 (.tmp 1)), none⟩, none⟩, ⟨⟨(some 40), (.ld false 1 (.tmp 39)), none⟩, (some (.int .i64))⟩, ⟨⟨(some 41), (.fldA 4 (.tmp 1)), none⟩, none⟩, ⟨⟨(some 42), (.ld false 1 (.tmp 41)), none⟩, (some (.int .i64))⟩, ⟨⟨(some 43), (.build [(.int .i64 (0)), (.int .i64 (0)), (.int .i64 (0))] [(0, (1, (.tmp 38))), (1, (1, (.tmp 40))), (2, (1, (.tmp 42)))]), none⟩, none⟩, ⟨⟨(some 44), (.mv (.c (.int .i64 (0)))), none⟩, none⟩]) (.block 2 (.loop 1 [3, 43, 44] xb_flight_line_1))) .skip)) (.seq (.ops false [⟨⟨(some 53), (.mv (.tmp 3)), none⟩, none⟩, ⟨⟨(some 54), (.binS .add (.tmp 53) (.c (.str [(10)]))), none⟩, none⟩, ⟨⟨(some 2), (.mv (.tmp 54)), none⟩, none⟩]) .ret)))))
def rs_flight_line : List ResultVar := [(.tmp 2)]
theorem ir_flight_line : compCode Tryd.prog (Tryd.f27.body.getD .skip) [[1, 3, 16, 17, 18], [3, 43, 44]] = some (xr_flight_line.erase, []) := by kernel_rfl
def gm_flight_line : Gam := (Gam.fn 36 as_strconv_Itoa ga_strconv_Itoa em_strconv_Itoa Gam.bot)
theorem gk_flight_line : GamOk Tryd.prog GG gm_flight_line := (GamOk.fn at_strconv_Itoa GamOk.bot)
def st_flight_line_1 (l21 : List Int) (n22 : Int) (n23 : Int) (n24 : Int) (n25 : Int) : Option (((List Int × Int × Int × Int × Int)) ⊕ (((List Int)))) :=
  bif (decide (n25 < 3)) then
   bif (decide (0 ≤ n25)) then
    bif (decide (n25 < ((3 : Nat) : Int))) then
     bif ((Int.toNat n25) == 0) then
      (go_strconv_Itoa n22).bind fun r26 =>
      bif (decide ((1 + (List.length r26)) ≤ 4611686018427387904)) then
       bif (decide (((List.length l21) + (List.length ([32] ++ r26))) ≤ 4611686018427387904)) then
        some (Sum.inl ((l21 ++ ([32] ++ r26)), n22, n23, n24, (IntKind.wrap .i64 (n25 + 1))))
       else none
      else none
     else
      bif ((Int.toNat n25) == 1) then
       (go_strconv_Itoa n23).bind fun r27 =>
       bif (decide ((1 + (List.length r27)) ≤ 4611686018427387904)) then
        bif (decide (((List.length l21) + (List.length ([32] ++ r27))) ≤ 4611686018427387904)) then
         some (Sum.inl ((l21 ++ ([32] ++ r27)), n22, n23, n24, (IntKind.wrap .i64 (n25 + 1))))
        else none
       else none
      else
       bif ((Int.toNat n25) == 2) then
        (go_strconv_Itoa n24).bind fun r28 =>
        bif (decide ((1 + (List.length r28)) ≤ 4611686018427387904)) then
         bif (decide (((List.length l21) + (List.length ([32] ++ r28))) ≤ 4611686018427387904)) then
          some (Sum.inl ((l21 ++ ([32] ++ r28)), n22, n23, n24, (IntKind.wrap .i64 (n25 + 1))))
         else none
        else none
       else
        none
    else none
   else none
  else
   some (Sum.inr l21)
def lp_flight_line_1 (l21 : List Int) (n22 : Int) (n23 : Int) (n24 : Int) (n25 : Int) : Option (((List Int))) := loopN (X := (List Int × Int × Int × Int × Int)) (fun x => st_flight_line_1 x.1 x.2.1 x.2.2.1 x.2.2.2.1 x.2.2.2.2) (l21, n22, n23, n24, n25)
def sh_flight_line_1 : StSh := ⟨55, [(3, (.p .str)), (43, (.p (.agg [(.int .i64), (.int .i64), (.int .i64)]))), (44, (.p (.int .i64)))], []⟩
def sx_flight_line_1 (x : (List Int × Int × Int × Int × Int)) : St := ⟨slots 55 0 [(3, (.p (.str x.1))), (43, (.p (.agg [(.int .i64 x.2.1), (.int .i64 x.2.2.1), (.int .i64 x.2.2.2.1)]))), (44, (.p (.int .i64 x.2.2.2.2)))], []⟩
def sa_flight_line_1 (S : St) : (List Int × Int × Int × Int × Int) := (((tls 3 S.t).headD .any).pv.chars, (((tls 43 S.t).headD .any).pv.subs.headD .nilSl).num, (((tls 43 S.t).headD .any).pv.subs.tail.headD .nilSl).num, (((tls 43 S.t).headD .any).pv.subs.tail.tail.headD .nilSl).num, ((tls 44 S.t).headD .any).pv.num)
def tz_flight_line_1_0 : StSh := ⟨55, [(3, (.p .str))], []⟩
def tx_flight_line_1_0 (x : (List Int)) : St := ⟨slots 55 0 [(3, (.p (.str x)))], []⟩
def ta_flight_line_1_0 (S : St) : (List Int) := ((tls 3 S.t).headD .any).pv.chars
def kb_flight_line_1 : Exit → St → Tree (((List Int × Int × Int × Int × Int)) ⊕ (((List Int)))) := (exOne (.exit 2) [3] tz_flight_line_1_0 ta_flight_line_1_0 (fun y => Sum.inr (y)) exNil)
def ky_flight_line_1 : Dec (((List Int))) := fun _ y ke => ke ((.exit 2) : EK).ex (tx_flight_line_1_0 y)
theorem kk_flight_line_1 : ExOk Sum.inr kb_flight_line_1 ky_flight_line_1 := (ExOk.one (acc := ta_flight_line_1_0) (bY := tx_flight_line_1_0) (inj1 := fun y => y) (fun S => by kernel_rfl) (fun y _ ke => .inr (by kernel_rfl)) ExOk.nil)
def st_flight_line_0 (l7 : List Int) (b8 : Bool) (b9 : Bool) (l10 : List Int) (n11 : Int) (n12 : Int) (l13 : List Int) (b14 : Bool) (b15 : Bool) (l16 : List Int) (n17 : Int) (n18 : Int) (n19 : Int) : Option (((List Int × Bool × Bool × List Int × Int × Int × List Int × Bool × Bool × List Int × Int × Int × Int)) ⊕ (((List Int × List Int × Bool × Bool × List Int × Int × Int × Int)))) :=
  bif (decide (n12 < n11)) then
   bif (decide (0 ≤ n12)) then
    bif (decide (n12 < (((List.length l10) : Nat) : Int))) then
     bif (decide ((Int.toNat n12) < (List.length l10))) then
      bif (decide (0 ≤ ((List.getD l10 (Int.toNat n12) 0) / 16))) then
       bif (decide (((List.getD l10 (Int.toNat n12) 0) / 16) < ((16 : Nat) : Int))) then
        bif (decide ((IntKind.wrap .u8 (bAnd .u8 (List.getD l10 (Int.toNat n12) 0) 15)) < ((16 : Nat) : Int))) then
         bif (decide (((List.length (signB (List.getD [48, 49, 50, 51, 52, 53, 54, 55, 56, 57, 97, 98, 99, 100, 101, 102] (Int.toNat ((List.getD l10 (Int.toNat n12) 0) / 16)) 0))) + (List.length (signB (List.getD [48, 49, 50, 51, 52, 53, 54, 55, 56, 57, 97, 98, 99, 100, 101, 102] (Int.toNat (IntKind.wrap .u8 (bAnd .u8 (List.getD l10 (Int.toNat n12) 0) 15))) 0)))) ≤ 4611686018427387904)) then
          bif (decide (((List.length l7) + (List.length ((signB (List.getD [48, 49, 50, 51, 52, 53, 54, 55, 56, 57, 97, 98, 99, 100, 101, 102] (Int.toNat ((List.getD l10 (Int.toNat n12) 0) / 16)) 0)) ++ (signB (List.getD [48, 49, 50, 51, 52, 53, 54, 55, 56, 57, 97, 98, 99, 100, 101, 102] (Int.toNat (IntKind.wrap .u8 (bAnd .u8 (List.getD l10 (Int.toNat n12) 0) 15))) 0))))) ≤ 4611686018427387904)) then
           some (Sum.inl ((l7 ++ ((signB (List.getD [48, 49, 50, 51, 52, 53, 54, 55, 56, 57, 97, 98, 99, 100, 101, 102] (Int.toNat ((List.getD l10 (Int.toNat n12) 0) / 16)) 0)) ++ (signB (List.getD [48, 49, 50, 51, 52, 53, 54, 55, 56, 57, 97, 98, 99, 100, 101, 102] (Int.toNat (IntKind.wrap .u8 (bAnd .u8 (List.getD l10 (Int.toNat n12) 0) 15))) 0)))), b8, b9, l10, n11, (IntKind.wrap .i64 (n12 + 1)), l13, b14, b15, l16, n17, n18, n19))
          else none
         else none
        else none
       else none
      else none
     else none
    else none
   else none
  else
   some (Sum.inr (l7, l13, b14, b15, l16, n17, n18, n19))
def lp_flight_line_0 (l7 : List Int) (b8 : Bool) (b9 : Bool) (l10 : List Int) (n11 : Int) (n12 : Int) (l13 : List Int) (b14 : Bool) (b15 : Bool) (l16 : List Int) (n17 : Int) (n18 : Int) (n19 : Int) : Option (((List Int × List Int × Bool × Bool × List Int × Int × Int × Int))) := loopN (X := (List Int × Bool × Bool × List Int × Int × Int × List Int × Bool × Bool × List Int × Int × Int × Int)) (fun x => st_flight_line_0 x.1 x.2.1 x.2.2.1 x.2.2.2.1 x.2.2.2.2.1 x.2.2.2.2.2.1 x.2.2.2.2.2.2.1 x.2.2.2.2.2.2.2.1 x.2.2.2.2.2.2.2.2.1 x.2.2.2.2.2.2.2.2.2.1 x.2.2.2.2.2.2.2.2.2.2.1 x.2.2.2.2.2.2.2.2.2.2.2.1 x.2.2.2.2.2.2.2.2.2.2.2.2) (l7, b8, b9, l10, n11, n12, l13, b14, b15, l16, n17, n18, n19)
def sh_flight_line_0 : StSh := ⟨55, [(1, (.ptr 0 0)), (3, (.p .str)), (16, (.p (.isl .u8))), (17, (.p (.int .i64))), (18, (.p (.int .i64)))], [(.box 35 [(.p .str), (.p (.isl .u8)), (.p (.int .i64)), (.p (.int .i64)), (.p (.int .i64))])]⟩
def sx_flight_line_0 (x : (List Int × Bool × Bool × List Int × Int × Int × List Int × Bool × Bool × List Int × Int × Int × Int)) : St := ⟨slots 55 0 [(1, (.ptr 0 0)), (3, (.p (.str x.1))), (16, (.p (.isl x.2.1 x.2.2.1 .u8 x.2.2.2.1))), (17, (.p (.int .i64 x.2.2.2.2.1))), (18, (.p (.int .i64 x.2.2.2.2.2.1)))], [(.box 35 [(.p (.str x.2.2.2.2.2.2.1)), (.p (.isl x.2.2.2.2.2.2.2.1 x.2.2.2.2.2.2.2.2.1 .u8 x.2.2.2.2.2.2.2.2.2.1)), (.p (.int .i64 x.2.2.2.2.2.2.2.2.2.2.1)), (.p (.int .i64 x.2.2.2.2.2.2.2.2.2.2.2.1)), (.p (.int .i64 x.2.2.2.2.2.2.2.2.2.2.2.2))])]⟩
def sa_flight_line_0 (S : St) : (List Int × Bool × Bool × List Int × Int × Int × List Int × Bool × Bool × List Int × Int × Int × Int) := (((tls 3 S.t).headD .any).pv.chars, ((tls 16 S.t).headD .any).pv.nl, ((tls 16 S.t).headD .any).pv.ex, ((tls 16 S.t).headD .any).pv.ints, ((tls 17 S.t).headD .any).pv.num, ((tls 18 S.t).headD .any).pv.num, (((tls 0 S.own).headD .gone).subs.headD .any).pv.chars, (((tls 0 S.own).headD .gone).subs.tail.headD .any).pv.nl, (((tls 0 S.own).headD .gone).subs.tail.headD .any).pv.ex, (((tls 0 S.own).headD .gone).subs.tail.headD .any).pv.ints, (((tls 0 S.own).headD .gone).subs.tail.tail.headD .any).pv.num, (((tls 0 S.own).headD .gone).subs.tail.tail.tail.headD .any).pv.num, (((tls 0 S.own).headD .gone).subs.tail.tail.tail.tail.headD .any).pv.num)
def tz_flight_line_0_0 : StSh := ⟨55, [(1, (.ptr 0 0)), (3, (.p .str))], [(.box 35 [(.p .str), (.p (.isl .u8)), (.p (.int .i64)), (.p (.int .i64)), (.p (.int .i64))])]⟩
def tx_flight_line_0_0 (x : (List Int × List Int × Bool × Bool × List Int × Int × Int × Int)) : St := ⟨slots 55 0 [(1, (.ptr 0 0)), (3, (.p (.str x.1)))], [(.box 35 [(.p (.str x.2.1)), (.p (.isl x.2.2.1 x.2.2.2.1 .u8 x.2.2.2.2.1)), (.p (.int .i64 x.2.2.2.2.2.1)), (.p (.int .i64 x.2.2.2.2.2.2.1)), (.p (.int .i64 x.2.2.2.2.2.2.2))])]⟩
def ta_flight_line_0_0 (S : St) : (List Int × List Int × Bool × Bool × List Int × Int × Int × Int) := (((tls 3 S.t).headD .any).pv.chars, (((tls 0 S.own).headD .gone).subs.headD .any).pv.chars, (((tls 0 S.own).headD .gone).subs.tail.headD .any).pv.nl, (((tls 0 S.own).headD .gone).subs.tail.headD .any).pv.ex, (((tls 0 S.own).headD .gone).subs.tail.headD .any).pv.ints, (((tls 0 S.own).headD .gone).subs.tail.tail.headD .any).pv.num, (((tls 0 S.own).headD .gone).subs.tail.tail.tail.headD .any).pv.num, (((tls 0 S.own).headD .gone).subs.tail.tail.tail.tail.headD .any).pv.num)
def kb_flight_line_0 : Exit → St → Tree (((List Int × Bool × Bool × List Int × Int × Int × List Int × Bool × Bool × List Int × Int × Int × Int)) ⊕ (((List Int × List Int × Bool × Bool × List Int × Int × Int × Int)))) := (exOne (.exit 0) [1, 3] tz_flight_line_0_0 ta_flight_line_0_0 (fun y => Sum.inr (y)) exNil)
def ky_flight_line_0 : Dec (((List Int × List Int × Bool × Bool × List Int × Int × Int × Int))) := fun _ y ke => ke ((.exit 0) : EK).ex (tx_flight_line_0_0 y)
theorem kk_flight_line_0 : ExOk Sum.inr kb_flight_line_0 ky_flight_line_0 := (ExOk.one (acc := ta_flight_line_0_0) (bY := tx_flight_line_0_0) (inj1 := fun y => y) (fun S => by kernel_rfl) (fun y _ ke => .inr (by kernel_rfl)) ExOk.nil)
def lm_flight_line : Lam := fun _ j S kn ke => match j with
  | 0 => prepT [1, 3, 16, 17, 18] [] S fun S => .chk (sh_flight_line_0.ok S) (.bind (loopN (fun x => st_flight_line_0 x.1 x.2.1 x.2.2.1 x.2.2.2.1 x.2.2.2.2.1 x.2.2.2.2.2.1 x.2.2.2.2.2.2.1 x.2.2.2.2.2.2.2.1 x.2.2.2.2.2.2.2.2.1 x.2.2.2.2.2.2.2.2.2.1 x.2.2.2.2.2.2.2.2.2.2.1 x.2.2.2.2.2.2.2.2.2.2.2.1 x.2.2.2.2.2.2.2.2.2.2.2.2) (sa_flight_line_0 S)) fun y => ky_flight_line_0 _ y ke)
  | 1 => prepT [3, 43, 44] [] S fun S => .chk (sh_flight_line_1.ok S) (.bind (loopN (fun x => st_flight_line_1 x.1 x.2.1 x.2.2.1 x.2.2.2.1 x.2.2.2.2) (sa_flight_line_1 S)) fun y => ky_flight_line_1 _ y ke)
  | _ => .fail
theorem sr_flight_line_1 (x : (List Int × Int × Int × Int × Int)) : (ev GG gm_flight_line lm_flight_line xb_flight_line_1 (sx_flight_line_1 x) (fun S => forgetT [3, 43, 44] S fun S => prepT [3, 43, 44] [] S fun S => .chk (sh_flight_line_1.ok S) (.leaf (.inl (sa_flight_line_1 S)))) kb_flight_line_1).run = st_flight_line_1 x.1 x.2.1 x.2.2.1 x.2.2.2.1 x.2.2.2.2 := by kernel_rfl
theorem la_flight_line_1 : LamAt Tryd.prog GG lm_flight_line 1 (.loop [3, 43, 44] xb_flight_line_1.erase) := lam_loop (body := xb_flight_line_1) (Λ' := lm_flight_line) gk_flight_line (⟨trivial, ⟨⟨trivial, trivial⟩, ⟨⟨trivial, trivial⟩, trivial⟩⟩⟩) (fun S => (by kernel_rfl : sh_flight_line_1.build S = sx_flight_line_1 (sa_flight_line_1 S))) kk_flight_line_1 sr_flight_line_1 (fun _ _ _ => rfl)
theorem sr_flight_line_0 (x : (List Int × Bool × Bool × List Int × Int × Int × List Int × Bool × Bool × List Int × Int × Int × Int)) : (ev GG gm_flight_line lm_flight_line xb_flight_line_0 (sx_flight_line_0 x) (fun S => forgetT [1, 3, 16, 17, 18] S fun S => prepT [1, 3, 16, 17, 18] [] S fun S => .chk (sh_flight_line_0.ok S) (.leaf (.inl (sa_flight_line_0 S)))) kb_flight_line_0).run = st_flight_line_0 x.1 x.2.1 x.2.2.1 x.2.2.2.1 x.2.2.2.2.1 x.2.2.2.2.2.1 x.2.2.2.2.2.2.1 x.2.2.2.2.2.2.2.1 x.2.2.2.2.2.2.2.2.1 x.2.2.2.2.2.2.2.2.2.1 x.2.2.2.2.2.2.2.2.2.2.1 x.2.2.2.2.2.2.2.2.2.2.2.1 x.2.2.2.2.2.2.2.2.2.2.2.2 := by kernel_rfl
theorem la_flight_line_0 : LamAt Tryd.prog GG lm_flight_line 0 (.loop [1, 3, 16, 17, 18] xb_flight_line_0.erase) := lam_loop (body := xb_flight_line_0) (Λ' := lm_flight_line) gk_flight_line (⟨trivial, ⟨⟨trivial, trivial⟩, ⟨⟨trivial, trivial⟩, trivial⟩⟩⟩) (fun S => (by kernel_rfl : sh_flight_line_0.build S = sx_flight_line_0 (sa_flight_line_0 S))) kk_flight_line_0 sr_flight_line_0 (fun _ _ _ => rfl)
def go_flight_line (l0 : List Int) (b1 : Bool) (b2 : Bool) (l3 : List Int) (n4 : Int) (n5 : Int) (n6 : Int) : Option (List Int) :=
  bif (l0 == [102, 101, 101, 100]) then
   bif (decide (((List.length l0) + 1) ≤ 4611686018427387904)) then
    (lp_flight_line_0 (l0 ++ [32]) b1 b2 l3 (((List.length l3) : Nat) : Int) 0 l0 b1 b2 l3 n4 n5 n6).bind fun y20 =>
    bif (y20.2.1 == [102, 97, 117, 108, 116]) then
     (lp_flight_line_1 y20.1 y20.2.2.2.2.2.1 y20.2.2.2.2.2.2.1 y20.2.2.2.2.2.2.2 0).bind fun y29 =>
     bif (decide (((List.length y29) + 1) ≤ 4611686018427387904)) then
      some (y29 ++ [10])
     else none
    else
     bif (decide (((List.length y20.1) + 1) ≤ 4611686018427387904)) then
      some (y20.1 ++ [10])
     else none
   else none
  else
   bif (l0 == [102, 97, 117, 108, 116]) then
    (lp_flight_line_1 l0 n4 n5 n6 0).bind fun y30 =>
    bif (decide (((List.length y30) + 1) ≤ 4611686018427387904)) then
     some (y30 ++ [10])
    else none
   else
    bif (decide (((List.length l0) + 1) ≤ 4611686018427387904)) then
     some (l0 ++ [10])
    else none
def em_flight_line (r : (List Int)) : PV := (.str r)
def rh_flight_line : Shp := .str
def ra_flight_line (v : PV) : (List Int) := v.chars
def kf_flight_line (v : PV) : Tree (List Int) := .chk (rh_flight_line.ok v) (.leaf (ra_flight_line v))
theorem rn_flight_line (l0 : List Int) (b1 : Bool) (b2 : Bool) (l3 : List Int) (n4 : Int) (n5 : Int) (n6 : Int) : (ev GG gm_flight_line lm_flight_line xr_flight_line ⟨slots 55 0 [(0, .p (.agg [(.str l0), (.isl b1 b2 .u8 l3), (.int .i64 n4), (.int .i64 n5), (.int .i64 n6)]))], []⟩ (fun S => finT Tryd.prog rs_flight_line S kf_flight_line) (retT Tryd.prog rs_flight_line kf_flight_line)).run = go_flight_line l0 b1 b2 l3 n4 n5 n6 := by kernel_rfl
theorem ok_flight_line (l0 : List Int) (b1 : Bool) (b2 : Bool) (l3 : List Int) (n4 : Int) (n5 : Int) (n6 : Int) (r : (List Int)) (h : go_flight_line l0 b1 b2 l3 n4 n5 n6 = some r) : FunEq Tryd.prog GG 27 [(.agg [(.str l0), (.isl b1 b2 .u8 l3), (.int .i64 n4), (.int .i64 n5), (.int .i64 n6)])] (em_flight_line r) :=
  fun_of_ev (x := xr_flight_line) (Λ := lm_flight_line) gk_flight_line [[1, 3, 16, 17, 18], [3, 43, 44]] Tryd.func27 rfl (by kernel_rfl) ir_flight_line (by kernel_rfl) (congrArg Array.toList Tryd.results27) Tryd.ntmps27 (⟨trivial, ⟨trivial, ⟨⟨trivial, ⟨⟨trivial, ⟨trivial, la_flight_line_0⟩⟩, trivial⟩⟩, ⟨⟨trivial, ⟨⟨trivial, la_flight_line_1⟩, trivial⟩⟩, ⟨trivial, trivial⟩⟩⟩⟩⟩) (leaf_of fun v => (by kernel_rfl : rh_flight_line.build v = em_flight_line (ra_flight_line v))) (by kernel_rfl) ((rn_flight_line l0 b1 b2 l3 n4 n5 n6).trans h)
def as_flight_line : List Shp := [(.agg [.str, (.isl .u8), (.int .i64), (.int .i64), (.int .i64)])]
def ga_flight_line (vs : List PV) : Option (List Int) := go_flight_line (((tls 0 vs).headD .nilSl).subs.headD .nilSl).chars (((tls 0 vs).headD .nilSl).subs.tail.headD .nilSl).nl (((tls 0 vs).headD .nilSl).subs.tail.headD .nilSl).ex (((tls 0 vs).headD .nilSl).subs.tail.headD .nilSl).ints (((tls 0 vs).headD .nilSl).subs.tail.tail.headD .nilSl).num (((tls 0 vs).headD .nilSl).subs.tail.tail.tail.headD .nilSl).num (((tls 0 vs).headD .nilSl).subs.tail.tail.tail.tail.headD .nilSl).num
theorem at_flight_line : FnAt Tryd.prog GG 27 as_flight_line ga_flight_line em_flight_line := fun vs h r hr => by
  have e : Shp.buildL as_flight_line vs = [(.agg [(.str (((tls 0 vs).headD .nilSl).subs.headD .nilSl).chars), (.isl (((tls 0 vs).headD .nilSl).subs.tail.headD .nilSl).nl (((tls 0 vs).headD .nilSl).subs.tail.headD .nilSl).ex .u8 (((tls 0 vs).headD .nilSl).subs.tail.headD .nilSl).ints), (.int .i64 (((tls 0 vs).headD .nilSl).subs.tail.tail.headD .nilSl).num), (.int .i64 (((tls 0 vs).headD .nilSl).subs.tail.tail.tail.headD .nilSl).num), (.int .i64 (((tls 0 vs).headD .nilSl).subs.tail.tail.tail.tail.headD .nilSl).num)])] := by kernel_rfl
  rw [← Shp.buildL_eq _ h, e]
  exact .inl ⟨by decide, ok_flight_line _ _ _ _ _ _ _ r hr⟩
def xr_flight_Print_1 : XR := (.seq (.ops false [⟨⟨(some 1), (.box 35 (.tmp 0)), none⟩, none⟩, ⟨⟨(some 2), (.mv (.c (.bool false))), none⟩, none⟩]) (.seq (.ops false [⟨⟨(some 3), (.ld true 5 (.tmp 1)), none⟩, (some (.agg [.str, (.isl .u8), (.int .i64), (.int .i64), (.int .i64)]))⟩, ⟨⟨(some 4), (.call (.func 14) [(.tmp 3)]), none⟩, none⟩, ⟨⟨(some 5), (.un .not (.tmp 4)), none⟩, none⟩, ⟨⟨(some 2), (.mv (.tmp 5)), none⟩, none⟩]) .ret))
def rs_flight_Print_1 : List ResultVar := [(.tmp 2)]
theorem ir_flight_Print_1 : compCode Tryd.prog (Tryd.f24.body.getD .skip) [] = some (xr_flight_Print_1.erase, []) := by kernel_rfl
def gm_flight_Print_1 : Gam := (Gam.fn 14 as_flight_Right ga_flight_Right em_flight_Right Gam.bot)
theorem gk_flight_Print_1 : GamOk Tryd.prog GG gm_flight_Print_1 := (GamOk.fn at_flight_Right GamOk.bot)
def lm_flight_Print_1 : Lam := fun _ j S kn ke => match j with
  | _ => .fail
def go_flight_Print_1 (l0 : List Int) (b1 : Bool) (b2 : Bool) (l3 : List Int) (n4 : Int) (n5 : Int) (n6 : Int) : Option Bool :=
  (go_flight_Right l0 b1 b2 l3 n4 n5 n6).bind fun r7 =>
  some (!r7)
def em_flight_Print_1 (r : Bool) : PV := (.bool r)
def rh_flight_Print_1 : Shp := .bool
def ra_flight_Print_1 (v : PV) : Bool := v.tru
def kf_flight_Print_1 (v : PV) : Tree Bool := .chk (rh_flight_Print_1.ok v) (.leaf (ra_flight_Print_1 v))
theorem rn_flight_Print_1 (l0 : List Int) (b1 : Bool) (b2 : Bool) (l3 : List Int) (n4 : Int) (n5 : Int) (n6 : Int) : (ev GG gm_flight_Print_1 lm_flight_Print_1 xr_flight_Print_1 ⟨slots 6 0 [(0, .p (.agg [(.str l0), (.isl b1 b2 .u8 l3), (.int .i64 n4), (.int .i64 n5), (.int .i64 n6)]))], []⟩ (fun S => finT Tryd.prog rs_flight_Print_1 S kf_flight_Print_1) (retT Tryd.prog rs_flight_Print_1 kf_flight_Print_1)).run = go_flight_Print_1 l0 b1 b2 l3 n4 n5 n6 := by kernel_rfl
theorem ok_flight_Print_1 (l0 : List Int) (b1 : Bool) (b2 : Bool) (l3 : List Int) (n4 : Int) (n5 : Int) (n6 : Int) (r : Bool) (h : go_flight_Print_1 l0 b1 b2 l3 n4 n5 n6 = some r) : FunEq Tryd.prog GG 24 [(.agg [(.str l0), (.isl b1 b2 .u8 l3), (.int .i64 n4), (.int .i64 n5), (.int .i64 n6)])] (em_flight_Print_1 r) :=
  fun_of_ev (x := xr_flight_Print_1) (Λ := lm_flight_Print_1) gk_flight_Print_1 [] Tryd.func24 rfl (by kernel_rfl) ir_flight_Print_1 (by kernel_rfl) (congrArg Array.toList Tryd.results24) Tryd.ntmps24 (⟨trivial, ⟨trivial, trivial⟩⟩) (leaf_of fun v => (by kernel_rfl : rh_flight_Print_1.build v = em_flight_Print_1 (ra_flight_Print_1 v))) (by kernel_rfl) ((rn_flight_Print_1 l0 b1 b2 l3 n4 n5 n6).trans h)
def as_flight_Print_1 : List Shp := [(.agg [.str, (.isl .u8), (.int .i64), (.int .i64), (.int .i64)])]
def ga_flight_Print_1 (vs : List PV) : Option Bool := go_flight_Print_1 (((tls 0 vs).headD .nilSl).subs.headD .nilSl).chars (((tls 0 vs).headD .nilSl).subs.tail.headD .nilSl).nl (((tls 0 vs).headD .nilSl).subs.tail.headD .nilSl).ex (((tls 0 vs).headD .nilSl).subs.tail.headD .nilSl).ints (((tls 0 vs).headD .nilSl).subs.tail.tail.headD .nilSl).num (((tls 0 vs).headD .nilSl).subs.tail.tail.tail.headD .nilSl).num (((tls 0 vs).headD .nilSl).subs.tail.tail.tail.tail.headD .nilSl).num
theorem at_flight_Print_1 : FnAt Tryd.prog GG 24 as_flight_Print_1 ga_flight_Print_1 em_flight_Print_1 := fun vs h r hr => by
  have e : Shp.buildL as_flight_Print_1 vs = [(.agg [(.str (((tls 0 vs).headD .nilSl).subs.headD .nilSl).chars), (.isl (((tls 0 vs).headD .nilSl).subs.tail.headD .nilSl).nl (((tls 0 vs).headD .nilSl).subs.tail.headD .nilSl).ex .u8 (((tls 0 vs).headD .nilSl).subs.tail.headD .nilSl).ints), (.int .i64 (((tls 0 vs).headD .nilSl).subs.tail.tail.headD .nilSl).num), (.int .i64 (((tls 0 vs).headD .nilSl).subs.tail.tail.tail.headD .nilSl).num), (.int .i64 (((tls 0 vs).headD .nilSl).subs.tail.tail.tail.tail.headD .nilSl).num)])] := by kernel_rfl
  rw [← Shp.buildL_eq _ h, e]
  exact .inl ⟨by decide, ok_flight_Print_1 _ _ _ _ _ _ _ r hr⟩
def xb_slices_IndexFunc__flight_Do_flight_Do_0 : XR := (.seq (.ops false [⟨⟨(some 9), (.bin .lss (.tmp 8) (.tmp 7)), none⟩, none⟩]) (.seq (.cond (.tmp 9) .skip (.exit 0)) (.seq (.block 1 (.seq (.ops false [⟨⟨(some 10), (.mv (.tmp 8)), none⟩, none⟩, ⟨⟨(some 5), (.mv (.tmp 10)), none⟩, none⟩]) (.seq (.ops false [⟨⟨(some 11), (.mv (.tmp 1)), none⟩, none⟩, ⟨⟨(some 12), (.mv (.tmp 0)), none⟩, none⟩, ⟨⟨(some 13), (.mv (.tmp 5)), none⟩, none⟩, ⟨⟨(some 14), (.ixA 5 (.tmp 12) (.tmp 13)), none⟩, none⟩, ⟨⟨(some 15), (.ld true 5 (.tmp 14)), none⟩, (some (.agg [.str, (.isl .u8), (.int .i64), (.int .i64), (.int .i64)]))⟩, ⟨⟨(some 16), (.call (.tmp 11) [(.tmp 15)]), none⟩, none⟩]) (.cond (.tmp 16) (.seq (.ops false [⟨⟨(some 17), (.mv (.tmp 5)), none⟩, none⟩, ⟨⟨(some 4), (.mv (.tmp 17)), none⟩, none⟩]) .ret) .skip)))) (.ops false [⟨⟨(some 18), (.bin .add (.tmp 8) (.c (.int .i64 (1)))), none⟩, none⟩, ⟨⟨(some 8), (.mv (.tmp 18)), none⟩, none⟩]))))
def xr_slices_IndexFunc__flight_Do_flight_Do : XR := (.seq (.ops false [⟨⟨(some 4), (.mv (.c (.int .i64 (0)))), none⟩, none⟩]) (.seq (.seq (.ops false [⟨⟨(some 6), (.mv (.tmp 0)), none⟩, none⟩, ⟨⟨(some 7), (.len (.tmp 6)), none⟩, none⟩, ⟨⟨(some 8), (.mv (.c (.int .i64 (0)))), none⟩, none⟩]) (.block 0 (.loop 0 [0, 1, 7, 8] xb_slices_IndexFunc__flight_Do_flight_Do_0))) (.seq (.ops false [⟨⟨(some 4), (.mv (.c (.int .i64 (-1)))), none⟩, none⟩]) .ret)))
def rs_slices_IndexFunc__flight_Do_flight_Do : List ResultVar := [(.tmp 4)]
theorem ir_slices_IndexFunc__flight_Do_flight_Do : compCode Tryd.prog (Tryd.f37.body.getD .skip) [[0, 1, 7, 8]] = some (xr_slices_IndexFunc__flight_Do_flight_Do.erase, []) := by kernel_rfl
def gm_slices_IndexFunc__flight_Do_flight_Do : Gam := (Gam.fn 24 as_flight_Print_1 ga_flight_Print_1 em_flight_Print_1 Gam.bot)
theorem gk_slices_IndexFunc__flight_Do_flight_Do : GamOk Tryd.prog GG gm_slices_IndexFunc__flight_Do_flight_Do := (GamOk.fn at_flight_Print_1 GamOk.bot)
def st_slices_IndexFunc__flight_Do_flight_Do_0 (b3 : Bool) (b4 : Bool) (es5 : List PV) (n6 : Int) (n7 : Int) : Option (((Bool × Bool × List PV × Int × Int)) ⊕ ((Unit) ⊕ (Int))) :=
  bif (decide (n7 < n6)) then
   bif (decide (0 ≤ n7)) then
    bif (decide (n7 < (((List.length es5) : Nat) : Int))) then
     bif (decide ((Int.toNat n7) < (List.length es5))) then
      bif (decide ((List.length (PV.cells (List.getD es5 (Int.toNat n7) .nilSl))) = 5)) then
       bif (Shp.ok (.agg [.str, (.isl .u8), (.int .i64), (.int .i64), (.int .i64)]) (.agg (PV.cells (List.getD es5 (Int.toNat n7) .nilSl)))) then
        (go_flight_Print_1 (PV.chars (List.headD (PV.subs (.agg (PV.cells (List.getD es5 (Int.toNat n7) .nilSl)))) .nilSl)) (PV.nl (List.headD (List.tail (PV.subs (.agg (PV.cells (List.getD es5 (Int.toNat n7) .nilSl))))) .nilSl)) (PV.ex (List.headD (List.tail (PV.subs (.agg (PV.cells (List.getD es5 (Int.toNat n7) .nilSl))))) .nilSl)) (PV.ints (List.headD (List.tail (PV.subs (.agg (PV.cells (List.getD es5 (Int.toNat n7) .nilSl))))) .nilSl)) (PV.num (List.headD (List.tail (List.tail (PV.subs (.agg (PV.cells (List.getD es5 (Int.toNat n7) .nilSl)))))) .nilSl)) (PV.num (List.headD (List.tail (List.tail (List.tail (PV.subs (.agg (PV.cells (List.getD es5 (Int.toNat n7) .nilSl))))))) .nilSl)) (PV.num (List.headD (List.tail (List.tail (List.tail (List.tail (PV.subs (.agg (PV.cells (List.getD es5 (Int.toNat n7) .nilSl)))))))) .nilSl))).bind fun r8 =>
        bif r8 then
         some (Sum.inr (Sum.inr n7))
        else
         some (Sum.inl (b3, b4, es5, n6, (IntKind.wrap .i64 (n7 + 1))))
       else none
      else none
     else none
    else none
   else none
  else
   some (Sum.inr (Sum.inl ()))
def lp_slices_IndexFunc__flight_Do_flight_Do_0 (b3 : Bool) (b4 : Bool) (es5 : List PV) (n6 : Int) (n7 : Int) : Option ((Unit) ⊕ (Int)) := loopN (X := (Bool × Bool × List PV × Int × Int)) (fun x => st_slices_IndexFunc__flight_Do_flight_Do_0 x.1 x.2.1 x.2.2.1 x.2.2.2.1 x.2.2.2.2) (b3, b4, es5, n6, n7)
def sh_slices_IndexFunc__flight_Do_flight_Do_0 : StSh := ⟨19, [(0, (.p (.sl 5))), (1, (.p (.fn 24 []))), (7, (.p (.int .i64))), (8, (.p (.int .i64)))], []⟩
def sx_slices_IndexFunc__flight_Do_flight_Do_0 (x : (Bool × Bool × List PV × Int × Int)) : St := ⟨slots 19 0 [(0, (.p (.sl x.1 x.2.1 5 x.2.2.1))), (1, (.p (.fn 24 []))), (7, (.p (.int .i64 x.2.2.2.1))), (8, (.p (.int .i64 x.2.2.2.2)))], []⟩
def sa_slices_IndexFunc__flight_Do_flight_Do_0 (S : St) : (Bool × Bool × List PV × Int × Int) := (((tls 0 S.t).headD .any).pv.nl, ((tls 0 S.t).headD .any).pv.ex, ((tls 0 S.t).headD .any).pv.elts, ((tls 7 S.t).headD .any).pv.num, ((tls 8 S.t).headD .any).pv.num)
def tz_slices_IndexFunc__flight_Do_flight_Do_0_1 : StSh := ⟨19, [(4, (.p (.int .i64)))], []⟩
def tx_slices_IndexFunc__flight_Do_flight_Do_0_1 (x : Int) : St := ⟨slots 19 0 [(4, (.p (.int .i64 x)))], []⟩
def ta_slices_IndexFunc__flight_Do_flight_Do_0_1 (S : St) : Int := ((tls 4 S.t).headD .any).pv.num
def tz_slices_IndexFunc__flight_Do_flight_Do_0_0 : StSh := ⟨19, [], []⟩
def tx_slices_IndexFunc__flight_Do_flight_Do_0_0 (x : Unit) : St := ⟨slots 19 0 [], []⟩
def ta_slices_IndexFunc__flight_Do_flight_Do_0_0 (S : St) : Unit := ()
def kb_slices_IndexFunc__flight_Do_flight_Do_0 : Exit → St → Tree (((Bool × Bool × List PV × Int × Int)) ⊕ ((Unit) ⊕ (Int))) := (exOne (.exit 0) [] tz_slices_IndexFunc__flight_Do_flight_Do_0_0 ta_slices_IndexFunc__flight_Do_flight_Do_0_0 (fun y => Sum.inr ((Sum.inl y))) (exOne .ret [4] tz_slices_IndexFunc__flight_Do_flight_Do_0_1 ta_slices_IndexFunc__flight_Do_flight_Do_0_1 (fun y => Sum.inr ((Sum.inr y))) exNil))
def ky_slices_IndexFunc__flight_Do_flight_Do_0 : Dec ((Unit) ⊕ (Int)) := fun _ y ke => .sum y (fun a => ke ((.exit 0) : EK).ex (tx_slices_IndexFunc__flight_Do_flight_Do_0_0 a)) (fun y' => ke (.ret : EK).ex (tx_slices_IndexFunc__flight_Do_flight_Do_0_1 y'))
theorem kk_slices_IndexFunc__flight_Do_flight_Do_0 : ExOk Sum.inr kb_slices_IndexFunc__flight_Do_flight_Do_0 ky_slices_IndexFunc__flight_Do_flight_Do_0 := (ExOk.one (acc := ta_slices_IndexFunc__flight_Do_flight_Do_0_0) (bY := tx_slices_IndexFunc__flight_Do_flight_Do_0_0) (inj1 := fun y => (Sum.inl y)) (fun S => by kernel_rfl) (fun y _ ke => .inr (by kernel_rfl)) (ExOk.one (acc := ta_slices_IndexFunc__flight_Do_flight_Do_0_1) (bY := tx_slices_IndexFunc__flight_Do_flight_Do_0_1) (inj1 := fun y => (Sum.inr y)) (fun S => by kernel_rfl) (fun y _ ke => .inr (by kernel_rfl)) ExOk.nil))
def lm_slices_IndexFunc__flight_Do_flight_Do : Lam := fun _ j S kn ke => match j with
  | 0 => prepT [0, 1, 7, 8] [] S fun S => .chk (sh_slices_IndexFunc__flight_Do_flight_Do_0.ok S) (.bind (loopN (fun x => st_slices_IndexFunc__flight_Do_flight_Do_0 x.1 x.2.1 x.2.2.1 x.2.2.2.1 x.2.2.2.2) (sa_slices_IndexFunc__flight_Do_flight_Do_0 S)) fun y => ky_slices_IndexFunc__flight_Do_flight_Do_0 _ y ke)
  | _ => .fail
theorem sr_slices_IndexFunc__flight_Do_flight_Do_0 (x : (Bool × Bool × List PV × Int × Int)) : (ev GG gm_slices_IndexFunc__flight_Do_flight_Do lm_slices_IndexFunc__flight_Do_flight_Do xb_slices_IndexFunc__flight_Do_flight_Do_0 (sx_slices_IndexFunc__flight_Do_flight_Do_0 x) (fun S => forgetT [0, 1, 7, 8] S fun S => prepT [0, 1, 7, 8] [] S fun S => .chk (sh_slices_IndexFunc__flight_Do_flight_Do_0.ok S) (.leaf (.inl (sa_slices_IndexFunc__flight_Do_flight_Do_0 S)))) kb_slices_IndexFunc__flight_Do_flight_Do_0).run = st_slices_IndexFunc__flight_Do_flight_Do_0 x.1 x.2.1 x.2.2.1 x.2.2.2.1 x.2.2.2.2 := by kernel_rfl
theorem la_slices_IndexFunc__flight_Do_flight_Do_0 : LamAt Tryd.prog GG lm_slices_IndexFunc__flight_Do_flight_Do 0 (.loop [0, 1, 7, 8] xb_slices_IndexFunc__flight_Do_flight_Do_0.erase) := lam_loop (body := xb_slices_IndexFunc__flight_Do_flight_Do_0) (Λ' := lm_slices_IndexFunc__flight_Do_flight_Do) gk_slices_IndexFunc__flight_Do_flight_Do (⟨trivial, ⟨⟨trivial, trivial⟩, ⟨⟨trivial, ⟨trivial, ⟨⟨trivial, trivial⟩, trivial⟩⟩⟩, trivial⟩⟩⟩) (fun S => (by kernel_rfl : sh_slices_IndexFunc__flight_Do_flight_Do_0.build S = sx_slices_IndexFunc__flight_Do_flight_Do_0 (sa_slices_IndexFunc__flight_Do_flight_Do_0 S))) kk_slices_IndexFunc__flight_Do_flight_Do_0 sr_slices_IndexFunc__flight_Do_flight_Do_0 (fun _ _ _ => rfl)
def go_slices_IndexFunc__flight_Do_flight_Do (b0 : Bool) (b1 : Bool) (es2 : List PV) : Option Int :=
  (lp_slices_IndexFunc__flight_Do_flight_Do_0 b0 b1 es2 (((List.length es2) : Nat) : Int) 0).bind fun y9 =>
  Sum.elim (fun z10 =>
   some (-1)) (fun z11 =>
   some z11) y9
def em_slices_IndexFunc__flight_Do_flight_Do (r : Int) : PV := (.int .i64 r)
def rh_slices_IndexFunc__flight_Do_flight_Do : Shp := (.int .i64)
def ra_slices_IndexFunc__flight_Do_flight_Do (v : PV) : Int := v.num
def kf_slices_IndexFunc__flight_Do_flight_Do (v : PV) : Tree Int := .chk (rh_slices_IndexFunc__flight_Do_flight_Do.ok v) (.leaf (ra_slices_IndexFunc__flight_Do_flight_Do v))
theorem rn_slices_IndexFunc__flight_Do_flight_Do (b0 : Bool) (b1 : Bool) (es2 : List PV) : (ev GG gm_slices_IndexFunc__flight_Do_flight_Do lm_slices_IndexFunc__flight_Do_flight_Do xr_slices_IndexFunc__flight_Do_flight_Do ⟨slots 19 0 [(0, .p (.sl b0 b1 5 es2)), (1, .p (.fn 24 []))], []⟩ (fun S => finT Tryd.prog rs_slices_IndexFunc__flight_Do_flight_Do S kf_slices_IndexFunc__flight_Do_flight_Do) (retT Tryd.prog rs_slices_IndexFunc__flight_Do_flight_Do kf_slices_IndexFunc__flight_Do_flight_Do)).run = go_slices_IndexFunc__flight_Do_flight_Do b0 b1 es2 := by kernel_rfl
theorem ok_slices_IndexFunc__flight_Do_flight_Do (b0 : Bool) (b1 : Bool) (es2 : List PV) (r : Int) (h : go_slices_IndexFunc__flight_Do_flight_Do b0 b1 es2 = some r) : FunEq Tryd.prog GG 37 [(.sl b0 b1 5 es2), (.fn 24 [])] (em_slices_IndexFunc__flight_Do_flight_Do r) :=
  fun_of_ev (x := xr_slices_IndexFunc__flight_Do_flight_Do) (Λ := lm_slices_IndexFunc__flight_Do_flight_Do) gk_slices_IndexFunc__flight_Do_flight_Do [[0, 1, 7, 8]] Tryd.func37 rfl (by kernel_rfl) ir_slices_IndexFunc__flight_Do_flight_Do (by kernel_rfl) (congrArg Array.toList Tryd.results37) Tryd.ntmps37 (⟨trivial, ⟨⟨trivial, la_slices_IndexFunc__flight_Do_flight_Do_0⟩, ⟨trivial, trivial⟩⟩⟩) (leaf_of fun v => (by kernel_rfl : rh_slices_IndexFunc__flight_Do_flight_Do.build v = em_slices_IndexFunc__flight_Do_flight_Do (ra_slices_IndexFunc__flight_Do_flight_Do v))) (by kernel_rfl) ((rn_slices_IndexFunc__flight_Do_flight_Do b0 b1 es2).trans h)
def as_slices_IndexFunc__flight_Do_flight_Do : List Shp := [(.sl 5), (.fn 24 [])]
def ga_slices_IndexFunc__flight_Do_flight_Do (vs : List PV) : Option Int := go_slices_IndexFunc__flight_Do_flight_Do ((tls 0 vs).headD .nilSl).nl ((tls 0 vs).headD .nilSl).ex ((tls 0 vs).headD .nilSl).elts
theorem at_slices_IndexFunc__flight_Do_flight_Do : FnAt Tryd.prog GG 37 as_slices_IndexFunc__flight_Do_flight_Do ga_slices_IndexFunc__flight_Do_flight_Do em_slices_IndexFunc__flight_Do_flight_Do := fun vs h r hr => by
  have e : Shp.buildL as_slices_IndexFunc__flight_Do_flight_Do vs = [(.sl ((tls 0 vs).headD .nilSl).nl ((tls 0 vs).headD .nilSl).ex 5 ((tls 0 vs).headD .nilSl).elts), (.fn 24 [])] := by kernel_rfl
  rw [← Shp.buildL_eq _ h, e]
  exact .inl ⟨by decide, ok_slices_IndexFunc__flight_Do_flight_Do _ _ _ r hr⟩
def xr_slices_ContainsFunc__flight_Do_flight_Do : XR := (.seq (.ops false [⟨⟨(some 4), (.mv (.c (.bool false))), none⟩, none⟩]) (.seq (.ops false [⟨⟨(some 5), (.mv (.tmp 0)), none⟩, none⟩, ⟨⟨(some 6), (.mv (.tmp 1)), none⟩, none⟩, ⟨⟨(some 7), (.call (.func 37) [(.tmp 5), (.tmp 6)]), none⟩, none⟩, ⟨⟨(some 8), (.bin .geq (.tmp 7) (.c (.int .i64 (0)))), none⟩, none⟩, ⟨⟨(some 4), (.mv (.tmp 8)), none⟩, none⟩]) .ret))
def rs_slices_ContainsFunc__flight_Do_flight_Do : List ResultVar := [(.tmp 4)]
theorem ir_slices_ContainsFunc__flight_Do_flight_Do : compCode Tryd.prog (Tryd.f25.body.getD .skip) [] = some (xr_slices_ContainsFunc__flight_Do_flight_Do.erase, []) := by kernel_rfl
def gm_slices_ContainsFunc__flight_Do_flight_Do : Gam := (Gam.fn 37 as_slices_IndexFunc__flight_Do_flight_Do ga_slices_IndexFunc__flight_Do_flight_Do em_slices_IndexFunc__flight_Do_flight_Do Gam.bot)
theorem gk_slices_ContainsFunc__flight_Do_flight_Do : GamOk Tryd.prog GG gm_slices_ContainsFunc__flight_Do_flight_Do := (GamOk.fn at_slices_IndexFunc__flight_Do_flight_Do GamOk.bot)
def lm_slices_ContainsFunc__flight_Do_flight_Do : Lam := fun _ j S kn ke => match j with
  | _ => .fail
def go_slices_ContainsFunc__flight_Do_flight_Do (b0 : Bool) (b1 : Bool) (es2 : List PV) : Option Bool :=
  (go_slices_IndexFunc__flight_Do_flight_Do b0 b1 es2).bind fun r3 =>
  some (decide (r3 ≥ 0))
def em_slices_ContainsFunc__flight_Do_flight_Do (r : Bool) : PV := (.bool r)
def rh_slices_ContainsFunc__flight_Do_flight_Do : Shp := .bool
def ra_slices_ContainsFunc__flight_Do_flight_Do (v : PV) : Bool := v.tru
def kf_slices_ContainsFunc__flight_Do_flight_Do (v : PV) : Tree Bool := .chk (rh_slices_ContainsFunc__flight_Do_flight_Do.ok v) (.leaf (ra_slices_ContainsFunc__flight_Do_flight_Do v))
theorem rn_slices_ContainsFunc__flight_Do_flight_Do (b0 : Bool) (b1 : Bool) (es2 : List PV) : (ev GG gm_slices_ContainsFunc__flight_Do_flight_Do lm_slices_ContainsFunc__flight_Do_flight_Do xr_slices_ContainsFunc__flight_Do_flight_Do ⟨slots 9 0 [(0, .p (.sl b0 b1 5 es2)), (1, .p (.fn 24 []))], []⟩ (fun S => finT Tryd.prog rs_slices_ContainsFunc__flight_Do_flight_Do S kf_slices_ContainsFunc__flight_Do_flight_Do) (retT Tryd.prog rs_slices_ContainsFunc__flight_Do_flight_Do kf_slices_ContainsFunc__flight_Do_flight_Do)).run = go_slices_ContainsFunc__flight_Do_flight_Do b0 b1 es2 := by kernel_rfl
theorem ok_slices_ContainsFunc__flight_Do_flight_Do (b0 : Bool) (b1 : Bool) (es2 : List PV) (r : Bool) (h : go_slices_ContainsFunc__flight_Do_flight_Do b0 b1 es2 = some r) : FunEq Tryd.prog GG 25 [(.sl b0 b1 5 es2), (.fn 24 [])] (em_slices_ContainsFunc__flight_Do_flight_Do r) :=
  fun_of_ev (x := xr_slices_ContainsFunc__flight_Do_flight_Do) (Λ := lm_slices_ContainsFunc__flight_Do_flight_Do) gk_slices_ContainsFunc__flight_Do_flight_Do [] Tryd.func25 rfl (by kernel_rfl) ir_slices_ContainsFunc__flight_Do_flight_Do (by kernel_rfl) (congrArg Array.toList Tryd.results25) Tryd.ntmps25 (⟨trivial, ⟨trivial, trivial⟩⟩) (leaf_of fun v => (by kernel_rfl : rh_slices_ContainsFunc__flight_Do_flight_Do.build v = em_slices_ContainsFunc__flight_Do_flight_Do (ra_slices_ContainsFunc__flight_Do_flight_Do v))) (by kernel_rfl) ((rn_slices_ContainsFunc__flight_Do_flight_Do b0 b1 es2).trans h)
end Go.Proofs
end
