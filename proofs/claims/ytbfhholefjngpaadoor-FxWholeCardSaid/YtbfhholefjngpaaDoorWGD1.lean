import Derived.Test.YtbfhholefjngpaaDoorWSDa
import Derived.Test.YtbfhholefjngpaaDoorWSDb
import Derived.Test.YtbfhholefjngpaaDoorFxFin
import Derived.Test.YtbfhholefjngpaaDoorChecked
set_option linter.unusedVariables false
set_option maxRecDepth 100000
noncomputable section
namespace Go.Proofs
open Go Go.Fx

def xb_fx_Text_0 : XR := (.seq .skip (.seq (.seq (.ops false [⟨⟨(some 20), (.mv (.tmp 4)), none⟩, none⟩, ⟨⟨(some 21), (.bin .gtr (.tmp 20) (.c (.int .i64 (0)))), none⟩, none⟩]) (.cond (.tmp 21) (.seq (.ops false [⟨⟨(some 22), (.mv (.tmp 4)), none⟩, none⟩, ⟨⟨(some 23), (.bin .mul (.tmp 22) (.c (.int .i64 (10)))), none⟩, none⟩, ⟨⟨(some 4), (.mv (.tmp 23)), none⟩, none⟩]) (.seq (.ops false [⟨⟨(some 24), (.mv (.tmp 5)), none⟩, none⟩, ⟨⟨(some 25), (.mv (.tmp 4)), none⟩, none⟩, ⟨⟨(some 26), (.bin .quo (.tmp 25) (.c (.int .i64 (16777216)))), none⟩, none⟩, ⟨⟨(some 27), (.call (.func 37) [(.tmp 26)]), none⟩, none⟩, ⟨⟨(some 28), (.binS .add (.tmp 24) (.tmp 27)), none⟩, none⟩, ⟨⟨(some 5), (.mv (.tmp 28)), none⟩, none⟩]) (.seq (.ops false [⟨⟨(some 29), (.mv (.tmp 4)), none⟩, none⟩, ⟨⟨(some 30), (.bin .rem (.tmp 29) (.c (.int .i64 (16777216)))), none⟩, none⟩, ⟨⟨(some 4), (.mv (.tmp 30)), none⟩, none⟩]) (.goto 0)))) .skip)) (.seq (.ops false [⟨⟨(some 31), (.mv (.tmp 3)), none⟩, none⟩, ⟨⟨(some 32), (.bsl 9 none 1 [(.tmp 31)]), none⟩, none⟩, ⟨⟨(some 33), (.mv (.tmp 5)), none⟩, none⟩, ⟨⟨(some 34), (.call (.func 39) [(.tmp 33)]), none⟩, none⟩, ⟨⟨(some 35), (.app 9 none 1 16 (.tmp 32) (.tmp 34)), none⟩, none⟩, ⟨⟨(some 36), (.call (.func 38) [(.tmp 35), (.c (.str [(46)]))]), none⟩, none⟩, ⟨⟨(some 2), (.mv (.tmp 36)), none⟩, none⟩]) .ret)))
def xr_fx_Text : XR := (.seq (.ops false [⟨⟨(some 2), (.mv (.c (.str []))), none⟩, none⟩]) (.scope 0 [3, 4, 5] 0 (.seq (.seq (.ops false [⟨⟨(some 6), (.mv (.tmp 0)), none⟩, none⟩, ⟨⟨(some 7), (.call (.func 19) [(.tmp 6)]), none⟩, none⟩, ⟨⟨(some 8), (.un .not (.tmp 7)), none⟩, none⟩]) (.cond (.tmp 8) (.seq (.ops false [⟨⟨(some 2), (.mv (.c (.str []))), none⟩, none⟩]) .ret) .skip)) (.seq (.ops false [⟨⟨(some 3), (.mv (.c (.str []))), none⟩, none⟩]) (.seq (.seq (.ops false [⟨⟨(some 9), (.mv (.tmp 0)), none⟩, none⟩, ⟨⟨(some 10), (.bin .lss (.tmp 9) (.c (.int .i64 (0)))), none⟩, none⟩]) (.cond (.tmp 10) (.ops false [⟨⟨(some 11), (.mv (.tmp 0)), none⟩, none⟩, ⟨⟨(some 12), (.un .neg (.tmp 11)), none⟩, none⟩, ⟨⟨(some 3), (.mv (.c (.str [(45)]))), none⟩, none⟩, ⟨⟨(some 0), (.mv (.tmp 12)), none⟩, none⟩]) .skip)) (.seq (.ops false [⟨⟨(some 13), (.mv (.tmp 3)), none⟩, none⟩, ⟨⟨(some 14), (.mv (.tmp 0)), none⟩, none⟩, ⟨⟨(some 15), (.bin .quo (.tmp 14) (.c (.int .i64 (16777216)))), none⟩, none⟩, ⟨⟨(some 16), (.call (.func 37) [(.tmp 15)]), none⟩, none⟩, ⟨⟨(some 17), (.binS .add (.tmp 13) (.tmp 16)), none⟩, none⟩, ⟨⟨(some 3), (.mv (.tmp 17)), none⟩, none⟩]) (.seq (.ops false [⟨⟨(some 18), (.mv (.tmp 0)), none⟩, none⟩, ⟨⟨(some 19), (.bin .rem (.tmp 18) (.c (.int .i64 (16777216)))), none⟩, none⟩, ⟨⟨(some 4), (.mv (.tmp 19)), none⟩, none⟩]) (.seq (.ops false [⟨⟨(some 5), (.mv (.c (.str []))), none⟩, none⟩]) (.seq (.label 0) (.seq (.seq (.ops false [⟨⟨(some 20), (.mv (.tmp 4)), none⟩, none⟩, ⟨⟨(some 21), (.bin .gtr (.tmp 20) (.c (.int .i64 (0)))), none⟩, none⟩]) (.cond (.tmp 21) (.seq (.ops false [⟨⟨(some 22), (.mv (.tmp 4)), none⟩, none⟩, ⟨⟨(some 23), (.bin .mul (.tmp 22) (.c (.int .i64 (10)))), none⟩, none⟩, ⟨⟨(some 4), (.mv (.tmp 23)), none⟩, none⟩]) (.seq (.ops false [⟨⟨(some 24), (.mv (.tmp 5)), none⟩, none⟩, ⟨⟨(some 25), (.mv (.tmp 4)), none⟩, none⟩, ⟨⟨(some 26), (.bin .quo (.tmp 25) (.c (.int .i64 (16777216)))), none⟩, none⟩, ⟨⟨(some 27), (.call (.func 37) [(.tmp 26)]), none⟩, none⟩, ⟨⟨(some 28), (.binS .add (.tmp 24) (.tmp 27)), none⟩, none⟩, ⟨⟨(some 5), (.mv (.tmp 28)), none⟩, none⟩]) (.seq (.ops false [⟨⟨(some 29), (.mv (.tmp 4)), none⟩, none⟩, ⟨⟨(some 30), (.bin .rem (.tmp 29) (.c (.int .i64 (16777216)))), none⟩, none⟩, ⟨⟨(some 4), (.mv (.tmp 30)), none⟩, none⟩]) (.goto 0)))) .skip)) (.seq (.ops false [⟨⟨(some 31), (.mv (.tmp 3)), none⟩, none⟩, ⟨⟨(some 32), (.bsl 9 none 1 [(.tmp 31)]), none⟩, none⟩, ⟨⟨(some 33), (.mv (.tmp 5)), none⟩, none⟩, ⟨⟨(some 34), (.call (.func 39) [(.tmp 33)]), none⟩, none⟩, ⟨⟨(some 35), (.app 9 none 1 16 (.tmp 32) (.tmp 34)), none⟩, none⟩, ⟨⟨(some 36), (.call (.func 38) [(.tmp 35), (.c (.str [(46)]))]), none⟩, none⟩, ⟨⟨(some 2), (.mv (.tmp 36)), none⟩, none⟩]) .ret)))))))))))
def rs_fx_Text : List ResultVar := [(.tmp 2)]
theorem ir_fx_Text : compCode Tryd.prog (Tryd.f13.body.getD .skip) [] = some (xr_fx_Text.erase, []) := by kernel_rfl
/-! fx_Text -/
def gm_fx_Text : Gam := (Gam.fn 19 as_fx_Right ga_fx_Right em_fx_Right (Gam.fn 37 as_strconv_Itoa ga_strconv_Itoa em_strconv_Itoa (Gam.fn 39 as_strings_Fields ga_strings_Fields em_strings_Fields (Gam.fn 38 as_strings_Join ga_strings_Join em_strings_Join Gam.bot))))
theorem gk_fx_Text : GamOk Tryd.prog GG gm_fx_Text := (GamOk.fn at_fx_Right (GamOk.fn at_strconv_Itoa (GamOk.fn at_strings_Fields (GamOk.fn at_strings_Join GamOk.bot))))
def st_fx_Text_0 (l4 : List Int) (n5 : Int) (l6 : List Int) : Option (((List Int × Int × List Int)) ⊕ (((List Int)))) :=
  bif (decide (n5 > 0)) then
   (go_strconv_Itoa (IntKind.wrap .i64 (Int.tdiv (IntKind.wrap .i64 (n5 * 10)) 16777216))).bind fun r7 =>
   bif (decide (((List.length l6) + (List.length r7)) ≤ 4611686018427387904)) then
    some (Sum.inl (l4, (Int.tmod (IntKind.wrap .i64 (n5 * 10)) 16777216), (l6 ++ r7)))
   else none
  else
   (go_strings_Fields l6).bind fun r8 =>
   bif (decide (((1 + (List.length r8.2.2)) * 16) ≤ 140737488355328)) then
    bif (decide ((1 + (List.length r8.2.2)) ≤ 4611686018427387904)) then
     bif (List.all r8.2.2 (fun x18 => (List.all (PV.cells x18) (fun x19 => (PV.scal x19))))) then
      (go_strings_Join (false && (List.isEmpty r8.2.2)) false ((.str l4) :: r8.2.2) [46]).bind fun r9 =>
      some (Sum.inr r9)
     else none
    else none
   else none
def lp_fx_Text_0 (l4 : List Int) (n5 : Int) (l6 : List Int) : Option (((List Int))) := loopN (X := (List Int × Int × List Int)) (fun x => st_fx_Text_0 x.1 x.2.1 x.2.2) (l4, n5, l6)
def sh_fx_Text_0 : StSh := ⟨37, [(3, (.p .str)), (4, (.p (.int .i64))), (5, (.p .str))], []⟩
def sx_fx_Text_0 (x : (List Int × Int × List Int)) : St := ⟨slots 37 0 [(3, (.p (.str x.1))), (4, (.p (.int .i64 x.2.1))), (5, (.p (.str x.2.2)))], []⟩
def sa_fx_Text_0 (S : St) : (List Int × Int × List Int) := (((tls 3 S.t).headD .any).pv.chars, ((tls 4 S.t).headD .any).pv.num, ((tls 5 S.t).headD .any).pv.chars)
def tz_fx_Text_0_0 : StSh := ⟨37, [(2, (.p .str))], []⟩
def tx_fx_Text_0_0 (x : (List Int)) : St := ⟨slots 37 0 [(2, (.p (.str x)))], []⟩
def ta_fx_Text_0_0 (S : St) : (List Int) := ((tls 2 S.t).headD .any).pv.chars
def kb_fx_Text_0 : Exit → St → Tree (((List Int × Int × List Int)) ⊕ (((List Int)))) := (exOne .ret [2] tz_fx_Text_0_0 ta_fx_Text_0_0 (fun y => Sum.inr (y)) exNil)
def ky_fx_Text_0 : Dec (((List Int))) := fun _ y ke => ke (.ret : EK).ex (tx_fx_Text_0_0 y)
theorem kk_fx_Text_0 : ExOk Sum.inr kb_fx_Text_0 ky_fx_Text_0 := (ExOk.one (acc := ta_fx_Text_0_0) (bY := tx_fx_Text_0_0) (inj1 := fun y => y) (fun S => by kernel_rfl) (fun y _ ke => .inr (by kernel_rfl)) ExOk.nil)
def lm_fx_Text : Lam := fun _ j S kn ke => match j with
  | 0 => prepT [3, 4, 5] [] S fun S => .chk (sh_fx_Text_0.ok S) (.bind (loopN (fun x => st_fx_Text_0 x.1 x.2.1 x.2.2) (sa_fx_Text_0 S)) fun y => ky_fx_Text_0 _ y (joinK kn ke))
  | _ => .fail
theorem sr_fx_Text_0 (x : (List Int × Int × List Int)) : (ev GG gm_fx_Text lm_fx_Text xb_fx_Text_0 (sx_fx_Text_0 x) (kb_fx_Text_0 .normal) (jumpK 0 (fun S => forgetT [3, 4, 5] S fun S => prepT [3, 4, 5] [] S fun S => .chk (sh_fx_Text_0.ok S) (.leaf (.inl (sa_fx_Text_0 S)))) kb_fx_Text_0)).run = st_fx_Text_0 x.1 x.2.1 x.2.2 := by kernel_rfl
theorem la_fx_Text_0 : JumpAt Tryd.prog GG lm_fx_Text 0 0 xb_fx_Text_0.erase := lam_jump (body := xb_fx_Text_0) (Λ' := lm_fx_Text) gk_fx_Text (⟨trivial, ⟨⟨trivial, ⟨⟨trivial, ⟨trivial, ⟨trivial, trivial⟩⟩⟩, trivial⟩⟩, ⟨trivial, trivial⟩⟩⟩) (fun S => (by kernel_rfl : sh_fx_Text_0.build S = sx_fx_Text_0 (sa_fx_Text_0 S))) kk_fx_Text_0 sr_fx_Text_0 (fun _ _ _ => rfl)
/-- fx_Text -/
def go_fx_Text (n0 : Int) : Option (List Int) :=
  (go_fx_Right n0).bind fun r1 =>
  bif (!r1) then
   some []
  else
   bif (decide (n0 < 0)) then
    (go_strconv_Itoa (IntKind.wrap .i64 (Int.tdiv (IntKind.wrap .i64 (0 - n0)) 16777216))).bind fun r2 =>
    bif (decide ((1 + (List.length r2)) ≤ 4611686018427387904)) then
     bif (decide ((Int.tmod (IntKind.wrap .i64 (0 - n0)) 16777216) > 0)) then
      (go_strconv_Itoa (IntKind.wrap .i64 (Int.tdiv (IntKind.wrap .i64 ((Int.tmod (IntKind.wrap .i64 (0 - n0)) 16777216) * 10)) 16777216))).bind fun r3 =>
      bif (decide ((0 + (List.length r3)) ≤ 4611686018427387904)) then
       (lp_fx_Text_0 (45 :: r2) (Int.tmod (IntKind.wrap .i64 ((Int.tmod (IntKind.wrap .i64 (0 - n0)) 16777216) * 10)) 16777216) ([] ++ r3)).bind fun y10 =>
       some y10
      else none
     else
      (go_strings_Fields []).bind fun r11 =>
      bif (decide (((1 + (List.length r11.2.2)) * 16) ≤ 140737488355328)) then
       bif (decide ((1 + (List.length r11.2.2)) ≤ 4611686018427387904)) then
        bif (List.all r11.2.2 (fun x20 => (List.all (PV.cells x20) (fun x21 => (PV.scal x21))))) then
         (go_strings_Join (false && (List.isEmpty r11.2.2)) false ((.str (45 :: r2)) :: r11.2.2) [46]).bind fun r12 =>
         some r12
        else none
       else none
      else none
    else none
   else
    (go_strconv_Itoa (IntKind.wrap .i64 (Int.tdiv n0 16777216))).bind fun r13 =>
    bif (decide ((0 + (List.length r13)) ≤ 4611686018427387904)) then
     bif (decide ((Int.tmod n0 16777216) > 0)) then
      (go_strconv_Itoa (IntKind.wrap .i64 (Int.tdiv (IntKind.wrap .i64 ((Int.tmod n0 16777216) * 10)) 16777216))).bind fun r14 =>
      bif (decide ((0 + (List.length r14)) ≤ 4611686018427387904)) then
       (lp_fx_Text_0 ([] ++ r13) (Int.tmod (IntKind.wrap .i64 ((Int.tmod n0 16777216) * 10)) 16777216) ([] ++ r14)).bind fun y15 =>
       some y15
      else none
     else
      (go_strings_Fields []).bind fun r16 =>
      bif (decide (((1 + (List.length r16.2.2)) * 16) ≤ 140737488355328)) then
       bif (decide ((1 + (List.length r16.2.2)) ≤ 4611686018427387904)) then
        bif (List.all r16.2.2 (fun x22 => (List.all (PV.cells x22) (fun x23 => (PV.scal x23))))) then
         (go_strings_Join (false && (List.isEmpty r16.2.2)) false ((.str ([] ++ r13)) :: r16.2.2) [46]).bind fun r17 =>
         some r17
        else none
       else none
      else none
    else none
def em_fx_Text (r : (List Int)) : PV := (.str r)
def rh_fx_Text : Shp := .str
def ra_fx_Text (v : PV) : (List Int) := v.chars
def kf_fx_Text (v : PV) : Tree (List Int) := .chk (rh_fx_Text.ok v) (.leaf (ra_fx_Text v))
theorem rn_fx_Text (n0 : Int) : (ev GG gm_fx_Text lm_fx_Text xr_fx_Text ⟨slots 37 0 [(0, .p (.int .i64 n0))], []⟩ (fun S => finT Tryd.prog rs_fx_Text S kf_fx_Text) (retT Tryd.prog rs_fx_Text kf_fx_Text)).run = go_fx_Text n0 := by kernel_rfl
theorem ok_fx_Text (n0 : Int) (r : (List Int)) (h : go_fx_Text n0 = some r) : FunEq Tryd.prog GG 13 [(.int .i64 n0)] (em_fx_Text r) :=
  fun_of_ev (x := xr_fx_Text) (Λ := lm_fx_Text) gk_fx_Text [] Tryd.func13 rfl (by kernel_rfl) ir_fx_Text (by kernel_rfl) (congrArg Array.toList Tryd.results13) Tryd.ntmps13 (⟨trivial, ⟨⟨⟨trivial, ⟨⟨trivial, trivial⟩, trivial⟩⟩, ⟨trivial, ⟨⟨trivial, ⟨trivial, trivial⟩⟩, ⟨trivial, ⟨trivial, ⟨trivial, ⟨trivial, ⟨⟨trivial, ⟨⟨trivial, ⟨trivial, ⟨trivial, trivial⟩⟩⟩, trivial⟩⟩, ⟨trivial, trivial⟩⟩⟩⟩⟩⟩⟩⟩⟩, _, (by kernel_rfl), la_fx_Text_0⟩⟩) (leaf_of fun v => (by kernel_rfl : rh_fx_Text.build v = em_fx_Text (ra_fx_Text v))) (by kernel_rfl) ((rn_fx_Text n0).trans h)
def as_fx_Text : List Shp := [(.int .i64)]
def ga_fx_Text (vs : List PV) : Option (List Int) := go_fx_Text ((tls 0 vs).headD .nilSl).num
theorem at_fx_Text : FnAt Tryd.prog GG 13 as_fx_Text ga_fx_Text em_fx_Text := fun vs h r hr => by
  have e : Shp.buildL as_fx_Text vs = [(.int .i64 ((tls 0 vs).headD .nilSl).num)] := by kernel_rfl
  rw [← Shp.buildL_eq _ h, e]
  exact ok_fx_Text _ r hr

def xr_coupletref02_Right : XR := (.seq (.ops false [⟨⟨(some 2), (.mv (.c (.bool false))), none⟩, none⟩]) (.seq (.ops false [⟨⟨(some 3), (.mv (.tmp 0)), none⟩, none⟩, ⟨⟨(some 4), (.bin .geq (.tmp 3) (.c (.int .i64 (-1125899906842624)))), none⟩, none⟩, ⟨⟨(some 5), (.mv (.tmp 4)), none⟩, none⟩, ⟨⟨(some 6), (.mv (.tmp 0)), (some (5, true))⟩, none⟩, ⟨⟨(some 7), (.bin .leq (.tmp 6) (.c (.int .i64 (1125899906842624)))), (some (5, true))⟩, none⟩, ⟨⟨(some 8), (.pick (.tmp 5) (.tmp 7) (.c (.bool false))), none⟩, none⟩, ⟨⟨(some 2), (.mv (.tmp 8)), none⟩, none⟩]) .ret))
def rs_coupletref02_Right : List ResultVar := [(.tmp 2)]
theorem ir_coupletref02_Right : compCode Tryd.prog (Tryd.f20.body.getD .skip) [] = some (xr_coupletref02_Right.erase, []) := by kernel_rfl
/-! coupletref02_Right -/
def gm_coupletref02_Right : Gam := Gam.bot
theorem gk_coupletref02_Right : GamOk Tryd.prog GG gm_coupletref02_Right := GamOk.bot
def lm_coupletref02_Right : Lam := fun _ j S kn ke => match j with
  | _ => .fail
/-- coupletref02_Right -/
def go_coupletref02_Right (n0 : Int) : Option Bool :=
  bif (decide (n0 ≥ (-1125899906842624))) then
   some (decide (n0 ≤ 1125899906842624))
  else
   some false
def em_coupletref02_Right (r : Bool) : PV := (.bool r)
def rh_coupletref02_Right : Shp := .bool
def ra_coupletref02_Right (v : PV) : Bool := v.tru
def kf_coupletref02_Right (v : PV) : Tree Bool := .chk (rh_coupletref02_Right.ok v) (.leaf (ra_coupletref02_Right v))
theorem rn_coupletref02_Right (n0 : Int) : (ev GG gm_coupletref02_Right lm_coupletref02_Right xr_coupletref02_Right ⟨slots 9 0 [(0, .p (.int .i64 n0))], []⟩ (fun S => finT Tryd.prog rs_coupletref02_Right S kf_coupletref02_Right) (retT Tryd.prog rs_coupletref02_Right kf_coupletref02_Right)).run = go_coupletref02_Right n0 := by kernel_rfl
theorem ok_coupletref02_Right (n0 : Int) (r : Bool) (h : go_coupletref02_Right n0 = some r) : FunEq Tryd.prog GG 20 [(.int .i64 n0)] (em_coupletref02_Right r) :=
  fun_of_ev (x := xr_coupletref02_Right) (Λ := lm_coupletref02_Right) gk_coupletref02_Right [] Tryd.func20 rfl (by kernel_rfl) ir_coupletref02_Right (by kernel_rfl) (congrArg Array.toList Tryd.results20) Tryd.ntmps20 (⟨trivial, ⟨trivial, trivial⟩⟩) (leaf_of fun v => (by kernel_rfl : rh_coupletref02_Right.build v = em_coupletref02_Right (ra_coupletref02_Right v))) (by kernel_rfl) ((rn_coupletref02_Right n0).trans h)
def as_coupletref02_Right : List Shp := [(.int .i64)]
def ga_coupletref02_Right (vs : List PV) : Option Bool := go_coupletref02_Right ((tls 0 vs).headD .nilSl).num
theorem at_coupletref02_Right : FnAt Tryd.prog GG 20 as_coupletref02_Right ga_coupletref02_Right em_coupletref02_Right := fun vs h r hr => by
  have e : Shp.buildL as_coupletref02_Right vs = [(.int .i64 ((tls 0 vs).headD .nilSl).num)] := by kernel_rfl
  rw [← Shp.buildL_eq _ h, e]
  exact ok_coupletref02_Right _ r hr

def xb_coupletref02_Text_0 : XR := (.seq (.seq (.ops false [⟨⟨(some 24), (.mv (.tmp 4)), none⟩, none⟩, ⟨⟨(some 25), (.bin .gtr (.tmp 24) (.c (.int .i64 (0)))), none⟩, none⟩]) (.cond (.tmp 25) .skip (.exit 0))) (.block 1 (.seq (.ops false [⟨⟨(some 26), (.mv (.tmp 4)), none⟩, none⟩, ⟨⟨(some 27), (.bin .mul (.tmp 26) (.c (.int .i64 (10)))), none⟩, none⟩, ⟨⟨(some 4), (.mv (.tmp 27)), none⟩, none⟩]) (.seq (.ops false [⟨⟨(some 28), (.mv (.tmp 3)), none⟩, none⟩, ⟨⟨(some 29), (.mv (.tmp 4)), none⟩, none⟩, ⟨⟨(some 30), (.bin .quo (.tmp 29) (.c (.int .i64 (16777216)))), none⟩, none⟩, ⟨⟨(some 31), (.call (.func 40) [(.tmp 30)]), none⟩, none⟩, ⟨⟨(some 32), (.binS .add (.tmp 28) (.tmp 31)), none⟩, none⟩, ⟨⟨(some 3), (.mv (.tmp 32)), none⟩, none⟩]) (.ops false [⟨⟨(some 33), (.mv (.tmp 4)), none⟩, none⟩, ⟨⟨(some 34), (.bin .rem (.tmp 33) (.c (.int .i64 (16777216)))), none⟩, none⟩, ⟨⟨(some 4), (.mv (.tmp 34)), none⟩, none⟩])))))
def xr_coupletref02_Text : XR := (.seq (.ops false [⟨⟨(some 2), (.mv (.c (.str []))), none⟩, none⟩]) (.seq (.seq (.ops false [⟨⟨(some 5), (.mv (.tmp 0)), none⟩, none⟩, ⟨⟨(some 6), (.call (.func 20) [(.tmp 5)]), none⟩, none⟩, ⟨⟨(some 7), (.un .not (.tmp 6)), none⟩, none⟩]) (.cond (.tmp 7) (.seq (.ops false [⟨⟨(some 2), (.mv (.c (.str []))), none⟩, none⟩]) .ret) .skip)) (.seq (.seq (.ops false [⟨⟨(some 8), (.mv (.tmp 0)), none⟩, none⟩, ⟨⟨(some 9), (.bin .lss (.tmp 8) (.c (.int .i64 (0)))), none⟩, none⟩]) (.cond (.tmp 9) (.seq (.ops false [⟨⟨(some 10), (.mv (.tmp 0)), none⟩, none⟩, ⟨⟨(some 11), (.bin .sub (.c (.int .i64 (0))) (.tmp 10)), none⟩, none⟩, ⟨⟨(some 12), (.call (.func 14) [(.tmp 11)]), none⟩, none⟩, ⟨⟨(some 13), (.binS .add (.c (.str [(45)])) (.tmp 12)), none⟩, none⟩, ⟨⟨(some 2), (.mv (.tmp 13)), none⟩, none⟩]) .ret) .skip)) (.seq (.ops false [⟨⟨(some 14), (.mv (.tmp 0)), none⟩, none⟩, ⟨⟨(some 15), (.bin .quo (.tmp 14) (.c (.int .i64 (16777216)))), none⟩, none⟩, ⟨⟨(some 16), (.call (.func 40) [(.tmp 15)]), none⟩, none⟩, ⟨⟨(some 3), (.mv (.tmp 16)), none⟩, none⟩]) (.seq (.ops false [⟨⟨(some 17), (.mv (.tmp 0)), none⟩, none⟩, ⟨⟨(some 18), (.bin .rem (.tmp 17) (.c (.int .i64 (16777216)))), none⟩, none⟩, ⟨⟨(some 4), (.mv (.tmp 18)), none⟩, none⟩]) (.seq (.seq (.ops false [⟨⟨(some 19), (.mv (.tmp 4)), none⟩, none⟩, ⟨⟨(some 20), (.bin .eql (.tmp 19) (.c (.int .i64 (0)))), none⟩, none⟩]) (.cond (.tmp 20) (.seq (.ops false [⟨⟨(some 21), (.mv (.tmp 3)), none⟩, none⟩, ⟨⟨(some 2), (.mv (.tmp 21)), none⟩, none⟩]) .ret) .skip)) (.seq (.ops false [⟨⟨(some 22), (.mv (.tmp 3)), none⟩, none⟩, ⟨⟨(some 23), (.binS .add (.tmp 22) (.c (.str [(46)]))), none⟩, none⟩, ⟨⟨(some 3), (.mv (.tmp 23)), none⟩, none⟩]) (.seq (.block 0 (.loop 0 [3, 4] xb_coupletref02_Text_0)) (.seq (.ops false [⟨⟨(some 35), (.mv (.tmp 3)), none⟩, none⟩, ⟨⟨(some 2), (.mv (.tmp 35)), none⟩, none⟩]) .ret)))))))))
def rs_coupletref02_Text : List ResultVar := [(.tmp 2)]
theorem ir_coupletref02_Text : compCode Tryd.prog (Tryd.f14.body.getD .skip) [[3, 4]] = some (xr_coupletref02_Text.erase, []) := by kernel_rfl
/-! coupletref02_Text -/
def gm_coupletref02_Text_v1 : Gam := (Gam.fn 20 as_coupletref02_Right ga_coupletref02_Right em_coupletref02_Right (Gam.fn 14 as_rec_Text ga_rec_Text em_rec_Text (Gam.fn 40 as_coupletref02_digits ga_coupletref02_digits em_coupletref02_digits Gam.bot)))
theorem gk_coupletref02_Text_v1 : GamOk Tryd.prog GG gm_coupletref02_Text_v1 := (GamOk.fn at_coupletref02_Right (GamOk.fn at_rec_Text (GamOk.fn at_coupletref02_digits GamOk.bot)))
def st_coupletref02_Text_v1_0 (l4 : List Int) (n5 : Int) : Option (((List Int × Int)) ⊕ (((List Int)))) :=
  bif (decide (n5 > 0)) then
   (go_coupletref02_digits (IntKind.wrap .i64 (Int.tdiv (IntKind.wrap .i64 (n5 * 10)) 16777216))).bind fun r6 =>
   bif (decide (((List.length l4) + (List.length r6)) ≤ 4611686018427387904)) then
    some (Sum.inl ((l4 ++ r6), (Int.tmod (IntKind.wrap .i64 (n5 * 10)) 16777216)))
   else none
  else
   some (Sum.inr l4)
def lp_coupletref02_Text_v1_0 (l4 : List Int) (n5 : Int) : Option (((List Int))) := loopN (X := (List Int × Int)) (fun x => st_coupletref02_Text_v1_0 x.1 x.2) (l4, n5)
def sh_coupletref02_Text_v1_0 : StSh := ⟨36, [(3, (.p .str)), (4, (.p (.int .i64)))], []⟩
def sx_coupletref02_Text_v1_0 (x : (List Int × Int)) : St := ⟨slots 36 0 [(3, (.p (.str x.1))), (4, (.p (.int .i64 x.2)))], []⟩
def sa_coupletref02_Text_v1_0 (S : St) : (List Int × Int) := (((tls 3 S.t).headD .any).pv.chars, ((tls 4 S.t).headD .any).pv.num)
def tz_coupletref02_Text_v1_0_0 : StSh := ⟨36, [(3, (.p .str))], []⟩
def tx_coupletref02_Text_v1_0_0 (x : (List Int)) : St := ⟨slots 36 0 [(3, (.p (.str x)))], []⟩
def ta_coupletref02_Text_v1_0_0 (S : St) : (List Int) := ((tls 3 S.t).headD .any).pv.chars
def kb_coupletref02_Text_v1_0 : Exit → St → Tree (((List Int × Int)) ⊕ (((List Int)))) := (exOne (.exit 0) [3] tz_coupletref02_Text_v1_0_0 ta_coupletref02_Text_v1_0_0 (fun y => Sum.inr (y)) exNil)
def ky_coupletref02_Text_v1_0 : Dec (((List Int))) := fun _ y ke => ke ((.exit 0) : EK).ex (tx_coupletref02_Text_v1_0_0 y)
theorem kk_coupletref02_Text_v1_0 : ExOk Sum.inr kb_coupletref02_Text_v1_0 ky_coupletref02_Text_v1_0 := (ExOk.one (acc := ta_coupletref02_Text_v1_0_0) (bY := tx_coupletref02_Text_v1_0_0) (inj1 := fun y => y) (fun S => by kernel_rfl) (fun y _ ke => .inr (by kernel_rfl)) ExOk.nil)
def lm_coupletref02_Text_v1 : Lam := fun _ j S kn ke => match j with
  | 0 => prepT [3, 4] [] S fun S => .chk (sh_coupletref02_Text_v1_0.ok S) (.bind (loopN (fun x => st_coupletref02_Text_v1_0 x.1 x.2) (sa_coupletref02_Text_v1_0 S)) fun y => ky_coupletref02_Text_v1_0 _ y ke)
  | _ => .fail
theorem sr_coupletref02_Text_v1_0 (x : (List Int × Int)) : (ev GG gm_coupletref02_Text_v1 lm_coupletref02_Text_v1 xb_coupletref02_Text_0 (sx_coupletref02_Text_v1_0 x) (fun S => forgetT [3, 4] S fun S => prepT [3, 4] [] S fun S => .chk (sh_coupletref02_Text_v1_0.ok S) (.leaf (.inl (sa_coupletref02_Text_v1_0 S)))) kb_coupletref02_Text_v1_0).run = st_coupletref02_Text_v1_0 x.1 x.2 := by kernel_rfl
theorem la_coupletref02_Text_v1_0 : LamAt Tryd.prog GG lm_coupletref02_Text_v1 0 (.loop [3, 4] xb_coupletref02_Text_0.erase) := lam_loop (body := xb_coupletref02_Text_0) (Λ' := lm_coupletref02_Text_v1) gk_coupletref02_Text_v1 (⟨⟨trivial, ⟨trivial, trivial⟩⟩, ⟨trivial, ⟨trivial, trivial⟩⟩⟩) (fun S => (by kernel_rfl : sh_coupletref02_Text_v1_0.build S = sx_coupletref02_Text_v1_0 (sa_coupletref02_Text_v1_0 S))) kk_coupletref02_Text_v1_0 sr_coupletref02_Text_v1_0 (fun _ _ _ => rfl)
/-- coupletref02_Text -/
def go_coupletref02_Text_v1 (n0 : Int) : Option (List Int) :=
  (go_coupletref02_Right n0).bind fun r1 =>
  bif (!r1) then
   some []
  else
   bif (decide (n0 < 0)) then
    (go_rec_Text (IntKind.wrap .i64 (0 - n0))).bind fun r2 =>
    bif (decide ((1 + (List.length r2)) ≤ 4611686018427387904)) then
     some (45 :: r2)
    else none
   else
    (go_coupletref02_digits (IntKind.wrap .i64 (Int.tdiv n0 16777216))).bind fun r3 =>
    bif ((Int.tmod n0 16777216) == 0) then
     some r3
    else
     bif (decide (((List.length r3) + 1) ≤ 4611686018427387904)) then
      (lp_coupletref02_Text_v1_0 (r3 ++ [46]) (Int.tmod n0 16777216)).bind fun y7 =>
      some y7
     else none
def em_coupletref02_Text_v1 (r : (List Int)) : PV := (.str r)
def rh_coupletref02_Text_v1 : Shp := .str
def ra_coupletref02_Text_v1 (v : PV) : (List Int) := v.chars
def kf_coupletref02_Text_v1 (v : PV) : Tree (List Int) := .chk (rh_coupletref02_Text_v1.ok v) (.leaf (ra_coupletref02_Text_v1 v))
theorem rn_coupletref02_Text_v1 (n0 : Int) : (ev GG gm_coupletref02_Text_v1 lm_coupletref02_Text_v1 xr_coupletref02_Text ⟨slots 36 0 [(0, .p (.int .i64 n0))], []⟩ (fun S => finT Tryd.prog rs_coupletref02_Text S kf_coupletref02_Text_v1) (retT Tryd.prog rs_coupletref02_Text kf_coupletref02_Text_v1)).run = go_coupletref02_Text_v1 n0 := by kernel_rfl
theorem ok_coupletref02_Text_v1 (n0 : Int) (r : (List Int)) (h : go_coupletref02_Text_v1 n0 = some r) : FunEq Tryd.prog GG 14 [(.int .i64 n0)] (em_coupletref02_Text_v1 r) :=
  fun_of_ev (x := xr_coupletref02_Text) (Λ := lm_coupletref02_Text_v1) gk_coupletref02_Text_v1 [[3, 4]] Tryd.func14 rfl (by kernel_rfl) ir_coupletref02_Text (by kernel_rfl) (congrArg Array.toList Tryd.results14) Tryd.ntmps14 (⟨trivial, ⟨⟨trivial, ⟨⟨trivial, trivial⟩, trivial⟩⟩, ⟨⟨trivial, ⟨⟨trivial, trivial⟩, trivial⟩⟩, ⟨trivial, ⟨trivial, ⟨⟨trivial, ⟨⟨trivial, trivial⟩, trivial⟩⟩, ⟨trivial, ⟨la_coupletref02_Text_v1_0, ⟨trivial, trivial⟩⟩⟩⟩⟩⟩⟩⟩⟩) (leaf_of fun v => (by kernel_rfl : rh_coupletref02_Text_v1.build v = em_coupletref02_Text_v1 (ra_coupletref02_Text_v1 v))) (by kernel_rfl) ((rn_coupletref02_Text_v1 n0).trans h)
def as_coupletref02_Text_v1 : List Shp := [(.int .i64)]
def ga_coupletref02_Text_v1 (vs : List PV) : Option (List Int) := go_coupletref02_Text_v1 ((tls 0 vs).headD .nilSl).num
theorem at_coupletref02_Text_v1 : FnAt Tryd.prog GG 14 as_coupletref02_Text_v1 ga_coupletref02_Text_v1 em_coupletref02_Text_v1 := fun vs h r hr => by
  have e : Shp.buildL as_coupletref02_Text_v1 vs = [(.int .i64 ((tls 0 vs).headD .nilSl).num)] := by kernel_rfl
  rw [← Shp.buildL_eq _ h, e]
  exact ok_coupletref02_Text_v1 _ r hr
/-! coupletref02_Text -/
def gm_coupletref02_Text_v2 : Gam := (Gam.fn 20 as_coupletref02_Right ga_coupletref02_Right em_coupletref02_Right (Gam.fn 14 as_coupletref02_Text_v1 ga_coupletref02_Text_v1 em_coupletref02_Text_v1 (Gam.fn 40 as_coupletref02_digits ga_coupletref02_digits em_coupletref02_digits Gam.bot)))
theorem gk_coupletref02_Text_v2 : GamOk Tryd.prog GG gm_coupletref02_Text_v2 := (GamOk.fn at_coupletref02_Right (GamOk.fn at_coupletref02_Text_v1 (GamOk.fn at_coupletref02_digits GamOk.bot)))
def st_coupletref02_Text_v2_0 (l4 : List Int) (n5 : Int) : Option (((List Int × Int)) ⊕ (((List Int)))) :=
  bif (decide (n5 > 0)) then
   (go_coupletref02_digits (IntKind.wrap .i64 (Int.tdiv (IntKind.wrap .i64 (n5 * 10)) 16777216))).bind fun r6 =>
   bif (decide (((List.length l4) + (List.length r6)) ≤ 4611686018427387904)) then
    some (Sum.inl ((l4 ++ r6), (Int.tmod (IntKind.wrap .i64 (n5 * 10)) 16777216)))
   else none
  else
   some (Sum.inr l4)
def lp_coupletref02_Text_v2_0 (l4 : List Int) (n5 : Int) : Option (((List Int))) := loopN (X := (List Int × Int)) (fun x => st_coupletref02_Text_v2_0 x.1 x.2) (l4, n5)
def sh_coupletref02_Text_v2_0 : StSh := ⟨36, [(3, (.p .str)), (4, (.p (.int .i64)))], []⟩
def sx_coupletref02_Text_v2_0 (x : (List Int × Int)) : St := ⟨slots 36 0 [(3, (.p (.str x.1))), (4, (.p (.int .i64 x.2)))], []⟩
def sa_coupletref02_Text_v2_0 (S : St) : (List Int × Int) := (((tls 3 S.t).headD .any).pv.chars, ((tls 4 S.t).headD .any).pv.num)
def tz_coupletref02_Text_v2_0_0 : StSh := ⟨36, [(3, (.p .str))], []⟩
def tx_coupletref02_Text_v2_0_0 (x : (List Int)) : St := ⟨slots 36 0 [(3, (.p (.str x)))], []⟩
def ta_coupletref02_Text_v2_0_0 (S : St) : (List Int) := ((tls 3 S.t).headD .any).pv.chars
def kb_coupletref02_Text_v2_0 : Exit → St → Tree (((List Int × Int)) ⊕ (((List Int)))) := (exOne (.exit 0) [3] tz_coupletref02_Text_v2_0_0 ta_coupletref02_Text_v2_0_0 (fun y => Sum.inr (y)) exNil)
def ky_coupletref02_Text_v2_0 : Dec (((List Int))) := fun _ y ke => ke ((.exit 0) : EK).ex (tx_coupletref02_Text_v2_0_0 y)
theorem kk_coupletref02_Text_v2_0 : ExOk Sum.inr kb_coupletref02_Text_v2_0 ky_coupletref02_Text_v2_0 := (ExOk.one (acc := ta_coupletref02_Text_v2_0_0) (bY := tx_coupletref02_Text_v2_0_0) (inj1 := fun y => y) (fun S => by kernel_rfl) (fun y _ ke => .inr (by kernel_rfl)) ExOk.nil)
def lm_coupletref02_Text_v2 : Lam := fun _ j S kn ke => match j with
  | 0 => prepT [3, 4] [] S fun S => .chk (sh_coupletref02_Text_v2_0.ok S) (.bind (loopN (fun x => st_coupletref02_Text_v2_0 x.1 x.2) (sa_coupletref02_Text_v2_0 S)) fun y => ky_coupletref02_Text_v2_0 _ y ke)
  | _ => .fail
theorem sr_coupletref02_Text_v2_0 (x : (List Int × Int)) : (ev GG gm_coupletref02_Text_v2 lm_coupletref02_Text_v2 xb_coupletref02_Text_0 (sx_coupletref02_Text_v2_0 x) (fun S => forgetT [3, 4] S fun S => prepT [3, 4] [] S fun S => .chk (sh_coupletref02_Text_v2_0.ok S) (.leaf (.inl (sa_coupletref02_Text_v2_0 S)))) kb_coupletref02_Text_v2_0).run = st_coupletref02_Text_v2_0 x.1 x.2 := by kernel_rfl
theorem la_coupletref02_Text_v2_0 : LamAt Tryd.prog GG lm_coupletref02_Text_v2 0 (.loop [3, 4] xb_coupletref02_Text_0.erase) := lam_loop (body := xb_coupletref02_Text_0) (Λ' := lm_coupletref02_Text_v2) gk_coupletref02_Text_v2 (⟨⟨trivial, ⟨trivial, trivial⟩⟩, ⟨trivial, ⟨trivial, trivial⟩⟩⟩) (fun S => (by kernel_rfl : sh_coupletref02_Text_v2_0.build S = sx_coupletref02_Text_v2_0 (sa_coupletref02_Text_v2_0 S))) kk_coupletref02_Text_v2_0 sr_coupletref02_Text_v2_0 (fun _ _ _ => rfl)
/-- coupletref02_Text -/
def go_coupletref02_Text_v2 (n0 : Int) : Option (List Int) :=
  (go_coupletref02_Right n0).bind fun r1 =>
  bif (!r1) then
   some []
  else
   bif (decide (n0 < 0)) then
    (go_coupletref02_Text_v1 (IntKind.wrap .i64 (0 - n0))).bind fun r2 =>
    bif (decide ((1 + (List.length r2)) ≤ 4611686018427387904)) then
     some (45 :: r2)
    else none
   else
    (go_coupletref02_digits (IntKind.wrap .i64 (Int.tdiv n0 16777216))).bind fun r3 =>
    bif ((Int.tmod n0 16777216) == 0) then
     some r3
    else
     bif (decide (((List.length r3) + 1) ≤ 4611686018427387904)) then
      (lp_coupletref02_Text_v2_0 (r3 ++ [46]) (Int.tmod n0 16777216)).bind fun y7 =>
      some y7
     else none
def em_coupletref02_Text_v2 (r : (List Int)) : PV := (.str r)
def rh_coupletref02_Text_v2 : Shp := .str
def ra_coupletref02_Text_v2 (v : PV) : (List Int) := v.chars
def kf_coupletref02_Text_v2 (v : PV) : Tree (List Int) := .chk (rh_coupletref02_Text_v2.ok v) (.leaf (ra_coupletref02_Text_v2 v))
theorem rn_coupletref02_Text_v2 (n0 : Int) : (ev GG gm_coupletref02_Text_v2 lm_coupletref02_Text_v2 xr_coupletref02_Text ⟨slots 36 0 [(0, .p (.int .i64 n0))], []⟩ (fun S => finT Tryd.prog rs_coupletref02_Text S kf_coupletref02_Text_v2) (retT Tryd.prog rs_coupletref02_Text kf_coupletref02_Text_v2)).run = go_coupletref02_Text_v2 n0 := by kernel_rfl
theorem ok_coupletref02_Text_v2 (n0 : Int) (r : (List Int)) (h : go_coupletref02_Text_v2 n0 = some r) : FunEq Tryd.prog GG 14 [(.int .i64 n0)] (em_coupletref02_Text_v2 r) :=
  fun_of_ev (x := xr_coupletref02_Text) (Λ := lm_coupletref02_Text_v2) gk_coupletref02_Text_v2 [[3, 4]] Tryd.func14 rfl (by kernel_rfl) ir_coupletref02_Text (by kernel_rfl) (congrArg Array.toList Tryd.results14) Tryd.ntmps14 (⟨trivial, ⟨⟨trivial, ⟨⟨trivial, trivial⟩, trivial⟩⟩, ⟨⟨trivial, ⟨⟨trivial, trivial⟩, trivial⟩⟩, ⟨trivial, ⟨trivial, ⟨⟨trivial, ⟨⟨trivial, trivial⟩, trivial⟩⟩, ⟨trivial, ⟨la_coupletref02_Text_v2_0, ⟨trivial, trivial⟩⟩⟩⟩⟩⟩⟩⟩⟩) (leaf_of fun v => (by kernel_rfl : rh_coupletref02_Text_v2.build v = em_coupletref02_Text_v2 (ra_coupletref02_Text_v2 v))) (by kernel_rfl) ((rn_coupletref02_Text_v2 n0).trans h)
def as_coupletref02_Text_v2 : List Shp := [(.int .i64)]
def ga_coupletref02_Text_v2 (vs : List PV) : Option (List Int) := go_coupletref02_Text_v2 ((tls 0 vs).headD .nilSl).num
theorem at_coupletref02_Text_v2 : FnAt Tryd.prog GG 14 as_coupletref02_Text_v2 ga_coupletref02_Text_v2 em_coupletref02_Text_v2 := fun vs h r hr => by
  have e : Shp.buildL as_coupletref02_Text_v2 vs = [(.int .i64 ((tls 0 vs).headD .nilSl).num)] := by kernel_rfl
  rw [← Shp.buildL_eq _ h, e]
  exact ok_coupletref02_Text_v2 _ r hr

def xr_coupletref02_Told : XR := (.seq (.ops false [⟨⟨(some 4), (.mv (.c (.int .i64 (0)))), none⟩, none⟩, ⟨⟨(some 5), (.mv (.c (.bool false))), none⟩, none⟩]) (.seq (.seq (.ops false [⟨⟨(some 6), (.mv (.tmp 1)), none⟩, none⟩, ⟨⟨(some 7), (.un .not (.tmp 6)), none⟩, none⟩, ⟨⟨(some 8), (.mv (.tmp 7)), none⟩, none⟩, ⟨⟨(some 9), (.mv (.tmp 0)), (some (8, false))⟩, none⟩, ⟨⟨(some 10), (.call (.func 20) [(.tmp 9)]), (some (8, false))⟩, none⟩, ⟨⟨(some 11), (.un .not (.tmp 10)), (some (8, false))⟩, none⟩, ⟨⟨(some 12), (.pick (.tmp 8) (.c (.bool true)) (.tmp 11)), none⟩, none⟩]) (.cond (.tmp 12) (.seq (.ops false [⟨⟨(some 4), (.mv (.c (.int .i64 (0)))), none⟩, none⟩, ⟨⟨(some 5), (.mv (.c (.bool false))), none⟩, none⟩]) .ret) .skip)) (.seq (.ops false [⟨⟨(some 13), (.mv (.tmp 0)), none⟩, none⟩, ⟨⟨(some 4), (.mv (.tmp 13)), none⟩, none⟩, ⟨⟨(some 5), (.mv (.c (.bool true))), none⟩, none⟩]) .ret)))
def rs_coupletref02_Told : List ResultVar := [(.tmp 4), (.tmp 5)]
theorem ir_coupletref02_Told : compCode Tryd.prog (Tryd.f23.body.getD .skip) [] = some (xr_coupletref02_Told.erase, []) := by kernel_rfl
/-! coupletref02_Told -/
def gm_coupletref02_Told : Gam := (Gam.fn 20 as_coupletref02_Right ga_coupletref02_Right em_coupletref02_Right Gam.bot)
theorem gk_coupletref02_Told : GamOk Tryd.prog GG gm_coupletref02_Told := (GamOk.fn at_coupletref02_Right GamOk.bot)
def lm_coupletref02_Told : Lam := fun _ j S kn ke => match j with
  | _ => .fail
/-- coupletref02_Told -/
def go_coupletref02_Told (n0 : Int) (b1 : Bool) : Option (Int × Bool) :=
  bif (!b1) then
   some (0, false)
  else
   (go_coupletref02_Right n0).bind fun r2 =>
   bif (!r2) then
    some (0, false)
   else
    some (n0, true)
def em_coupletref02_Told (r : (Int × Bool)) : PV := (.tup [(.int .i64 r.1), (.bool r.2)])
def rh_coupletref02_Told : Shp := (.tup [(.int .i64), .bool])
def ra_coupletref02_Told (v : PV) : (Int × Bool) := ((v.subs.headD .nilSl).num, (v.subs.tail.headD .nilSl).tru)
def kf_coupletref02_Told (v : PV) : Tree (Int × Bool) := .chk (rh_coupletref02_Told.ok v) (.leaf (ra_coupletref02_Told v))
theorem rn_coupletref02_Told (n0 : Int) (b1 : Bool) : (ev GG gm_coupletref02_Told lm_coupletref02_Told xr_coupletref02_Told ⟨slots 14 0 [(0, .p (.int .i64 n0)), (1, .p (.bool b1))], []⟩ (fun S => finT Tryd.prog rs_coupletref02_Told S kf_coupletref02_Told) (retT Tryd.prog rs_coupletref02_Told kf_coupletref02_Told)).run = go_coupletref02_Told n0 b1 := by kernel_rfl
theorem ok_coupletref02_Told (n0 : Int) (b1 : Bool) (r : (Int × Bool)) (h : go_coupletref02_Told n0 b1 = some r) : FunEq Tryd.prog GG 23 [(.int .i64 n0), (.bool b1)] (em_coupletref02_Told r) :=
  fun_of_ev (x := xr_coupletref02_Told) (Λ := lm_coupletref02_Told) gk_coupletref02_Told [] Tryd.func23 rfl (by kernel_rfl) ir_coupletref02_Told (by kernel_rfl) (congrArg Array.toList Tryd.results23) Tryd.ntmps23 (⟨trivial, ⟨⟨trivial, ⟨⟨trivial, trivial⟩, trivial⟩⟩, ⟨trivial, trivial⟩⟩⟩) (leaf_of fun v => (by kernel_rfl : rh_coupletref02_Told.build v = em_coupletref02_Told (ra_coupletref02_Told v))) (by kernel_rfl) ((rn_coupletref02_Told n0 b1).trans h)
def as_coupletref02_Told : List Shp := [(.int .i64), .bool]
def ga_coupletref02_Told (vs : List PV) : Option (Int × Bool) := go_coupletref02_Told ((tls 0 vs).headD .nilSl).num ((tls 1 vs).headD .nilSl).tru
theorem at_coupletref02_Told : FnAt Tryd.prog GG 23 as_coupletref02_Told ga_coupletref02_Told em_coupletref02_Told := fun vs h r hr => by
  have e : Shp.buildL as_coupletref02_Told vs = [(.int .i64 ((tls 0 vs).headD .nilSl).num), (.bool ((tls 1 vs).headD .nilSl).tru)] := by kernel_rfl
  rw [← Shp.buildL_eq _ h, e]
  exact ok_coupletref02_Told _ _ r hr

def xr_coupletref02_Mul : XR := (.seq (.ops false [⟨⟨(some 6), (.mv (.c (.int .i64 (0)))), none⟩, none⟩, ⟨⟨(some 7), (.mv (.c (.bool false))), none⟩, none⟩]) (.seq (.seq (.ops false [⟨⟨(some 10), (.mv (.tmp 0)), none⟩, none⟩, ⟨⟨(some 11), (.call (.func 20) [(.tmp 10)]), none⟩, none⟩, ⟨⟨(some 12), (.un .not (.tmp 11)), none⟩, none⟩, ⟨⟨(some 13), (.mv (.tmp 12)), none⟩, none⟩, ⟨⟨(some 14), (.mv (.tmp 1)), (some (13, false))⟩, none⟩, ⟨⟨(some 15), (.call (.func 20) [(.tmp 14)]), (some (13, false))⟩, none⟩, ⟨⟨(some 16), (.un .not (.tmp 15)), (some (13, false))⟩, none⟩, ⟨⟨(some 17), (.pick (.tmp 13) (.c (.bool true)) (.tmp 16)), none⟩, none⟩]) (.cond (.tmp 17) (.seq (.ops false [⟨⟨(some 6), (.mv (.c (.int .i64 (0)))), none⟩, none⟩, ⟨⟨(some 7), (.mv (.c (.bool false))), none⟩, none⟩]) .ret) .skip)) (.seq (.ops false [⟨⟨(some 19), (.mv (.tmp 0)), none⟩, none⟩, ⟨⟨(some 20), (.mv (.tmp 1)), none⟩, none⟩, ⟨⟨(some 21), (.mv (.tmp 2)), none⟩, none⟩, ⟨⟨(some 22), (.call (.func 41) [(.tmp 19), (.tmp 20), (.c (.int .i64 (16777216))), (.tmp 21)]), none⟩, none⟩, ⟨⟨(some 18), (.mv (.tmp 22)), none⟩, none⟩, ⟨⟨(some 23), (.ext (.tmp 18) 0), none⟩, none⟩, ⟨⟨(some 24), (.ext (.tmp 18) 1), none⟩, none⟩, ⟨⟨(some 8), (.mv (.tmp 23)), none⟩, none⟩, ⟨⟨(some 9), (.mv (.tmp 24)), none⟩, none⟩]) (.seq (.ops false [⟨⟨(some 25), (.mv (.tmp 8)), none⟩, none⟩, ⟨⟨(some 26), (.mv (.tmp 9)), none⟩, none⟩, ⟨⟨(some 27), (.call (.func 23) [(.tmp 25), (.tmp 26)]), none⟩, none⟩, ⟨⟨(some 28), (.ext (.tmp 27) 0), none⟩, none⟩, ⟨⟨(some 29), (.ext (.tmp 27) 1), none⟩, none⟩, ⟨⟨(some 6), (.mv (.tmp 28)), none⟩, none⟩, ⟨⟨(some 7), (.mv (.tmp 29)), none⟩, none⟩]) .ret))))
def rs_coupletref02_Mul : List ResultVar := [(.tmp 6), (.tmp 7)]
theorem ir_coupletref02_Mul : compCode Tryd.prog (Tryd.f16.body.getD .skip) [] = some (xr_coupletref02_Mul.erase, []) := by kernel_rfl
/-! coupletref02_Mul -/
def gm_coupletref02_Mul : Gam := (Gam.fn 20 as_coupletref02_Right ga_coupletref02_Right em_coupletref02_Right (Gam.fn 41 as_coupletref01_MulDiv ga_coupletref01_MulDiv em_coupletref01_MulDiv (Gam.fn 23 as_coupletref02_Told ga_coupletref02_Told em_coupletref02_Told Gam.bot)))
theorem gk_coupletref02_Mul : GamOk Tryd.prog GG gm_coupletref02_Mul := (GamOk.fn at_coupletref02_Right (GamOk.fn at_coupletref01_MulDiv (GamOk.fn at_coupletref02_Told GamOk.bot)))
def lm_coupletref02_Mul : Lam := fun _ j S kn ke => match j with
  | _ => .fail
/-- coupletref02_Mul -/
def go_coupletref02_Mul (n0 : Int) (n1 : Int) (n2 : Int) : Option (Int × Bool) :=
  (go_coupletref02_Right n0).bind fun r3 =>
  bif (!r3) then
   some (0, false)
  else
   (go_coupletref02_Right n1).bind fun r4 =>
   bif (!r4) then
    some (0, false)
   else
    (go_coupletref01_MulDiv n0 n1 16777216 n2).bind fun r5 =>
    (go_coupletref02_Told r5.1 r5.2).bind fun r6 =>
    some (r6.1, r6.2)
def em_coupletref02_Mul (r : (Int × Bool)) : PV := (.tup [(.int .i64 r.1), (.bool r.2)])
def rh_coupletref02_Mul : Shp := (.tup [(.int .i64), .bool])
def ra_coupletref02_Mul (v : PV) : (Int × Bool) := ((v.subs.headD .nilSl).num, (v.subs.tail.headD .nilSl).tru)
def kf_coupletref02_Mul (v : PV) : Tree (Int × Bool) := .chk (rh_coupletref02_Mul.ok v) (.leaf (ra_coupletref02_Mul v))
theorem rn_coupletref02_Mul (n0 : Int) (n1 : Int) (n2 : Int) : (ev GG gm_coupletref02_Mul lm_coupletref02_Mul xr_coupletref02_Mul ⟨slots 30 0 [(0, .p (.int .i64 n0)), (1, .p (.int .i64 n1)), (2, .p (.int .i64 n2))], []⟩ (fun S => finT Tryd.prog rs_coupletref02_Mul S kf_coupletref02_Mul) (retT Tryd.prog rs_coupletref02_Mul kf_coupletref02_Mul)).run = go_coupletref02_Mul n0 n1 n2 := by kernel_rfl
theorem ok_coupletref02_Mul (n0 : Int) (n1 : Int) (n2 : Int) (r : (Int × Bool)) (h : go_coupletref02_Mul n0 n1 n2 = some r) : FunEq Tryd.prog GG 16 [(.int .i64 n0), (.int .i64 n1), (.int .i64 n2)] (em_coupletref02_Mul r) :=
  fun_of_ev (x := xr_coupletref02_Mul) (Λ := lm_coupletref02_Mul) gk_coupletref02_Mul [] Tryd.func16 rfl (by kernel_rfl) ir_coupletref02_Mul (by kernel_rfl) (congrArg Array.toList Tryd.results16) Tryd.ntmps16 (⟨trivial, ⟨⟨trivial, ⟨⟨trivial, trivial⟩, trivial⟩⟩, ⟨trivial, ⟨trivial, trivial⟩⟩⟩⟩) (leaf_of fun v => (by kernel_rfl : rh_coupletref02_Mul.build v = em_coupletref02_Mul (ra_coupletref02_Mul v))) (by kernel_rfl) ((rn_coupletref02_Mul n0 n1 n2).trans h)
def as_coupletref02_Mul : List Shp := [(.int .i64), (.int .i64), (.int .i64)]
def ga_coupletref02_Mul (vs : List PV) : Option (Int × Bool) := go_coupletref02_Mul ((tls 0 vs).headD .nilSl).num ((tls 1 vs).headD .nilSl).num ((tls 2 vs).headD .nilSl).num
theorem at_coupletref02_Mul : FnAt Tryd.prog GG 16 as_coupletref02_Mul ga_coupletref02_Mul em_coupletref02_Mul := fun vs h r hr => by
  have e : Shp.buildL as_coupletref02_Mul vs = [(.int .i64 ((tls 0 vs).headD .nilSl).num), (.int .i64 ((tls 1 vs).headD .nilSl).num), (.int .i64 ((tls 2 vs).headD .nilSl).num)] := by kernel_rfl
  rw [← Shp.buildL_eq _ h, e]
  exact ok_coupletref02_Mul _ _ _ r hr

def xr_coupletref02_Div : XR := (.seq (.ops false [⟨⟨(some 6), (.mv (.c (.int .i64 (0)))), none⟩, none⟩, ⟨⟨(some 7), (.mv (.c (.bool false))), none⟩, none⟩]) (.seq (.seq (.ops false [⟨⟨(some 10), (.mv (.tmp 0)), none⟩, none⟩, ⟨⟨(some 11), (.call (.func 20) [(.tmp 10)]), none⟩, none⟩, ⟨⟨(some 12), (.un .not (.tmp 11)), none⟩, none⟩, ⟨⟨(some 13), (.mv (.tmp 12)), none⟩, none⟩, ⟨⟨(some 14), (.mv (.tmp 1)), (some (13, false))⟩, none⟩, ⟨⟨(some 15), (.call (.func 20) [(.tmp 14)]), (some (13, false))⟩, none⟩, ⟨⟨(some 16), (.un .not (.tmp 15)), (some (13, false))⟩, none⟩, ⟨⟨(some 17), (.pick (.tmp 13) (.c (.bool true)) (.tmp 16)), none⟩, none⟩]) (.cond (.tmp 17) (.seq (.ops false [⟨⟨(some 6), (.mv (.c (.int .i64 (0)))), none⟩, none⟩, ⟨⟨(some 7), (.mv (.c (.bool false))), none⟩, none⟩]) .ret) .skip)) (.seq (.ops false [⟨⟨(some 19), (.mv (.tmp 0)), none⟩, none⟩, ⟨⟨(some 20), (.mv (.tmp 1)), none⟩, none⟩, ⟨⟨(some 21), (.mv (.tmp 2)), none⟩, none⟩, ⟨⟨(some 22), (.call (.func 41) [(.tmp 19), (.c (.int .i64 (16777216))), (.tmp 20), (.tmp 21)]), none⟩, none⟩, ⟨⟨(some 18), (.mv (.tmp 22)), none⟩, none⟩, ⟨⟨(some 23), (.ext (.tmp 18) 0), none⟩, none⟩, ⟨⟨(some 24), (.ext (.tmp 18) 1), none⟩, none⟩, ⟨⟨(some 8), (.mv (.tmp 23)), none⟩, none⟩, ⟨⟨(some 9), (.mv (.tmp 24)), none⟩, none⟩]) (.seq (.ops false [⟨⟨(some 25), (.mv (.tmp 8)), none⟩, none⟩, ⟨⟨(some 26), (.mv (.tmp 9)), none⟩, none⟩, ⟨⟨(some 27), (.call (.func 23) [(.tmp 25), (.tmp 26)]), none⟩, none⟩, ⟨⟨(some 28), (.ext (.tmp 27) 0), none⟩, none⟩, ⟨⟨(some 29), (.ext (.tmp 27) 1), none⟩, none⟩, ⟨⟨(some 6), (.mv (.tmp 28)), none⟩, none⟩, ⟨⟨(some 7), (.mv (.tmp 29)), none⟩, none⟩]) .ret))))
def rs_coupletref02_Div : List ResultVar := [(.tmp 6), (.tmp 7)]
theorem ir_coupletref02_Div : compCode Tryd.prog (Tryd.f18.body.getD .skip) [] = some (xr_coupletref02_Div.erase, []) := by kernel_rfl
/-! coupletref02_Div -/
def gm_coupletref02_Div : Gam := (Gam.fn 20 as_coupletref02_Right ga_coupletref02_Right em_coupletref02_Right (Gam.fn 41 as_coupletref01_MulDiv ga_coupletref01_MulDiv em_coupletref01_MulDiv (Gam.fn 23 as_coupletref02_Told ga_coupletref02_Told em_coupletref02_Told Gam.bot)))
theorem gk_coupletref02_Div : GamOk Tryd.prog GG gm_coupletref02_Div := (GamOk.fn at_coupletref02_Right (GamOk.fn at_coupletref01_MulDiv (GamOk.fn at_coupletref02_Told GamOk.bot)))
def lm_coupletref02_Div : Lam := fun _ j S kn ke => match j with
  | _ => .fail
/-- coupletref02_Div -/
def go_coupletref02_Div (n0 : Int) (n1 : Int) (n2 : Int) : Option (Int × Bool) :=
  (go_coupletref02_Right n0).bind fun r3 =>
  bif (!r3) then
   some (0, false)
  else
   (go_coupletref02_Right n1).bind fun r4 =>
   bif (!r4) then
    some (0, false)
   else
    (go_coupletref01_MulDiv n0 16777216 n1 n2).bind fun r5 =>
    (go_coupletref02_Told r5.1 r5.2).bind fun r6 =>
    some (r6.1, r6.2)
def em_coupletref02_Div (r : (Int × Bool)) : PV := (.tup [(.int .i64 r.1), (.bool r.2)])
def rh_coupletref02_Div : Shp := (.tup [(.int .i64), .bool])
def ra_coupletref02_Div (v : PV) : (Int × Bool) := ((v.subs.headD .nilSl).num, (v.subs.tail.headD .nilSl).tru)
def kf_coupletref02_Div (v : PV) : Tree (Int × Bool) := .chk (rh_coupletref02_Div.ok v) (.leaf (ra_coupletref02_Div v))
theorem rn_coupletref02_Div (n0 : Int) (n1 : Int) (n2 : Int) : (ev GG gm_coupletref02_Div lm_coupletref02_Div xr_coupletref02_Div ⟨slots 30 0 [(0, .p (.int .i64 n0)), (1, .p (.int .i64 n1)), (2, .p (.int .i64 n2))], []⟩ (fun S => finT Tryd.prog rs_coupletref02_Div S kf_coupletref02_Div) (retT Tryd.prog rs_coupletref02_Div kf_coupletref02_Div)).run = go_coupletref02_Div n0 n1 n2 := by kernel_rfl
theorem ok_coupletref02_Div (n0 : Int) (n1 : Int) (n2 : Int) (r : (Int × Bool)) (h : go_coupletref02_Div n0 n1 n2 = some r) : FunEq Tryd.prog GG 18 [(.int .i64 n0), (.int .i64 n1), (.int .i64 n2)] (em_coupletref02_Div r) :=
  fun_of_ev (x := xr_coupletref02_Div) (Λ := lm_coupletref02_Div) gk_coupletref02_Div [] Tryd.func18 rfl (by kernel_rfl) ir_coupletref02_Div (by kernel_rfl) (congrArg Array.toList Tryd.results18) Tryd.ntmps18 (⟨trivial, ⟨⟨trivial, ⟨⟨trivial, trivial⟩, trivial⟩⟩, ⟨trivial, ⟨trivial, trivial⟩⟩⟩⟩) (leaf_of fun v => (by kernel_rfl : rh_coupletref02_Div.build v = em_coupletref02_Div (ra_coupletref02_Div v))) (by kernel_rfl) ((rn_coupletref02_Div n0 n1 n2).trans h)
def as_coupletref02_Div : List Shp := [(.int .i64), (.int .i64), (.int .i64)]
def ga_coupletref02_Div (vs : List PV) : Option (Int × Bool) := go_coupletref02_Div ((tls 0 vs).headD .nilSl).num ((tls 1 vs).headD .nilSl).num ((tls 2 vs).headD .nilSl).num
theorem at_coupletref02_Div : FnAt Tryd.prog GG 18 as_coupletref02_Div ga_coupletref02_Div em_coupletref02_Div := fun vs h r hr => by
  have e : Shp.buildL as_coupletref02_Div vs = [(.int .i64 ((tls 0 vs).headD .nilSl).num), (.int .i64 ((tls 1 vs).headD .nilSl).num), (.int .i64 ((tls 2 vs).headD .nilSl).num)] := by kernel_rfl
  rw [← Shp.buildL_eq _ h, e]
  exact ok_coupletref02_Div _ _ _ r hr

def xr_coupletlaw02_awake : XR := (.seq (.ops false [⟨⟨(some 0), (.mv (.c (.bool false))), none⟩, none⟩]) (.seq (.ops false [⟨⟨(some 8), (.call (.func 11) [(.c (.int .i64 (1)))]), none⟩, none⟩, ⟨⟨(some 7), (.mv (.tmp 8)), none⟩, none⟩, ⟨⟨(some 9), (.ext (.tmp 7) 0), none⟩, none⟩, ⟨⟨(some 10), (.ext (.tmp 7) 1), none⟩, none⟩, ⟨⟨(some 1), (.mv (.tmp 9)), none⟩, none⟩, ⟨⟨(some 2), (.mv (.tmp 10)), none⟩, none⟩]) (.seq (.ops false [⟨⟨(some 12), (.call (.func 11) [(.c (.int .i64 (3)))]), none⟩, none⟩, ⟨⟨(some 11), (.mv (.tmp 12)), none⟩, none⟩, ⟨⟨(some 13), (.ext (.tmp 11) 0), none⟩, none⟩, ⟨⟨(some 14), (.ext (.tmp 11) 1), none⟩, none⟩, ⟨⟨(some 3), (.mv (.tmp 13)), none⟩, none⟩, ⟨⟨(some 4), (.mv (.tmp 14)), none⟩, none⟩]) (.seq (.ops false [⟨⟨(some 16), (.mv (.tmp 1)), none⟩, none⟩, ⟨⟨(some 17), (.mv (.tmp 3)), none⟩, none⟩, ⟨⟨(some 18), (.call (.func 17) [(.tmp 16), (.tmp 17), (.c (.int .i64 (1)))]), none⟩, none⟩, ⟨⟨(some 15), (.mv (.tmp 18)), none⟩, none⟩, ⟨⟨(some 19), (.ext (.tmp 15) 0), none⟩, none⟩, ⟨⟨(some 20), (.ext (.tmp 15) 1), none⟩, none⟩, ⟨⟨(some 5), (.mv (.tmp 19)), none⟩, none⟩, ⟨⟨(some 6), (.mv (.tmp 20)), none⟩, none⟩]) (.seq (.ops false [⟨⟨(some 21), (.mv (.tmp 1)), none⟩, none⟩, ⟨⟨(some 22), (.bin .eql (.tmp 21) (.c (.int .i64 (16777216)))), none⟩, none⟩, ⟨⟨(some 23), (.mv (.tmp 22)), none⟩, none⟩, ⟨⟨(some 24), (.mv (.tmp 2)), (some (23, true))⟩, none⟩, ⟨⟨(some 25), (.pick (.tmp 23) (.tmp 24) (.c (.bool false))), none⟩, none⟩, ⟨⟨(some 26), (.mv (.tmp 25)), none⟩, none⟩, ⟨⟨(some 27), (.mv (.tmp 4)), (some (26, true))⟩, none⟩, ⟨⟨(some 28), (.pick (.tmp 26) (.tmp 27) (.c (.bool false))), none⟩, none⟩, ⟨⟨(some 29), (.mv (.tmp 28)), none⟩, none⟩, ⟨⟨(some 30), (.mv (.tmp 5)), (some (29, true))⟩, none⟩, ⟨⟨(some 31), (.bin .eql (.tmp 30) (.c (.int .i64 (5592405)))), (some (29, true))⟩, none⟩, ⟨⟨(some 32), (.pick (.tmp 29) (.tmp 31) (.c (.bool false))), none⟩, none⟩, ⟨⟨(some 33), (.mv (.tmp 32)), none⟩, none⟩, ⟨⟨(some 34), (.mv (.tmp 6)), (some (33, true))⟩, none⟩, ⟨⟨(some 35), (.pick (.tmp 33) (.tmp 34) (.c (.bool false))), none⟩, none⟩, ⟨⟨(some 36), (.mv (.tmp 35)), none⟩, none⟩, ⟨⟨(some 37), (.call (.func 13) [(.c (.int .i64 (25165824)))]), (some (36, true))⟩, none⟩, ⟨⟨(some 38), (.binS .eql (.tmp 37) (.c (.str [(49), (46), (53)]))), (some (36, true))⟩, none⟩, ⟨⟨(some 39), (.pick (.tmp 36) (.tmp 38) (.c (.bool false))), none⟩, none⟩, ⟨⟨(some 40), (.mv (.tmp 39)), none⟩, none⟩, ⟨⟨(some 41), (.mv (.tmp 5)), (some (40, true))⟩, none⟩, ⟨⟨(some 42), (.call (.func 19) [(.tmp 41)]), (some (40, true))⟩, none⟩, ⟨⟨(some 43), (.pick (.tmp 40) (.tmp 42) (.c (.bool false))), none⟩, none⟩, ⟨⟨(some 0), (.mv (.tmp 43)), none⟩, none⟩]) .ret)))))
def rs_coupletlaw02_awake : List ResultVar := [(.tmp 0)]
theorem ir_coupletlaw02_awake : compCode Tryd.prog (Tryd.f12.body.getD .skip) [] = some (xr_coupletlaw02_awake.erase, []) := by kernel_rfl
/-! coupletlaw02_awake -/
def gm_coupletlaw02_awake : Gam := (Gam.fn 11 as_fx_Of ga_fx_Of em_fx_Of (Gam.fn 17 as_fx_Div ga_fx_Div em_fx_Div (Gam.fn 13 as_fx_Text ga_fx_Text em_fx_Text (Gam.fn 19 as_fx_Right ga_fx_Right em_fx_Right Gam.bot))))
theorem gk_coupletlaw02_awake : GamOk Tryd.prog GG gm_coupletlaw02_awake := (GamOk.fn at_fx_Of (GamOk.fn at_fx_Div (GamOk.fn at_fx_Text (GamOk.fn at_fx_Right GamOk.bot))))
def lm_coupletlaw02_awake : Lam := fun _ j S kn ke => match j with
  | _ => .fail
/-- coupletlaw02_awake -/
def go_coupletlaw02_awake : Option Bool :=
  (go_fx_Of 1).bind fun r0 =>
  (go_fx_Of 3).bind fun r1 =>
  (go_fx_Div r0.1 r1.1 1).bind fun r2 =>
  bif (r0.1 == 16777216) then
   bif r0.2 then
    bif r1.2 then
     bif (r2.1 == 5592405) then
      bif r2.2 then
       (go_fx_Text 25165824).bind fun r3 =>
       bif (r3 == [49, 46, 53]) then
        (go_fx_Right r2.1).bind fun r4 =>
        some r4
       else
        some false
      else
       some false
     else
      some false
    else
     some false
   else
    some false
  else
   some false
def em_coupletlaw02_awake (r : Bool) : PV := (.bool r)
def rh_coupletlaw02_awake : Shp := .bool
def ra_coupletlaw02_awake (v : PV) : Bool := v.tru
def kf_coupletlaw02_awake (v : PV) : Tree Bool := .chk (rh_coupletlaw02_awake.ok v) (.leaf (ra_coupletlaw02_awake v))
theorem rn_coupletlaw02_awake : (ev GG gm_coupletlaw02_awake lm_coupletlaw02_awake xr_coupletlaw02_awake ⟨slots 44 0 [], []⟩ (fun S => finT Tryd.prog rs_coupletlaw02_awake S kf_coupletlaw02_awake) (retT Tryd.prog rs_coupletlaw02_awake kf_coupletlaw02_awake)).run = go_coupletlaw02_awake := by kernel_rfl
theorem ok_coupletlaw02_awake (r : Bool) (h : go_coupletlaw02_awake = some r) : FunEq Tryd.prog GG 12 [] (em_coupletlaw02_awake r) :=
  fun_of_ev (x := xr_coupletlaw02_awake) (Λ := lm_coupletlaw02_awake) gk_coupletlaw02_awake [] Tryd.func12 rfl (by kernel_rfl) ir_coupletlaw02_awake (by kernel_rfl) (congrArg Array.toList Tryd.results12) Tryd.ntmps12 (⟨trivial, ⟨trivial, ⟨trivial, ⟨trivial, ⟨trivial, trivial⟩⟩⟩⟩⟩) (leaf_of fun v => (by kernel_rfl : rh_coupletlaw02_awake.build v = em_coupletlaw02_awake (ra_coupletlaw02_awake v))) (by kernel_rfl) ((rn_coupletlaw02_awake).trans h)
def as_coupletlaw02_awake : List Shp := []
def ga_coupletlaw02_awake (vs : List PV) : Option Bool := go_coupletlaw02_awake
theorem at_coupletlaw02_awake : FnAt Tryd.prog GG 12 as_coupletlaw02_awake ga_coupletlaw02_awake em_coupletlaw02_awake := fun vs h r hr => by
  have e : Shp.buildL as_coupletlaw02_awake vs = [] := by kernel_rfl
  rw [← Shp.buildL_eq _ h, e]
  exact ok_coupletlaw02_awake  r hr

def xr_coupletlaw02_FxProducts : XR := (.seq (.ops false [⟨⟨(some 6), (.mv (.c (.bool false))), none⟩, none⟩]) (.seq (.ops false [⟨⟨(some 16), (.mv (.tmp 0)), none⟩, none⟩, ⟨⟨(some 17), (.mv (.tmp 1)), none⟩, none⟩, ⟨⟨(some 18), (.mv (.tmp 2)), none⟩, none⟩, ⟨⟨(some 19), (.call (.func 15) [(.tmp 16), (.tmp 17), (.tmp 18)]), none⟩, none⟩, ⟨⟨(some 15), (.mv (.tmp 19)), none⟩, none⟩, ⟨⟨(some 20), (.ext (.tmp 15) 0), none⟩, none⟩, ⟨⟨(some 21), (.ext (.tmp 15) 1), none⟩, none⟩, ⟨⟨(some 7), (.mv (.tmp 20)), none⟩, none⟩, ⟨⟨(some 8), (.mv (.tmp 21)), none⟩, none⟩]) (.seq (.ops false [⟨⟨(some 23), (.mv (.tmp 0)), none⟩, none⟩, ⟨⟨(some 24), (.mv (.tmp 1)), none⟩, none⟩, ⟨⟨(some 25), (.mv (.tmp 2)), none⟩, none⟩, ⟨⟨(some 26), (.call (.func 16) [(.tmp 23), (.tmp 24), (.tmp 25)]), none⟩, none⟩, ⟨⟨(some 22), (.mv (.tmp 26)), none⟩, none⟩, ⟨⟨(some 27), (.ext (.tmp 22) 0), none⟩, none⟩, ⟨⟨(some 28), (.ext (.tmp 22) 1), none⟩, none⟩, ⟨⟨(some 9), (.mv (.tmp 27)), none⟩, none⟩, ⟨⟨(some 10), (.mv (.tmp 28)), none⟩, none⟩]) (.seq (.ops false [⟨⟨(some 30), (.mv (.tmp 0)), none⟩, none⟩, ⟨⟨(some 31), (.mv (.tmp 1)), none⟩, none⟩, ⟨⟨(some 32), (.mv (.tmp 2)), none⟩, none⟩, ⟨⟨(some 33), (.call (.func 17) [(.tmp 30), (.tmp 31), (.tmp 32)]), none⟩, none⟩, ⟨⟨(some 29), (.mv (.tmp 33)), none⟩, none⟩, ⟨⟨(some 34), (.ext (.tmp 29) 0), none⟩, none⟩, ⟨⟨(some 35), (.ext (.tmp 29) 1), none⟩, none⟩, ⟨⟨(some 11), (.mv (.tmp 34)), none⟩, none⟩, ⟨⟨(some 12), (.mv (.tmp 35)), none⟩, none⟩]) (.seq (.ops false [⟨⟨(some 37), (.mv (.tmp 0)), none⟩, none⟩, ⟨⟨(some 38), (.mv (.tmp 1)), none⟩, none⟩, ⟨⟨(some 39), (.mv (.tmp 2)), none⟩, none⟩, ⟨⟨(some 40), (.call (.func 18) [(.tmp 37), (.tmp 38), (.tmp 39)]), none⟩, none⟩, ⟨⟨(some 36), (.mv (.tmp 40)), none⟩, none⟩, ⟨⟨(some 41), (.ext (.tmp 36) 0), none⟩, none⟩, ⟨⟨(some 42), (.ext (.tmp 36) 1), none⟩, none⟩, ⟨⟨(some 13), (.mv (.tmp 41)), none⟩, none⟩, ⟨⟨(some 14), (.mv (.tmp 42)), none⟩, none⟩]) (.seq (.ops false [⟨⟨(some 43), (.mv (.tmp 7)), none⟩, none⟩, ⟨⟨(some 44), (.mv (.tmp 9)), none⟩, none⟩, ⟨⟨(some 45), (.bin .eql (.tmp 43) (.tmp 44)), none⟩, none⟩, ⟨⟨(some 46), (.mv (.tmp 45)), none⟩, none⟩, ⟨⟨(some 47), (.mv (.tmp 8)), (some (46, true))⟩, none⟩, ⟨⟨(some 48), (.mv (.tmp 10)), (some (46, true))⟩, none⟩, ⟨⟨(some 49), (.binB false (.tmp 47) (.tmp 48)), (some (46, true))⟩, none⟩, ⟨⟨(some 50), (.pick (.tmp 46) (.tmp 49) (.c (.bool false))), none⟩, none⟩, ⟨⟨(some 51), (.mv (.tmp 50)), none⟩, none⟩, ⟨⟨(some 52), (.mv (.tmp 11)), (some (51, true))⟩, none⟩, ⟨⟨(some 53), (.mv (.tmp 13)), (some (51, true))⟩, none⟩, ⟨⟨(some 54), (.bin .eql (.tmp 52) (.tmp 53)), (some (51, true))⟩, none⟩, ⟨⟨(some 55), (.pick (.tmp 51) (.tmp 54) (.c (.bool false))), none⟩, none⟩, ⟨⟨(some 56), (.mv (.tmp 55)), none⟩, none⟩, ⟨⟨(some 57), (.mv (.tmp 12)), (some (56, true))⟩, none⟩, ⟨⟨(some 58), (.mv (.tmp 14)), (some (56, true))⟩, none⟩, ⟨⟨(some 59), (.binB false (.tmp 57) (.tmp 58)), (some (56, true))⟩, none⟩, ⟨⟨(some 60), (.pick (.tmp 56) (.tmp 59) (.c (.bool false))), none⟩, none⟩, ⟨⟨(some 61), (.mv (.tmp 60)), none⟩, none⟩, ⟨⟨(some 62), (.mv (.tmp 0)), (some (61, true))⟩, none⟩, ⟨⟨(some 63), (.call (.func 19) [(.tmp 62)]), (some (61, true))⟩, none⟩, ⟨⟨(some 64), (.mv (.tmp 0)), (some (61, true))⟩, none⟩, ⟨⟨(some 65), (.call (.func 20) [(.tmp 64)]), (some (61, true))⟩, none⟩, ⟨⟨(some 66), (.binB false (.tmp 63) (.tmp 65)), (some (61, true))⟩, none⟩, ⟨⟨(some 67), (.pick (.tmp 61) (.tmp 66) (.c (.bool false))), none⟩, none⟩, ⟨⟨(some 68), (.mv (.tmp 67)), none⟩, none⟩, ⟨⟨(some 69), (.call (.func 12) []), (some (68, true))⟩, none⟩, ⟨⟨(some 70), (.pick (.tmp 68) (.tmp 69) (.c (.bool false))), none⟩, none⟩, ⟨⟨(some 6), (.mv (.tmp 70)), none⟩, none⟩]) .ret))))))
def rs_coupletlaw02_FxProducts : List ResultVar := [(.tmp 6)]
theorem ir_coupletlaw02_FxProducts : compCode Tryd.prog (Tryd.f5.body.getD .skip) [] = some (xr_coupletlaw02_FxProducts.erase, []) := by kernel_rfl
/-! coupletlaw02_FxProducts -/
def gm_coupletlaw02_FxProducts : Gam := (Gam.fn 15 as_fx_Mul ga_fx_Mul em_fx_Mul (Gam.fn 16 as_coupletref02_Mul ga_coupletref02_Mul em_coupletref02_Mul (Gam.fn 17 as_fx_Div ga_fx_Div em_fx_Div (Gam.fn 18 as_coupletref02_Div ga_coupletref02_Div em_coupletref02_Div (Gam.fn 19 as_fx_Right ga_fx_Right em_fx_Right (Gam.fn 20 as_coupletref02_Right ga_coupletref02_Right em_coupletref02_Right (Gam.fn 12 as_coupletlaw02_awake ga_coupletlaw02_awake em_coupletlaw02_awake Gam.bot)))))))
theorem gk_coupletlaw02_FxProducts : GamOk Tryd.prog GG gm_coupletlaw02_FxProducts := (GamOk.fn at_fx_Mul (GamOk.fn at_coupletref02_Mul (GamOk.fn at_fx_Div (GamOk.fn at_coupletref02_Div (GamOk.fn at_fx_Right (GamOk.fn at_coupletref02_Right (GamOk.fn at_coupletlaw02_awake GamOk.bot)))))))
def lm_coupletlaw02_FxProducts : Lam := fun _ j S kn ke => match j with
  | _ => .fail
/-- coupletlaw02_FxProducts -/
def go_coupletlaw02_FxProducts (n0 : Int) (n1 : Int) (n2 : Int) : Option Bool :=
  (go_fx_Mul n0 n1 n2).bind fun r3 =>
  (go_coupletref02_Mul n0 n1 n2).bind fun r4 =>
  (go_fx_Div n0 n1 n2).bind fun r5 =>
  (go_coupletref02_Div n0 n1 n2).bind fun r6 =>
  bif (r3.1 == r4.1) then
   bif (r3.2 == r4.2) then
    bif (r5.1 == r6.1) then
     bif (r5.2 == r6.2) then
      (go_fx_Right n0).bind fun r7 =>
      (go_coupletref02_Right n0).bind fun r8 =>
      bif (r7 == r8) then
       (go_coupletlaw02_awake).bind fun r9 =>
       some r9
      else
       some false
     else
      some false
    else
     some false
   else
    some false
  else
   some false
def em_coupletlaw02_FxProducts (r : Bool) : PV := (.bool r)
def rh_coupletlaw02_FxProducts : Shp := .bool
def ra_coupletlaw02_FxProducts (v : PV) : Bool := v.tru
def kf_coupletlaw02_FxProducts (v : PV) : Tree Bool := .chk (rh_coupletlaw02_FxProducts.ok v) (.leaf (ra_coupletlaw02_FxProducts v))
theorem rn_coupletlaw02_FxProducts (n0 : Int) (n1 : Int) (n2 : Int) : (ev GG gm_coupletlaw02_FxProducts lm_coupletlaw02_FxProducts xr_coupletlaw02_FxProducts ⟨slots 71 0 [(0, .p (.int .i64 n0)), (1, .p (.int .i64 n1)), (2, .p (.int .i64 n2))], []⟩ (fun S => finT Tryd.prog rs_coupletlaw02_FxProducts S kf_coupletlaw02_FxProducts) (retT Tryd.prog rs_coupletlaw02_FxProducts kf_coupletlaw02_FxProducts)).run = go_coupletlaw02_FxProducts n0 n1 n2 := by kernel_rfl
theorem ok_coupletlaw02_FxProducts (n0 : Int) (n1 : Int) (n2 : Int) (r : Bool) (h : go_coupletlaw02_FxProducts n0 n1 n2 = some r) : FunEq Tryd.prog GG 5 [(.int .i64 n0), (.int .i64 n1), (.int .i64 n2)] (em_coupletlaw02_FxProducts r) :=
  fun_of_ev (x := xr_coupletlaw02_FxProducts) (Λ := lm_coupletlaw02_FxProducts) gk_coupletlaw02_FxProducts [] Tryd.func5 rfl (by kernel_rfl) ir_coupletlaw02_FxProducts (by kernel_rfl) (congrArg Array.toList Tryd.results5) Tryd.ntmps5 (⟨trivial, ⟨trivial, ⟨trivial, ⟨trivial, ⟨trivial, ⟨trivial, trivial⟩⟩⟩⟩⟩⟩) (leaf_of fun v => (by kernel_rfl : rh_coupletlaw02_FxProducts.build v = em_coupletlaw02_FxProducts (ra_coupletlaw02_FxProducts v))) (by kernel_rfl) ((rn_coupletlaw02_FxProducts n0 n1 n2).trans h)
def as_coupletlaw02_FxProducts : List Shp := [(.int .i64), (.int .i64), (.int .i64)]
def ga_coupletlaw02_FxProducts (vs : List PV) : Option Bool := go_coupletlaw02_FxProducts ((tls 0 vs).headD .nilSl).num ((tls 1 vs).headD .nilSl).num ((tls 2 vs).headD .nilSl).num
theorem at_coupletlaw02_FxProducts : FnAt Tryd.prog GG 5 as_coupletlaw02_FxProducts ga_coupletlaw02_FxProducts em_coupletlaw02_FxProducts := fun vs h r hr => by
  have e : Shp.buildL as_coupletlaw02_FxProducts vs = [(.int .i64 ((tls 0 vs).headD .nilSl).num), (.int .i64 ((tls 1 vs).headD .nilSl).num), (.int .i64 ((tls 2 vs).headD .nilSl).num)] := by kernel_rfl
  rw [← Shp.buildL_eq _ h, e]
  exact ok_coupletlaw02_FxProducts _ _ _ r hr

def xr_coupletlaw02_FxSums : XR := (.seq (.ops false [⟨⟨(some 4), (.mv (.c (.bool false))), none⟩, none⟩]) (.seq (.ops false [⟨⟨(some 14), (.mv (.tmp 0)), none⟩, none⟩, ⟨⟨(some 15), (.mv (.tmp 1)), none⟩, none⟩, ⟨⟨(some 16), (.call (.func 21) [(.tmp 14), (.tmp 15)]), none⟩, none⟩, ⟨⟨(some 13), (.mv (.tmp 16)), none⟩, none⟩, ⟨⟨(some 17), (.ext (.tmp 13) 0), none⟩, none⟩, ⟨⟨(some 18), (.ext (.tmp 13) 1), none⟩, none⟩, ⟨⟨(some 5), (.mv (.tmp 17)), none⟩, none⟩, ⟨⟨(some 6), (.mv (.tmp 18)), none⟩, none⟩]) (.seq (.ops false [⟨⟨(some 20), (.mv (.tmp 0)), none⟩, none⟩, ⟨⟨(some 21), (.mv (.tmp 1)), none⟩, none⟩, ⟨⟨(some 22), (.call (.func 22) [(.tmp 20), (.tmp 21)]), none⟩, none⟩, ⟨⟨(some 19), (.mv (.tmp 22)), none⟩, none⟩, ⟨⟨(some 23), (.ext (.tmp 19) 0), none⟩, none⟩, ⟨⟨(some 24), (.ext (.tmp 19) 1), none⟩, none⟩, ⟨⟨(some 7), (.mv (.tmp 23)), none⟩, none⟩, ⟨⟨(some 8), (.mv (.tmp 24)), none⟩, none⟩]) (.seq (.seq (.ops false [⟨⟨(some 25), (.mv (.tmp 0)), none⟩, none⟩, ⟨⟨(some 26), (.call (.func 20) [(.tmp 25)]), none⟩, none⟩, ⟨⟨(some 27), (.un .not (.tmp 26)), none⟩, none⟩, ⟨⟨(some 28), (.mv (.tmp 27)), none⟩, none⟩, ⟨⟨(some 29), (.mv (.tmp 1)), (some (28, false))⟩, none⟩, ⟨⟨(some 30), (.call (.func 20) [(.tmp 29)]), (some (28, false))⟩, none⟩, ⟨⟨(some 31), (.un .not (.tmp 30)), (some (28, false))⟩, none⟩, ⟨⟨(some 32), (.pick (.tmp 28) (.c (.bool true)) (.tmp 31)), none⟩, none⟩]) (.cond (.tmp 32) (.seq (.ops false [⟨⟨(some 33), (.mv (.tmp 5)), none⟩, none⟩, ⟨⟨(some 34), (.bin .eql (.tmp 33) (.c (.int .i64 (0)))), none⟩, none⟩, ⟨⟨(some 35), (.mv (.tmp 34)), none⟩, none⟩, ⟨⟨(some 36), (.mv (.tmp 7)), (some (35, true))⟩, none⟩, ⟨⟨(some 37), (.bin .eql (.tmp 36) (.c (.int .i64 (0)))), (some (35, true))⟩, none⟩, ⟨⟨(some 38), (.pick (.tmp 35) (.tmp 37) (.c (.bool false))), none⟩, none⟩, ⟨⟨(some 39), (.mv (.tmp 38)), none⟩, none⟩, ⟨⟨(some 40), (.mv (.tmp 6)), (some (39, true))⟩, none⟩, ⟨⟨(some 41), (.un .not (.tmp 40)), (some (39, true))⟩, none⟩, ⟨⟨(some 42), (.pick (.tmp 39) (.tmp 41) (.c (.bool false))), none⟩, none⟩, ⟨⟨(some 43), (.mv (.tmp 42)), none⟩, none⟩, ⟨⟨(some 44), (.mv (.tmp 8)), (some (43, true))⟩, none⟩, ⟨⟨(some 45), (.un .not (.tmp 44)), (some (43, true))⟩, none⟩, ⟨⟨(some 46), (.pick (.tmp 43) (.tmp 45) (.c (.bool false))), none⟩, none⟩, ⟨⟨(some 47), (.mv (.tmp 46)), none⟩, none⟩, ⟨⟨(some 48), (.call (.func 12) []), (some (47, true))⟩, none⟩, ⟨⟨(some 49), (.pick (.tmp 47) (.tmp 48) (.c (.bool false))), none⟩, none⟩, ⟨⟨(some 4), (.mv (.tmp 49)), none⟩, none⟩]) .ret) .skip)) (.seq (.ops false [⟨⟨(some 51), (.mv (.tmp 0)), none⟩, none⟩, ⟨⟨(some 52), (.mv (.tmp 1)), none⟩, none⟩, ⟨⟨(some 53), (.bin .add (.tmp 51) (.tmp 52)), none⟩, none⟩, ⟨⟨(some 54), (.call (.func 23) [(.tmp 53), (.c (.bool true))]), none⟩, none⟩, ⟨⟨(some 50), (.mv (.tmp 54)), none⟩, none⟩, ⟨⟨(some 55), (.ext (.tmp 50) 0), none⟩, none⟩, ⟨⟨(some 56), (.ext (.tmp 50) 1), none⟩, none⟩, ⟨⟨(some 9), (.mv (.tmp 55)), none⟩, none⟩, ⟨⟨(some 10), (.mv (.tmp 56)), none⟩, none⟩]) (.seq (.ops false [⟨⟨(some 58), (.mv (.tmp 0)), none⟩, none⟩, ⟨⟨(some 59), (.mv (.tmp 1)), none⟩, none⟩, ⟨⟨(some 60), (.bin .sub (.tmp 58) (.tmp 59)), none⟩, none⟩, ⟨⟨(some 61), (.call (.func 23) [(.tmp 60), (.c (.bool true))]), none⟩, none⟩, ⟨⟨(some 57), (.mv (.tmp 61)), none⟩, none⟩, ⟨⟨(some 62), (.ext (.tmp 57) 0), none⟩, none⟩, ⟨⟨(some 63), (.ext (.tmp 57) 1), none⟩, none⟩, ⟨⟨(some 11), (.mv (.tmp 62)), none⟩, none⟩, ⟨⟨(some 12), (.mv (.tmp 63)), none⟩, none⟩]) (.seq (.ops false [⟨⟨(some 64), (.mv (.tmp 5)), none⟩, none⟩, ⟨⟨(some 65), (.mv (.tmp 9)), none⟩, none⟩, ⟨⟨(some 66), (.bin .eql (.tmp 64) (.tmp 65)), none⟩, none⟩, ⟨⟨(some 67), (.mv (.tmp 66)), none⟩, none⟩, ⟨⟨(some 68), (.mv (.tmp 6)), (some (67, true))⟩, none⟩, ⟨⟨(some 69), (.mv (.tmp 10)), (some (67, true))⟩, none⟩, ⟨⟨(some 70), (.binB false (.tmp 68) (.tmp 69)), (some (67, true))⟩, none⟩, ⟨⟨(some 71), (.pick (.tmp 67) (.tmp 70) (.c (.bool false))), none⟩, none⟩, ⟨⟨(some 72), (.mv (.tmp 71)), none⟩, none⟩, ⟨⟨(some 73), (.mv (.tmp 7)), (some (72, true))⟩, none⟩, ⟨⟨(some 74), (.mv (.tmp 11)), (some (72, true))⟩, none⟩, ⟨⟨(some 75), (.bin .eql (.tmp 73) (.tmp 74)), (some (72, true))⟩, none⟩, ⟨⟨(some 76), (.pick (.tmp 72) (.tmp 75) (.c (.bool false))), none⟩, none⟩, ⟨⟨(some 77), (.mv (.tmp 76)), none⟩, none⟩, ⟨⟨(some 78), (.mv (.tmp 8)), (some (77, true))⟩, none⟩, ⟨⟨(some 79), (.mv (.tmp 12)), (some (77, true))⟩, none⟩, ⟨⟨(some 80), (.binB false (.tmp 78) (.tmp 79)), (some (77, true))⟩, none⟩, ⟨⟨(some 81), (.pick (.tmp 77) (.tmp 80) (.c (.bool false))), none⟩, none⟩, ⟨⟨(some 82), (.mv (.tmp 81)), none⟩, none⟩, ⟨⟨(some 83), (.call (.func 12) []), (some (82, true))⟩, none⟩, ⟨⟨(some 84), (.pick (.tmp 82) (.tmp 83) (.c (.bool false))), none⟩, none⟩, ⟨⟨(some 4), (.mv (.tmp 84)), none⟩, none⟩]) .ret)))))))
def rs_coupletlaw02_FxSums : List ResultVar := [(.tmp 4)]
theorem ir_coupletlaw02_FxSums : compCode Tryd.prog (Tryd.f6.body.getD .skip) [] = some (xr_coupletlaw02_FxSums.erase, []) := by kernel_rfl
/-! coupletlaw02_FxSums -/
def gm_coupletlaw02_FxSums : Gam := (Gam.fn 21 as_fx_Add ga_fx_Add em_fx_Add (Gam.fn 22 as_fx_Sub ga_fx_Sub em_fx_Sub (Gam.fn 20 as_coupletref02_Right ga_coupletref02_Right em_coupletref02_Right (Gam.fn 12 as_coupletlaw02_awake ga_coupletlaw02_awake em_coupletlaw02_awake (Gam.fn 23 as_coupletref02_Told ga_coupletref02_Told em_coupletref02_Told Gam.bot)))))
theorem gk_coupletlaw02_FxSums : GamOk Tryd.prog GG gm_coupletlaw02_FxSums := (GamOk.fn at_fx_Add (GamOk.fn at_fx_Sub (GamOk.fn at_coupletref02_Right (GamOk.fn at_coupletlaw02_awake (GamOk.fn at_coupletref02_Told GamOk.bot)))))
def lm_coupletlaw02_FxSums : Lam := fun _ j S kn ke => match j with
  | _ => .fail
/-- coupletlaw02_FxSums -/
def go_coupletlaw02_FxSums (n0 : Int) (n1 : Int) : Option Bool :=
  (go_fx_Add n0 n1).bind fun r2 =>
  (go_fx_Sub n0 n1).bind fun r3 =>
  (go_coupletref02_Right n0).bind fun r4 =>
  bif (!r4) then
   bif (r2.1 == 0) then
    bif (r3.1 == 0) then
     bif (!r2.2) then
      bif (!r3.2) then
       (go_coupletlaw02_awake).bind fun r5 =>
       some r5
      else
       some false
     else
      some false
    else
     some false
   else
    some false
  else
   (go_coupletref02_Right n1).bind fun r6 =>
   bif (!r6) then
    bif (r2.1 == 0) then
     bif (r3.1 == 0) then
      bif (!r2.2) then
       bif (!r3.2) then
        (go_coupletlaw02_awake).bind fun r7 =>
        some r7
       else
        some false
      else
       some false
     else
      some false
    else
     some false
   else
    (go_coupletref02_Told (IntKind.wrap .i64 (n0 + n1)) true).bind fun r8 =>
    (go_coupletref02_Told (IntKind.wrap .i64 (n0 - n1)) true).bind fun r9 =>
    bif (r2.1 == r8.1) then
     bif (r2.2 == r8.2) then
      bif (r3.1 == r9.1) then
       bif (r3.2 == r9.2) then
        (go_coupletlaw02_awake).bind fun r10 =>
        some r10
       else
        some false
      else
       some false
     else
      some false
    else
     some false
def em_coupletlaw02_FxSums (r : Bool) : PV := (.bool r)
def rh_coupletlaw02_FxSums : Shp := .bool
def ra_coupletlaw02_FxSums (v : PV) : Bool := v.tru
def kf_coupletlaw02_FxSums (v : PV) : Tree Bool := .chk (rh_coupletlaw02_FxSums.ok v) (.leaf (ra_coupletlaw02_FxSums v))
theorem rn_coupletlaw02_FxSums (n0 : Int) (n1 : Int) : (ev GG gm_coupletlaw02_FxSums lm_coupletlaw02_FxSums xr_coupletlaw02_FxSums ⟨slots 85 0 [(0, .p (.int .i64 n0)), (1, .p (.int .i64 n1))], []⟩ (fun S => finT Tryd.prog rs_coupletlaw02_FxSums S kf_coupletlaw02_FxSums) (retT Tryd.prog rs_coupletlaw02_FxSums kf_coupletlaw02_FxSums)).run = go_coupletlaw02_FxSums n0 n1 := by kernel_rfl
theorem ok_coupletlaw02_FxSums (n0 : Int) (n1 : Int) (r : Bool) (h : go_coupletlaw02_FxSums n0 n1 = some r) : FunEq Tryd.prog GG 6 [(.int .i64 n0), (.int .i64 n1)] (em_coupletlaw02_FxSums r) :=
  fun_of_ev (x := xr_coupletlaw02_FxSums) (Λ := lm_coupletlaw02_FxSums) gk_coupletlaw02_FxSums [] Tryd.func6 rfl (by kernel_rfl) ir_coupletlaw02_FxSums (by kernel_rfl) (congrArg Array.toList Tryd.results6) Tryd.ntmps6 (⟨trivial, ⟨trivial, ⟨trivial, ⟨⟨trivial, ⟨⟨trivial, trivial⟩, trivial⟩⟩, ⟨trivial, ⟨trivial, ⟨trivial, trivial⟩⟩⟩⟩⟩⟩⟩) (leaf_of fun v => (by kernel_rfl : rh_coupletlaw02_FxSums.build v = em_coupletlaw02_FxSums (ra_coupletlaw02_FxSums v))) (by kernel_rfl) ((rn_coupletlaw02_FxSums n0 n1).trans h)
def as_coupletlaw02_FxSums : List Shp := [(.int .i64), (.int .i64)]
def ga_coupletlaw02_FxSums (vs : List PV) : Option Bool := go_coupletlaw02_FxSums ((tls 0 vs).headD .nilSl).num ((tls 1 vs).headD .nilSl).num
theorem at_coupletlaw02_FxSums : FnAt Tryd.prog GG 6 as_coupletlaw02_FxSums ga_coupletlaw02_FxSums em_coupletlaw02_FxSums := fun vs h r hr => by
  have e : Shp.buildL as_coupletlaw02_FxSums vs = [(.int .i64 ((tls 0 vs).headD .nilSl).num), (.int .i64 ((tls 1 vs).headD .nilSl).num)] := by kernel_rfl
  rw [← Shp.buildL_eq _ h, e]
  exact ok_coupletlaw02_FxSums _ _ r hr

def xr_coupletref02_Root : XR := (.seq (.ops false [⟨⟨(some 2), (.mv (.c (.int .i64 (0)))), none⟩, none⟩, ⟨⟨(some 3), (.mv (.c (.bool false))), none⟩, none⟩]) (.seq (.ops false [⟨⟨(some 4), (.mv (.tmp 0)), none⟩, none⟩, ⟨⟨(some 5), (.call (.func 43) [(.tmp 4), (.c (.int .i64 (16777216)))]), none⟩, none⟩, ⟨⟨(some 6), (.ext (.tmp 5) 0), none⟩, none⟩, ⟨⟨(some 7), (.ext (.tmp 5) 1), none⟩, none⟩, ⟨⟨(some 2), (.mv (.tmp 6)), none⟩, none⟩, ⟨⟨(some 3), (.mv (.tmp 7)), none⟩, none⟩]) .ret))
def rs_coupletref02_Root : List ResultVar := [(.tmp 2), (.tmp 3)]
theorem ir_coupletref02_Root : compCode Tryd.prog (Tryd.f25.body.getD .skip) [] = some (xr_coupletref02_Root.erase, []) := by kernel_rfl
/-! coupletref02_Root -/
def gm_coupletref02_Root : Gam := (Gam.fn 43 as_coupletref01_Root ga_coupletref01_Root em_coupletref01_Root Gam.bot)
theorem gk_coupletref02_Root : GamOk Tryd.prog GG gm_coupletref02_Root := (GamOk.fn at_coupletref01_Root GamOk.bot)
def lm_coupletref02_Root : Lam := fun _ j S kn ke => match j with
  | _ => .fail
/-- coupletref02_Root -/
def go_coupletref02_Root (n0 : Int) : Option (Int × Bool) :=
  (go_coupletref01_Root n0 16777216).bind fun r1 =>
  some (r1.1, r1.2)
def em_coupletref02_Root (r : (Int × Bool)) : PV := (.tup [(.int .i64 r.1), (.bool r.2)])
def rh_coupletref02_Root : Shp := (.tup [(.int .i64), .bool])
def ra_coupletref02_Root (v : PV) : (Int × Bool) := ((v.subs.headD .nilSl).num, (v.subs.tail.headD .nilSl).tru)
def kf_coupletref02_Root (v : PV) : Tree (Int × Bool) := .chk (rh_coupletref02_Root.ok v) (.leaf (ra_coupletref02_Root v))
theorem rn_coupletref02_Root (n0 : Int) : (ev GG gm_coupletref02_Root lm_coupletref02_Root xr_coupletref02_Root ⟨slots 8 0 [(0, .p (.int .i64 n0))], []⟩ (fun S => finT Tryd.prog rs_coupletref02_Root S kf_coupletref02_Root) (retT Tryd.prog rs_coupletref02_Root kf_coupletref02_Root)).run = go_coupletref02_Root n0 := by kernel_rfl
theorem ok_coupletref02_Root (n0 : Int) (r : (Int × Bool)) (h : go_coupletref02_Root n0 = some r) : FunEq Tryd.prog GG 25 [(.int .i64 n0)] (em_coupletref02_Root r) :=
  fun_of_ev (x := xr_coupletref02_Root) (Λ := lm_coupletref02_Root) gk_coupletref02_Root [] Tryd.func25 rfl (by kernel_rfl) ir_coupletref02_Root (by kernel_rfl) (congrArg Array.toList Tryd.results25) Tryd.ntmps25 (⟨trivial, ⟨trivial, trivial⟩⟩) (leaf_of fun v => (by kernel_rfl : rh_coupletref02_Root.build v = em_coupletref02_Root (ra_coupletref02_Root v))) (by kernel_rfl) ((rn_coupletref02_Root n0).trans h)
def as_coupletref02_Root : List Shp := [(.int .i64)]
def ga_coupletref02_Root (vs : List PV) : Option (Int × Bool) := go_coupletref02_Root ((tls 0 vs).headD .nilSl).num
theorem at_coupletref02_Root : FnAt Tryd.prog GG 25 as_coupletref02_Root ga_coupletref02_Root em_coupletref02_Root := fun vs h r hr => by
  have e : Shp.buildL as_coupletref02_Root vs = [(.int .i64 ((tls 0 vs).headD .nilSl).num)] := by kernel_rfl
  rw [← Shp.buildL_eq _ h, e]
  exact ok_coupletref02_Root _ r hr

def xr_coupletlaw02_FxRoots : XR := (.seq (.ops false [⟨⟨(some 2), (.mv (.c (.bool false))), none⟩, none⟩]) (.seq (.ops false [⟨⟨(some 13), (.mv (.tmp 0)), none⟩, none⟩, ⟨⟨(some 14), (.call (.func 24) [(.tmp 13), (.c (.int .i64 (1)))]), none⟩, none⟩, ⟨⟨(some 12), (.mv (.tmp 14)), none⟩, none⟩, ⟨⟨(some 15), (.ext (.tmp 12) 0), none⟩, none⟩, ⟨⟨(some 16), (.ext (.tmp 12) 1), none⟩, none⟩, ⟨⟨(some 3), (.mv (.tmp 15)), none⟩, none⟩, ⟨⟨(some 4), (.mv (.tmp 16)), none⟩, none⟩]) (.seq (.ops false [⟨⟨(some 18), (.mv (.tmp 0)), none⟩, none⟩, ⟨⟨(some 19), (.call (.func 24) [(.tmp 18), (.c (.int .i64 (2)))]), none⟩, none⟩, ⟨⟨(some 17), (.mv (.tmp 19)), none⟩, none⟩, ⟨⟨(some 20), (.ext (.tmp 17) 0), none⟩, none⟩, ⟨⟨(some 21), (.ext (.tmp 17) 1), none⟩, none⟩, ⟨⟨(some 5), (.mv (.tmp 20)), none⟩, none⟩, ⟨⟨(some 6), (.mv (.tmp 21)), none⟩, none⟩]) (.seq (.ops false [⟨⟨(some 23), (.mv (.tmp 0)), none⟩, none⟩, ⟨⟨(some 24), (.call (.func 24) [(.tmp 23), (.c (.int .i64 (0)))]), none⟩, none⟩, ⟨⟨(some 22), (.mv (.tmp 24)), none⟩, none⟩, ⟨⟨(some 25), (.ext (.tmp 22) 0), none⟩, none⟩, ⟨⟨(some 26), (.ext (.tmp 22) 1), none⟩, none⟩, ⟨⟨(some 7), (.mv (.tmp 25)), none⟩, none⟩, ⟨⟨(some 8), (.mv (.tmp 26)), none⟩, none⟩]) (.seq (.seq (.ops false [⟨⟨(some 27), (.mv (.tmp 0)), none⟩, none⟩, ⟨⟨(some 28), (.call (.func 20) [(.tmp 27)]), none⟩, none⟩, ⟨⟨(some 29), (.un .not (.tmp 28)), none⟩, none⟩, ⟨⟨(some 30), (.mv (.tmp 29)), none⟩, none⟩, ⟨⟨(some 31), (.mv (.tmp 0)), (some (30, false))⟩, none⟩, ⟨⟨(some 32), (.bin .lss (.tmp 31) (.c (.int .i64 (0)))), (some (30, false))⟩, none⟩, ⟨⟨(some 33), (.pick (.tmp 30) (.c (.bool true)) (.tmp 32)), none⟩, none⟩]) (.cond (.tmp 33) (.seq (.ops false [⟨⟨(some 34), (.mv (.tmp 3)), none⟩, none⟩, ⟨⟨(some 35), (.bin .eql (.tmp 34) (.c (.int .i64 (0)))), none⟩, none⟩, ⟨⟨(some 36), (.mv (.tmp 35)), none⟩, none⟩, ⟨⟨(some 37), (.mv (.tmp 5)), (some (36, true))⟩, none⟩, ⟨⟨(some 38), (.bin .eql (.tmp 37) (.c (.int .i64 (0)))), (some (36, true))⟩, none⟩, ⟨⟨(some 39), (.pick (.tmp 36) (.tmp 38) (.c (.bool false))), none⟩, none⟩, ⟨⟨(some 40), (.mv (.tmp 39)), none⟩, none⟩, ⟨⟨(some 41), (.mv (.tmp 7)), (some (40, true))⟩, none⟩, ⟨⟨(some 42), (.bin .eql (.tmp 41) (.c (.int .i64 (0)))), (some (40, true))⟩, none⟩, ⟨⟨(some 43), (.pick (.tmp 40) (.tmp 42) (.c (.bool false))), none⟩, none⟩, ⟨⟨(some 44), (.mv (.tmp 43)), none⟩, none⟩, ⟨⟨(some 45), (.mv (.tmp 4)), (some (44, true))⟩, none⟩, ⟨⟨(some 46), (.un .not (.tmp 45)), (some (44, true))⟩, none⟩, ⟨⟨(some 47), (.pick (.tmp 44) (.tmp 46) (.c (.bool false))), none⟩, none⟩, ⟨⟨(some 48), (.mv (.tmp 47)), none⟩, none⟩, ⟨⟨(some 49), (.mv (.tmp 6)), (some (48, true))⟩, none⟩, ⟨⟨(some 50), (.un .not (.tmp 49)), (some (48, true))⟩, none⟩, ⟨⟨(some 51), (.pick (.tmp 48) (.tmp 50) (.c (.bool false))), none⟩, none⟩, ⟨⟨(some 52), (.mv (.tmp 51)), none⟩, none⟩, ⟨⟨(some 53), (.mv (.tmp 8)), (some (52, true))⟩, none⟩, ⟨⟨(some 54), (.un .not (.tmp 53)), (some (52, true))⟩, none⟩, ⟨⟨(some 55), (.pick (.tmp 52) (.tmp 54) (.c (.bool false))), none⟩, none⟩, ⟨⟨(some 56), (.mv (.tmp 55)), none⟩, none⟩, ⟨⟨(some 57), (.call (.func 12) []), (some (56, true))⟩, none⟩, ⟨⟨(some 58), (.pick (.tmp 56) (.tmp 57) (.c (.bool false))), none⟩, none⟩, ⟨⟨(some 2), (.mv (.tmp 58)), none⟩, none⟩]) .ret) .skip)) (.seq (.ops false [⟨⟨(some 60), (.mv (.tmp 0)), none⟩, none⟩, ⟨⟨(some 61), (.call (.func 25) [(.tmp 60)]), none⟩, none⟩, ⟨⟨(some 59), (.mv (.tmp 61)), none⟩, none⟩, ⟨⟨(some 62), (.ext (.tmp 59) 0), none⟩, none⟩, ⟨⟨(some 63), (.ext (.tmp 59) 1), none⟩, none⟩, ⟨⟨(some 9), (.mv (.tmp 62)), none⟩, none⟩, ⟨⟨(some 10), (.mv (.tmp 63)), none⟩, none⟩]) (.seq (.ops false [⟨⟨(some 64), (.mv (.tmp 9)), none⟩, none⟩, ⟨⟨(some 11), (.mv (.tmp 64)), none⟩, none⟩]) (.seq (.seq (.ops false [⟨⟨(some 65), (.mv (.tmp 10)), none⟩, none⟩, ⟨⟨(some 66), (.un .not (.tmp 65)), none⟩, none⟩]) (.cond (.tmp 66) (.ops false [⟨⟨(some 67), (.mv (.tmp 9)), none⟩, none⟩, ⟨⟨(some 68), (.bin .add (.tmp 67) (.c (.int .i64 (1)))), none⟩, none⟩, ⟨⟨(some 11), (.mv (.tmp 68)), none⟩, none⟩]) .skip)) (.seq (.ops false [⟨⟨(some 69), (.mv (.tmp 4)), none⟩, none⟩, ⟨⟨(some 70), (.mv (.tmp 69)), none⟩, none⟩, ⟨⟨(some 71), (.mv (.tmp 6)), (some (70, true))⟩, none⟩, ⟨⟨(some 72), (.pick (.tmp 70) (.tmp 71) (.c (.bool false))), none⟩, none⟩, ⟨⟨(some 73), (.mv (.tmp 72)), none⟩, none⟩, ⟨⟨(some 74), (.mv (.tmp 8)), (some (73, true))⟩, none⟩, ⟨⟨(some 75), (.pick (.tmp 73) (.tmp 74) (.c (.bool false))), none⟩, none⟩, ⟨⟨(some 76), (.mv (.tmp 75)), none⟩, none⟩, ⟨⟨(some 77), (.mv (.tmp 3)), (some (76, true))⟩, none⟩, ⟨⟨(some 78), (.mv (.tmp 9)), (some (76, true))⟩, none⟩, ⟨⟨(some 79), (.bin .eql (.tmp 77) (.tmp 78)), (some (76, true))⟩, none⟩, ⟨⟨(some 80), (.pick (.tmp 76) (.tmp 79) (.c (.bool false))), none⟩, none⟩, ⟨⟨(some 81), (.mv (.tmp 80)), none⟩, none⟩, ⟨⟨(some 82), (.mv (.tmp 5)), (some (81, true))⟩, none⟩, ⟨⟨(some 83), (.mv (.tmp 11)), (some (81, true))⟩, none⟩, ⟨⟨(some 84), (.bin .eql (.tmp 82) (.tmp 83)), (some (81, true))⟩, none⟩, ⟨⟨(some 85), (.pick (.tmp 81) (.tmp 84) (.c (.bool false))), none⟩, none⟩, ⟨⟨(some 86), (.mv (.tmp 85)), none⟩, none⟩, ⟨⟨(some 87), (.mv (.tmp 7)), (some (86, true))⟩, none⟩, ⟨⟨(some 88), (.mv (.tmp 9)), (some (86, true))⟩, none⟩, ⟨⟨(some 89), (.bin .eql (.tmp 87) (.tmp 88)), (some (86, true))⟩, none⟩, ⟨⟨(some 90), (.mv (.tmp 89)), (some (86, true))⟩, none⟩, ⟨⟨(some 91), (.mv (.tmp 7)), (some (90, false))⟩, none⟩, ⟨⟨(some 92), (.mv (.tmp 11)), (some (90, false))⟩, none⟩, ⟨⟨(some 93), (.bin .eql (.tmp 91) (.tmp 92)), (some (90, false))⟩, none⟩, ⟨⟨(some 94), (.pick (.tmp 90) (.c (.bool true)) (.tmp 93)), (some (86, true))⟩, none⟩, ⟨⟨(some 95), (.pick (.tmp 86) (.tmp 94) (.c (.bool false))), none⟩, none⟩, ⟨⟨(some 96), (.mv (.tmp 95)), none⟩, none⟩, ⟨⟨(some 97), (.call (.func 12) []), (some (96, true))⟩, none⟩, ⟨⟨(some 98), (.pick (.tmp 96) (.tmp 97) (.c (.bool false))), none⟩, none⟩, ⟨⟨(some 2), (.mv (.tmp 98)), none⟩, none⟩]) .ret)))))))))
def rs_coupletlaw02_FxRoots : List ResultVar := [(.tmp 2)]
theorem ir_coupletlaw02_FxRoots : compCode Tryd.prog (Tryd.f8.body.getD .skip) [] = some (xr_coupletlaw02_FxRoots.erase, []) := by kernel_rfl
/-! coupletlaw02_FxRoots -/
def gm_coupletlaw02_FxRoots : Gam := (Gam.fn 24 as_fx_Root ga_fx_Root em_fx_Root (Gam.fn 20 as_coupletref02_Right ga_coupletref02_Right em_coupletref02_Right (Gam.fn 12 as_coupletlaw02_awake ga_coupletlaw02_awake em_coupletlaw02_awake (Gam.fn 25 as_coupletref02_Root ga_coupletref02_Root em_coupletref02_Root Gam.bot))))
theorem gk_coupletlaw02_FxRoots : GamOk Tryd.prog GG gm_coupletlaw02_FxRoots := (GamOk.fn at_fx_Root (GamOk.fn at_coupletref02_Right (GamOk.fn at_coupletlaw02_awake (GamOk.fn at_coupletref02_Root GamOk.bot))))
def lm_coupletlaw02_FxRoots : Lam := fun _ j S kn ke => match j with
  | _ => .fail
/-- coupletlaw02_FxRoots -/
def go_coupletlaw02_FxRoots (n0 : Int) : Option Bool :=
  (go_fx_Root n0 1).bind fun r1 =>
  (go_fx_Root n0 2).bind fun r2 =>
  (go_fx_Root n0 0).bind fun r3 =>
  (go_coupletref02_Right n0).bind fun r4 =>
  bif (!r4) then
   bif (r1.1 == 0) then
    bif (r2.1 == 0) then
     bif (r3.1 == 0) then
      bif (!r1.2) then
       bif (!r2.2) then
        bif (!r3.2) then
         (go_coupletlaw02_awake).bind fun r5 =>
         some r5
        else
         some false
       else
        some false
      else
       some false
     else
      some false
    else
     some false
   else
    some false
  else
   bif (decide (n0 < 0)) then
    bif (r1.1 == 0) then
     bif (r2.1 == 0) then
      bif (r3.1 == 0) then
       bif (!r1.2) then
        bif (!r2.2) then
         bif (!r3.2) then
          (go_coupletlaw02_awake).bind fun r6 =>
          some r6
         else
          some false
        else
         some false
       else
        some false
      else
       some false
     else
      some false
    else
     some false
   else
    (go_coupletref02_Root n0).bind fun r7 =>
    bif (!r7.2) then
     bif r1.2 then
      bif r2.2 then
       bif r3.2 then
        bif (r1.1 == r7.1) then
         bif (r2.1 == (IntKind.wrap .i64 (r7.1 + 1))) then
          bif (r3.1 == r7.1) then
           (go_coupletlaw02_awake).bind fun r8 =>
           some r8
          else
           bif (r3.1 == (IntKind.wrap .i64 (r7.1 + 1))) then
            (go_coupletlaw02_awake).bind fun r9 =>
            some r9
           else
            some false
         else
          some false
        else
         some false
       else
        some false
      else
       some false
     else
      some false
    else
     bif r1.2 then
      bif r2.2 then
       bif r3.2 then
        bif (r1.1 == r7.1) then
         bif (r2.1 == r7.1) then
          bif (r3.1 == r7.1) then
           (go_coupletlaw02_awake).bind fun r10 =>
           some r10
          else
           bif (r3.1 == r7.1) then
            (go_coupletlaw02_awake).bind fun r11 =>
            some r11
           else
            some false
         else
          some false
        else
         some false
       else
        some false
      else
       some false
     else
      some false
def em_coupletlaw02_FxRoots (r : Bool) : PV := (.bool r)
def rh_coupletlaw02_FxRoots : Shp := .bool
def ra_coupletlaw02_FxRoots (v : PV) : Bool := v.tru
def kf_coupletlaw02_FxRoots (v : PV) : Tree Bool := .chk (rh_coupletlaw02_FxRoots.ok v) (.leaf (ra_coupletlaw02_FxRoots v))
theorem rn_coupletlaw02_FxRoots (n0 : Int) : (ev GG gm_coupletlaw02_FxRoots lm_coupletlaw02_FxRoots xr_coupletlaw02_FxRoots ⟨slots 99 0 [(0, .p (.int .i64 n0))], []⟩ (fun S => finT Tryd.prog rs_coupletlaw02_FxRoots S kf_coupletlaw02_FxRoots) (retT Tryd.prog rs_coupletlaw02_FxRoots kf_coupletlaw02_FxRoots)).run = go_coupletlaw02_FxRoots n0 := by kernel_rfl
theorem ok_coupletlaw02_FxRoots (n0 : Int) (r : Bool) (h : go_coupletlaw02_FxRoots n0 = some r) : FunEq Tryd.prog GG 8 [(.int .i64 n0)] (em_coupletlaw02_FxRoots r) :=
  fun_of_ev (x := xr_coupletlaw02_FxRoots) (Λ := lm_coupletlaw02_FxRoots) gk_coupletlaw02_FxRoots [] Tryd.func8 rfl (by kernel_rfl) ir_coupletlaw02_FxRoots (by kernel_rfl) (congrArg Array.toList Tryd.results8) Tryd.ntmps8 (⟨trivial, ⟨trivial, ⟨trivial, ⟨trivial, ⟨⟨trivial, ⟨⟨trivial, trivial⟩, trivial⟩⟩, ⟨trivial, ⟨trivial, ⟨⟨trivial, ⟨trivial, trivial⟩⟩, ⟨trivial, trivial⟩⟩⟩⟩⟩⟩⟩⟩⟩) (leaf_of fun v => (by kernel_rfl : rh_coupletlaw02_FxRoots.build v = em_coupletlaw02_FxRoots (ra_coupletlaw02_FxRoots v))) (by kernel_rfl) ((rn_coupletlaw02_FxRoots n0).trans h)
def as_coupletlaw02_FxRoots : List Shp := [(.int .i64)]
def ga_coupletlaw02_FxRoots (vs : List PV) : Option Bool := go_coupletlaw02_FxRoots ((tls 0 vs).headD .nilSl).num
theorem at_coupletlaw02_FxRoots : FnAt Tryd.prog GG 8 as_coupletlaw02_FxRoots ga_coupletlaw02_FxRoots em_coupletlaw02_FxRoots := fun vs h r hr => by
  have e : Shp.buildL as_coupletlaw02_FxRoots vs = [(.int .i64 ((tls 0 vs).headD .nilSl).num)] := by kernel_rfl
  rw [← Shp.buildL_eq _ h, e]
  exact ok_coupletlaw02_FxRoots _ r hr

def xr_coupletlaw02_FxWhole : XR := (.seq (.ops false [⟨⟨(some 2), (.mv (.c (.bool false))), none⟩, none⟩]) (.seq (.ops false [⟨⟨(some 6), (.mv (.tmp 0)), none⟩, none⟩, ⟨⟨(some 7), (.call (.func 11) [(.tmp 6)]), none⟩, none⟩, ⟨⟨(some 5), (.mv (.tmp 7)), none⟩, none⟩, ⟨⟨(some 8), (.ext (.tmp 5) 0), none⟩, none⟩, ⟨⟨(some 9), (.ext (.tmp 5) 1), none⟩, none⟩, ⟨⟨(some 3), (.mv (.tmp 8)), none⟩, none⟩, ⟨⟨(some 4), (.mv (.tmp 9)), none⟩, none⟩]) (.seq (.seq (.ops false [⟨⟨(some 10), (.mv (.tmp 0)), none⟩, none⟩, ⟨⟨(some 11), (.bin .lss (.tmp 10) (.c (.int .i64 (-67108864)))), none⟩, none⟩, ⟨⟨(some 12), (.mv (.tmp 11)), none⟩, none⟩, ⟨⟨(some 13), (.mv (.tmp 0)), (some (12, false))⟩, none⟩, ⟨⟨(some 14), (.bin .gtr (.tmp 13) (.c (.int .i64 (67108864)))), (some (12, false))⟩, none⟩, ⟨⟨(some 15), (.pick (.tmp 12) (.c (.bool true)) (.tmp 14)), none⟩, none⟩]) (.cond (.tmp 15) (.seq (.ops false [⟨⟨(some 16), (.mv (.tmp 3)), none⟩, none⟩, ⟨⟨(some 17), (.bin .eql (.tmp 16) (.c (.int .i64 (0)))), none⟩, none⟩, ⟨⟨(some 18), (.mv (.tmp 17)), none⟩, none⟩, ⟨⟨(some 19), (.mv (.tmp 4)), (some (18, true))⟩, none⟩, ⟨⟨(some 20), (.un .not (.tmp 19)), (some (18, true))⟩, none⟩, ⟨⟨(some 21), (.pick (.tmp 18) (.tmp 20) (.c (.bool false))), none⟩, none⟩, ⟨⟨(some 22), (.mv (.tmp 21)), none⟩, none⟩, ⟨⟨(some 23), (.call (.func 12) []), (some (22, true))⟩, none⟩, ⟨⟨(some 24), (.pick (.tmp 22) (.tmp 23) (.c (.bool false))), none⟩, none⟩, ⟨⟨(some 2), (.mv (.tmp 24)), none⟩, none⟩]) .ret) .skip)) (.seq (.ops false [⟨⟨(some 25), (.mv (.tmp 3)), none⟩, none⟩, ⟨⟨(some 26), (.mv (.tmp 0)), none⟩, none⟩, ⟨⟨(some 27), (.bin .mul (.tmp 26) (.c (.int .i64 (16777216)))), none⟩, none⟩, ⟨⟨(some 28), (.bin .eql (.tmp 25) (.tmp 27)), none⟩, none⟩, ⟨⟨(some 29), (.mv (.tmp 28)), none⟩, none⟩, ⟨⟨(some 30), (.mv (.tmp 4)), (some (29, true))⟩, none⟩, ⟨⟨(some 31), (.pick (.tmp 29) (.tmp 30) (.c (.bool false))), none⟩, none⟩, ⟨⟨(some 32), (.mv (.tmp 31)), none⟩, none⟩, ⟨⟨(some 33), (.mv (.tmp 3)), (some (32, true))⟩, none⟩, ⟨⟨(some 34), (.call (.func 13) [(.tmp 33)]), (some (32, true))⟩, none⟩, ⟨⟨(some 35), (.mv (.tmp 0)), (some (32, true))⟩, none⟩, ⟨⟨(some 36), (.bin .mul (.tmp 35) (.c (.int .i64 (16777216)))), (some (32, true))⟩, none⟩, ⟨⟨(some 37), (.call (.func 14) [(.tmp 36)]), (some (32, true))⟩, none⟩, ⟨⟨(some 38), (.binS .eql (.tmp 34) (.tmp 37)), (some (32, true))⟩, none⟩, ⟨⟨(some 39), (.pick (.tmp 32) (.tmp 38) (.c (.bool false))), none⟩, none⟩, ⟨⟨(some 40), (.mv (.tmp 39)), none⟩, none⟩, ⟨⟨(some 41), (.call (.func 12) []), (some (40, true))⟩, none⟩, ⟨⟨(some 42), (.pick (.tmp 40) (.tmp 41) (.c (.bool false))), none⟩, none⟩, ⟨⟨(some 2), (.mv (.tmp 42)), none⟩, none⟩]) .ret))))
def rs_coupletlaw02_FxWhole : List ResultVar := [(.tmp 2)]
theorem ir_coupletlaw02_FxWhole : compCode Tryd.prog (Tryd.f3.body.getD .skip) [] = some (xr_coupletlaw02_FxWhole.erase, []) := by kernel_rfl
/-! coupletlaw02_FxWhole -/
def gm_coupletlaw02_FxWhole : Gam := (Gam.fn 11 as_fx_Of ga_fx_Of em_fx_Of (Gam.fn 12 as_coupletlaw02_awake ga_coupletlaw02_awake em_coupletlaw02_awake (Gam.fn 13 as_fx_Text ga_fx_Text em_fx_Text (Gam.fn 14 as_coupletref02_Text_v2 ga_coupletref02_Text_v2 em_coupletref02_Text_v2 Gam.bot))))
theorem gk_coupletlaw02_FxWhole : GamOk Tryd.prog GG gm_coupletlaw02_FxWhole := (GamOk.fn at_fx_Of (GamOk.fn at_coupletlaw02_awake (GamOk.fn at_fx_Text (GamOk.fn at_coupletref02_Text_v2 GamOk.bot))))
def lm_coupletlaw02_FxWhole : Lam := fun _ j S kn ke => match j with
  | _ => .fail
/-- coupletlaw02_FxWhole -/
def go_coupletlaw02_FxWhole (n0 : Int) : Option Bool :=
  (go_fx_Of n0).bind fun r1 =>
  bif (decide (n0 < (-67108864))) then
   bif (r1.1 == 0) then
    bif (!r1.2) then
     (go_coupletlaw02_awake).bind fun r2 =>
     some r2
    else
     some false
   else
    some false
  else
   bif (decide (n0 > 67108864)) then
    bif (r1.1 == 0) then
     bif (!r1.2) then
      (go_coupletlaw02_awake).bind fun r3 =>
      some r3
     else
      some false
    else
     some false
   else
    bif (r1.1 == (IntKind.wrap .i64 (n0 * 16777216))) then
     bif r1.2 then
      (go_fx_Text r1.1).bind fun r4 =>
      (go_coupletref02_Text_v2 (IntKind.wrap .i64 (n0 * 16777216))).bind fun r5 =>
      bif (r4 == r5) then
       (go_coupletlaw02_awake).bind fun r6 =>
       some r6
      else
       some false
     else
      some false
    else
     some false
def em_coupletlaw02_FxWhole (r : Bool) : PV := (.bool r)
def rh_coupletlaw02_FxWhole : Shp := .bool
def ra_coupletlaw02_FxWhole (v : PV) : Bool := v.tru
def kf_coupletlaw02_FxWhole (v : PV) : Tree Bool := .chk (rh_coupletlaw02_FxWhole.ok v) (.leaf (ra_coupletlaw02_FxWhole v))
theorem rn_coupletlaw02_FxWhole (n0 : Int) : (ev GG gm_coupletlaw02_FxWhole lm_coupletlaw02_FxWhole xr_coupletlaw02_FxWhole ⟨slots 43 0 [(0, .p (.int .i64 n0))], []⟩ (fun S => finT Tryd.prog rs_coupletlaw02_FxWhole S kf_coupletlaw02_FxWhole) (retT Tryd.prog rs_coupletlaw02_FxWhole kf_coupletlaw02_FxWhole)).run = go_coupletlaw02_FxWhole n0 := by kernel_rfl
theorem ok_coupletlaw02_FxWhole (n0 : Int) (r : Bool) (h : go_coupletlaw02_FxWhole n0 = some r) : FunEq Tryd.prog GG 3 [(.int .i64 n0)] (em_coupletlaw02_FxWhole r) :=
  fun_of_ev (x := xr_coupletlaw02_FxWhole) (Λ := lm_coupletlaw02_FxWhole) gk_coupletlaw02_FxWhole [] Tryd.func3 rfl (by kernel_rfl) ir_coupletlaw02_FxWhole (by kernel_rfl) (congrArg Array.toList Tryd.results3) Tryd.ntmps3 (⟨trivial, ⟨trivial, ⟨⟨trivial, ⟨⟨trivial, trivial⟩, trivial⟩⟩, ⟨trivial, trivial⟩⟩⟩⟩) (leaf_of fun v => (by kernel_rfl : rh_coupletlaw02_FxWhole.build v = em_coupletlaw02_FxWhole (ra_coupletlaw02_FxWhole v))) (by kernel_rfl) ((rn_coupletlaw02_FxWhole n0).trans h)
def as_coupletlaw02_FxWhole : List Shp := [(.int .i64)]
def ga_coupletlaw02_FxWhole (vs : List PV) : Option Bool := go_coupletlaw02_FxWhole ((tls 0 vs).headD .nilSl).num
theorem at_coupletlaw02_FxWhole : FnAt Tryd.prog GG 3 as_coupletlaw02_FxWhole ga_coupletlaw02_FxWhole em_coupletlaw02_FxWhole := fun vs h r hr => by
  have e : Shp.buildL as_coupletlaw02_FxWhole vs = [(.int .i64 ((tls 0 vs).headD .nilSl).num)] := by kernel_rfl
  rw [← Shp.buildL_eq _ h, e]
  exact ok_coupletlaw02_FxWhole _ r hr

def xr_coupletlaw02_FxTexts : XR := (.seq (.ops false [⟨⟨(some 2), (.mv (.c (.bool false))), none⟩, none⟩]) (.seq (.ops false [⟨⟨(some 3), (.mv (.tmp 0)), none⟩, none⟩, ⟨⟨(some 4), (.call (.func 13) [(.tmp 3)]), none⟩, none⟩, ⟨⟨(some 5), (.mv (.tmp 0)), none⟩, none⟩, ⟨⟨(some 6), (.call (.func 14) [(.tmp 5)]), none⟩, none⟩, ⟨⟨(some 7), (.binS .eql (.tmp 4) (.tmp 6)), none⟩, none⟩, ⟨⟨(some 8), (.mv (.tmp 7)), none⟩, none⟩, ⟨⟨(some 9), (.call (.func 12) []), (some (8, true))⟩, none⟩, ⟨⟨(some 10), (.pick (.tmp 8) (.tmp 9) (.c (.bool false))), none⟩, none⟩, ⟨⟨(some 2), (.mv (.tmp 10)), none⟩, none⟩]) .ret))
def rs_coupletlaw02_FxTexts : List ResultVar := [(.tmp 2)]
theorem ir_coupletlaw02_FxTexts : compCode Tryd.prog (Tryd.f4.body.getD .skip) [] = some (xr_coupletlaw02_FxTexts.erase, []) := by kernel_rfl
/-! coupletlaw02_FxTexts -/
def gm_coupletlaw02_FxTexts : Gam := (Gam.fn 13 as_fx_Text ga_fx_Text em_fx_Text (Gam.fn 14 as_coupletref02_Text_v2 ga_coupletref02_Text_v2 em_coupletref02_Text_v2 (Gam.fn 12 as_coupletlaw02_awake ga_coupletlaw02_awake em_coupletlaw02_awake Gam.bot)))
theorem gk_coupletlaw02_FxTexts : GamOk Tryd.prog GG gm_coupletlaw02_FxTexts := (GamOk.fn at_fx_Text (GamOk.fn at_coupletref02_Text_v2 (GamOk.fn at_coupletlaw02_awake GamOk.bot)))
def lm_coupletlaw02_FxTexts : Lam := fun _ j S kn ke => match j with
  | _ => .fail
/-- coupletlaw02_FxTexts -/
def go_coupletlaw02_FxTexts (n0 : Int) : Option Bool :=
  (go_fx_Text n0).bind fun r1 =>
  (go_coupletref02_Text_v2 n0).bind fun r2 =>
  bif (r1 == r2) then
   (go_coupletlaw02_awake).bind fun r3 =>
   some r3
  else
   some false
def em_coupletlaw02_FxTexts (r : Bool) : PV := (.bool r)
def rh_coupletlaw02_FxTexts : Shp := .bool
def ra_coupletlaw02_FxTexts (v : PV) : Bool := v.tru
def kf_coupletlaw02_FxTexts (v : PV) : Tree Bool := .chk (rh_coupletlaw02_FxTexts.ok v) (.leaf (ra_coupletlaw02_FxTexts v))
theorem rn_coupletlaw02_FxTexts (n0 : Int) : (ev GG gm_coupletlaw02_FxTexts lm_coupletlaw02_FxTexts xr_coupletlaw02_FxTexts ⟨slots 11 0 [(0, .p (.int .i64 n0))], []⟩ (fun S => finT Tryd.prog rs_coupletlaw02_FxTexts S kf_coupletlaw02_FxTexts) (retT Tryd.prog rs_coupletlaw02_FxTexts kf_coupletlaw02_FxTexts)).run = go_coupletlaw02_FxTexts n0 := by kernel_rfl
theorem ok_coupletlaw02_FxTexts (n0 : Int) (r : Bool) (h : go_coupletlaw02_FxTexts n0 = some r) : FunEq Tryd.prog GG 4 [(.int .i64 n0)] (em_coupletlaw02_FxTexts r) :=
  fun_of_ev (x := xr_coupletlaw02_FxTexts) (Λ := lm_coupletlaw02_FxTexts) gk_coupletlaw02_FxTexts [] Tryd.func4 rfl (by kernel_rfl) ir_coupletlaw02_FxTexts (by kernel_rfl) (congrArg Array.toList Tryd.results4) Tryd.ntmps4 (⟨trivial, ⟨trivial, trivial⟩⟩) (leaf_of fun v => (by kernel_rfl : rh_coupletlaw02_FxTexts.build v = em_coupletlaw02_FxTexts (ra_coupletlaw02_FxTexts v))) (by kernel_rfl) ((rn_coupletlaw02_FxTexts n0).trans h)
def as_coupletlaw02_FxTexts : List Shp := [(.int .i64)]
def ga_coupletlaw02_FxTexts (vs : List PV) : Option Bool := go_coupletlaw02_FxTexts ((tls 0 vs).headD .nilSl).num
theorem at_coupletlaw02_FxTexts : FnAt Tryd.prog GG 4 as_coupletlaw02_FxTexts ga_coupletlaw02_FxTexts em_coupletlaw02_FxTexts := fun vs h r hr => by
  have e : Shp.buildL as_coupletlaw02_FxTexts vs = [(.int .i64 ((tls 0 vs).headD .nilSl).num)] := by kernel_rfl
  rw [← Shp.buildL_eq _ h, e]
  exact ok_coupletlaw02_FxTexts _ r hr

def xr_coupletlaw02_FxBetween_2 : XR := (.seq (.ops false [⟨⟨(some 4), (.mv (.c (.int .i64 (0)))), none⟩, none⟩, ⟨⟨(some 5), (.mv (.c (.bool false))), none⟩, none⟩]) (.seq (.ops false [⟨⟨(some 6), (.ld false 1 (.tmp 1)), none⟩, (some (.int .i64))⟩, ⟨⟨(some 7), (.ld false 1 (.tmp 2)), none⟩, (some (.int .i64))⟩, ⟨⟨(some 8), (.mv (.tmp 0)), none⟩, none⟩, ⟨⟨(some 9), (.call (.func 15) [(.tmp 6), (.tmp 7), (.tmp 8)]), none⟩, none⟩, ⟨⟨(some 10), (.ext (.tmp 9) 0), none⟩, none⟩, ⟨⟨(some 11), (.ext (.tmp 9) 1), none⟩, none⟩, ⟨⟨(some 4), (.mv (.tmp 10)), none⟩, none⟩, ⟨⟨(some 5), (.mv (.tmp 11)), none⟩, none⟩]) .ret))
def rs_coupletlaw02_FxBetween_2 : List ResultVar := [(.tmp 4), (.tmp 5)]
theorem ir_coupletlaw02_FxBetween_2 : compCode Tryd.prog (Tryd.f27.body.getD .skip) [] = some (xr_coupletlaw02_FxBetween_2.erase, []) := by kernel_rfl
/-! coupletlaw02_FxBetween_2 -/
def gm_coupletlaw02_FxBetween_2 : Gam := (Gam.fn 15 as_fx_Mul ga_fx_Mul em_fx_Mul Gam.bot)
theorem gk_coupletlaw02_FxBetween_2 : GamOk Tryd.prog GG gm_coupletlaw02_FxBetween_2 := (GamOk.fn at_fx_Mul GamOk.bot)
def lm_coupletlaw02_FxBetween_2 : Lam := fun _ j S kn ke => match j with
  | _ => .fail
/-- coupletlaw02_FxBetween_2 -/
def go_coupletlaw02_FxBetween_2 (n0 : Int) (n1 : Int) (n2 : Int) : Option (Int × Bool) :=
  (go_fx_Mul n1 n2 n0).bind fun r3 =>
  some (r3.1, r3.2)
def em_coupletlaw02_FxBetween_2 (r : (Int × Bool)) : PV := (.tup [(.int .i64 r.1), (.bool r.2)])
def rh_coupletlaw02_FxBetween_2 : Shp := (.tup [(.int .i64), .bool])
def ra_coupletlaw02_FxBetween_2 (v : PV) : (Int × Bool) := ((v.subs.headD .nilSl).num, (v.subs.tail.headD .nilSl).tru)
def kf_coupletlaw02_FxBetween_2 (v : PV) : Tree (Int × Bool) := .chk (rh_coupletlaw02_FxBetween_2.ok v) (.leaf (ra_coupletlaw02_FxBetween_2 v))
theorem rn_coupletlaw02_FxBetween_2 (n0 : Int) (n1 : Int) (n2 : Int) : (ev GG gm_coupletlaw02_FxBetween_2 lm_coupletlaw02_FxBetween_2 xr_coupletlaw02_FxBetween_2 ⟨slots 12 0 [(0, .p (.int .i64 n0)), (1, .p (.ref 0 [(.int .i64 n1)])), (2, .p (.ref 0 [(.int .i64 n2)]))], []⟩ (fun S => finT Tryd.prog rs_coupletlaw02_FxBetween_2 S kf_coupletlaw02_FxBetween_2) (retT Tryd.prog rs_coupletlaw02_FxBetween_2 kf_coupletlaw02_FxBetween_2)).run = go_coupletlaw02_FxBetween_2 n0 n1 n2 := by kernel_rfl
theorem ok_coupletlaw02_FxBetween_2 (n0 : Int) (n1 : Int) (n2 : Int) (r : (Int × Bool)) (h : go_coupletlaw02_FxBetween_2 n0 n1 n2 = some r) : FunEq Tryd.prog GG 27 [(.int .i64 n0), (.ref 0 [(.int .i64 n1)]), (.ref 0 [(.int .i64 n2)])] (em_coupletlaw02_FxBetween_2 r) :=
  fun_of_ev (x := xr_coupletlaw02_FxBetween_2) (Λ := lm_coupletlaw02_FxBetween_2) gk_coupletlaw02_FxBetween_2 [] Tryd.func27 rfl (by kernel_rfl) ir_coupletlaw02_FxBetween_2 (by kernel_rfl) (congrArg Array.toList Tryd.results27) Tryd.ntmps27 (⟨trivial, ⟨trivial, trivial⟩⟩) (leaf_of fun v => (by kernel_rfl : rh_coupletlaw02_FxBetween_2.build v = em_coupletlaw02_FxBetween_2 (ra_coupletlaw02_FxBetween_2 v))) (by kernel_rfl) ((rn_coupletlaw02_FxBetween_2 n0 n1 n2).trans h)
def as_coupletlaw02_FxBetween_2 : List Shp := [(.int .i64), (.ref 0 [(.int .i64)]), (.ref 0 [(.int .i64)])]
def ga_coupletlaw02_FxBetween_2 (vs : List PV) : Option (Int × Bool) := go_coupletlaw02_FxBetween_2 ((tls 0 vs).headD .nilSl).num (((tls 1 vs).headD .nilSl).subs.headD .nilSl).num (((tls 2 vs).headD .nilSl).subs.headD .nilSl).num
theorem at_coupletlaw02_FxBetween_2 : FnAt Tryd.prog GG 27 as_coupletlaw02_FxBetween_2 ga_coupletlaw02_FxBetween_2 em_coupletlaw02_FxBetween_2 := fun vs h r hr => by
  have e : Shp.buildL as_coupletlaw02_FxBetween_2 vs = [(.int .i64 ((tls 0 vs).headD .nilSl).num), (.ref 0 [(.int .i64 (((tls 1 vs).headD .nilSl).subs.headD .nilSl).num)]), (.ref 0 [(.int .i64 (((tls 2 vs).headD .nilSl).subs.headD .nilSl).num)])] := by kernel_rfl
  rw [← Shp.buildL_eq _ h, e]
  exact ok_coupletlaw02_FxBetween_2 _ _ _ r hr

def xr_coupletlaw02_FxBetween_1 : XR := (.seq (.ops false [⟨⟨(some 2), (.mv (.c (.bool false))), none⟩, none⟩]) (.seq (.ops false [⟨⟨(some 10), (.mv (.tmp 0)), none⟩, none⟩, ⟨⟨(some 11), (.call (.tmp 10) [(.c (.int .i64 (1)))]), none⟩, none⟩, ⟨⟨(some 9), (.mv (.tmp 11)), none⟩, none⟩, ⟨⟨(some 12), (.ext (.tmp 9) 0), none⟩, none⟩, ⟨⟨(some 13), (.ext (.tmp 9) 1), none⟩, none⟩, ⟨⟨(some 3), (.mv (.tmp 12)), none⟩, none⟩, ⟨⟨(some 4), (.mv (.tmp 13)), none⟩, none⟩]) (.seq (.ops false [⟨⟨(some 15), (.mv (.tmp 0)), none⟩, none⟩, ⟨⟨(some 16), (.call (.tmp 15) [(.c (.int .i64 (0)))]), none⟩, none⟩, ⟨⟨(some 14), (.mv (.tmp 16)), none⟩, none⟩, ⟨⟨(some 17), (.ext (.tmp 14) 0), none⟩, none⟩, ⟨⟨(some 18), (.ext (.tmp 14) 1), none⟩, none⟩, ⟨⟨(some 5), (.mv (.tmp 17)), none⟩, none⟩, ⟨⟨(some 6), (.mv (.tmp 18)), none⟩, none⟩]) (.seq (.ops false [⟨⟨(some 20), (.mv (.tmp 0)), none⟩, none⟩, ⟨⟨(some 21), (.call (.tmp 20) [(.c (.int .i64 (2)))]), none⟩, none⟩, ⟨⟨(some 19), (.mv (.tmp 21)), none⟩, none⟩, ⟨⟨(some 22), (.ext (.tmp 19) 0), none⟩, none⟩, ⟨⟨(some 23), (.ext (.tmp 19) 1), none⟩, none⟩, ⟨⟨(some 7), (.mv (.tmp 22)), none⟩, none⟩, ⟨⟨(some 8), (.mv (.tmp 23)), none⟩, none⟩]) (.seq (.ops false [⟨⟨(some 24), (.mv (.tmp 4)), none⟩, none⟩, ⟨⟨(some 25), (.un .not (.tmp 24)), none⟩, none⟩, ⟨⟨(some 26), (.mv (.tmp 25)), none⟩, none⟩, ⟨⟨(some 27), (.mv (.tmp 6)), (some (26, false))⟩, none⟩, ⟨⟨(some 28), (.un .not (.tmp 27)), (some (26, false))⟩, none⟩, ⟨⟨(some 29), (.pick (.tmp 26) (.c (.bool true)) (.tmp 28)), none⟩, none⟩, ⟨⟨(some 30), (.mv (.tmp 29)), none⟩, none⟩, ⟨⟨(some 31), (.mv (.tmp 8)), (some (30, false))⟩, none⟩, ⟨⟨(some 32), (.un .not (.tmp 31)), (some (30, false))⟩, none⟩, ⟨⟨(some 33), (.pick (.tmp 30) (.c (.bool true)) (.tmp 32)), none⟩, none⟩, ⟨⟨(some 34), (.mv (.tmp 33)), none⟩, none⟩, ⟨⟨(some 35), (.mv (.tmp 3)), (some (34, false))⟩, none⟩, ⟨⟨(some 36), (.mv (.tmp 5)), (some (34, false))⟩, none⟩, ⟨⟨(some 37), (.bin .leq (.tmp 35) (.tmp 36)), (some (34, false))⟩, none⟩, ⟨⟨(some 38), (.mv (.tmp 37)), (some (34, false))⟩, none⟩, ⟨⟨(some 39), (.mv (.tmp 5)), (some (38, true))⟩, none⟩, ⟨⟨(some 40), (.mv (.tmp 7)), (some (38, true))⟩, none⟩, ⟨⟨(some 41), (.bin .leq (.tmp 39) (.tmp 40)), (some (38, true))⟩, none⟩, ⟨⟨(some 42), (.pick (.tmp 38) (.tmp 41) (.c (.bool false))), (some (34, false))⟩, none⟩, ⟨⟨(some 43), (.mv (.tmp 42)), (some (34, false))⟩, none⟩, ⟨⟨(some 44), (.mv (.tmp 7)), (some (43, true))⟩, none⟩, ⟨⟨(some 45), (.mv (.tmp 3)), (some (43, true))⟩, none⟩, ⟨⟨(some 46), (.bin .add (.tmp 45) (.c (.int .i64 (1)))), (some (43, true))⟩, none⟩, ⟨⟨(some 47), (.bin .leq (.tmp 44) (.tmp 46)), (some (43, true))⟩, none⟩, ⟨⟨(some 48), (.pick (.tmp 43) (.tmp 47) (.c (.bool false))), (some (34, false))⟩, none⟩, ⟨⟨(some 49), (.pick (.tmp 34) (.c (.bool true)) (.tmp 48)), none⟩, none⟩, ⟨⟨(some 2), (.mv (.tmp 49)), none⟩, none⟩]) .ret)))))
def rs_coupletlaw02_FxBetween_1 : List ResultVar := [(.tmp 2)]
theorem ir_coupletlaw02_FxBetween_1 : compCode Tryd.prog (Tryd.f26.body.getD .skip) [] = some (xr_coupletlaw02_FxBetween_1.erase, []) := by kernel_rfl
/-! coupletlaw02_FxBetween_1 -/
def gm_coupletlaw02_FxBetween_1 : Gam := (Gam.fn 27 as_coupletlaw02_FxBetween_2 ga_coupletlaw02_FxBetween_2 em_coupletlaw02_FxBetween_2 Gam.bot)
theorem gk_coupletlaw02_FxBetween_1 : GamOk Tryd.prog GG gm_coupletlaw02_FxBetween_1 := (GamOk.fn at_coupletlaw02_FxBetween_2 GamOk.bot)
def lm_coupletlaw02_FxBetween_1 : Lam := fun _ j S kn ke => match j with
  | _ => .fail
/-- coupletlaw02_FxBetween_1 -/
def go_coupletlaw02_FxBetween_1 (n0 : Int) (n1 : Int) : Option Bool :=
  (go_coupletlaw02_FxBetween_2 1 n0 n1).bind fun r2 =>
  (go_coupletlaw02_FxBetween_2 0 n0 n1).bind fun r3 =>
  (go_coupletlaw02_FxBetween_2 2 n0 n1).bind fun r4 =>
  bif (!r2.2) then
   some true
  else
   bif (!r3.2) then
    some true
   else
    bif (!r4.2) then
     some true
    else
     bif (decide (r2.1 ≤ r3.1)) then
      bif (decide (r3.1 ≤ r4.1)) then
       some (decide (r4.1 ≤ (IntKind.wrap .i64 (r2.1 + 1))))
      else
       some false
     else
      some false
def em_coupletlaw02_FxBetween_1 (r : Bool) : PV := (.bool r)
def rh_coupletlaw02_FxBetween_1 : Shp := .bool
def ra_coupletlaw02_FxBetween_1 (v : PV) : Bool := v.tru
def kf_coupletlaw02_FxBetween_1 (v : PV) : Tree Bool := .chk (rh_coupletlaw02_FxBetween_1.ok v) (.leaf (ra_coupletlaw02_FxBetween_1 v))
theorem rn_coupletlaw02_FxBetween_1 (n0 : Int) (n1 : Int) : (ev GG gm_coupletlaw02_FxBetween_1 lm_coupletlaw02_FxBetween_1 xr_coupletlaw02_FxBetween_1 ⟨slots 50 0 [(0, .p (.fn 27 [(.ref 0 [(.int .i64 n0)]), (.ref 0 [(.int .i64 n1)])]))], []⟩ (fun S => finT Tryd.prog rs_coupletlaw02_FxBetween_1 S kf_coupletlaw02_FxBetween_1) (retT Tryd.prog rs_coupletlaw02_FxBetween_1 kf_coupletlaw02_FxBetween_1)).run = go_coupletlaw02_FxBetween_1 n0 n1 := by kernel_rfl
theorem ok_coupletlaw02_FxBetween_1 (n0 : Int) (n1 : Int) (r : Bool) (h : go_coupletlaw02_FxBetween_1 n0 n1 = some r) : FunEq Tryd.prog GG 26 [(.fn 27 [(.ref 0 [(.int .i64 n0)]), (.ref 0 [(.int .i64 n1)])])] (em_coupletlaw02_FxBetween_1 r) :=
  fun_of_ev (x := xr_coupletlaw02_FxBetween_1) (Λ := lm_coupletlaw02_FxBetween_1) gk_coupletlaw02_FxBetween_1 [] Tryd.func26 rfl (by kernel_rfl) ir_coupletlaw02_FxBetween_1 (by kernel_rfl) (congrArg Array.toList Tryd.results26) Tryd.ntmps26 (⟨trivial, ⟨trivial, ⟨trivial, ⟨trivial, ⟨trivial, trivial⟩⟩⟩⟩⟩) (leaf_of fun v => (by kernel_rfl : rh_coupletlaw02_FxBetween_1.build v = em_coupletlaw02_FxBetween_1 (ra_coupletlaw02_FxBetween_1 v))) (by kernel_rfl) ((rn_coupletlaw02_FxBetween_1 n0 n1).trans h)
def as_coupletlaw02_FxBetween_1 : List Shp := [(.fn 27 [(.ref 0 [(.int .i64)]), (.ref 0 [(.int .i64)])])]
def ga_coupletlaw02_FxBetween_1 (vs : List PV) : Option Bool := go_coupletlaw02_FxBetween_1 ((((tls 0 vs).headD .nilSl).subs.headD .nilSl).subs.headD .nilSl).num ((((tls 0 vs).headD .nilSl).subs.tail.headD .nilSl).subs.headD .nilSl).num
theorem at_coupletlaw02_FxBetween_1 : FnAt Tryd.prog GG 26 as_coupletlaw02_FxBetween_1 ga_coupletlaw02_FxBetween_1 em_coupletlaw02_FxBetween_1 := fun vs h r hr => by
  have e : Shp.buildL as_coupletlaw02_FxBetween_1 vs = [(.fn 27 [(.ref 0 [(.int .i64 ((((tls 0 vs).headD .nilSl).subs.headD .nilSl).subs.headD .nilSl).num)]), (.ref 0 [(.int .i64 ((((tls 0 vs).headD .nilSl).subs.tail.headD .nilSl).subs.headD .nilSl).num)])])] := by kernel_rfl
  rw [← Shp.buildL_eq _ h, e]
  exact ok_coupletlaw02_FxBetween_1 _ _ r hr

def xr_coupletlaw02_FxBetween_3 : XR := (.seq (.ops false [⟨⟨(some 4), (.mv (.c (.int .i64 (0)))), none⟩, none⟩, ⟨⟨(some 5), (.mv (.c (.bool false))), none⟩, none⟩]) (.seq (.ops false [⟨⟨(some 6), (.ld false 1 (.tmp 1)), none⟩, (some (.int .i64))⟩, ⟨⟨(some 7), (.ld false 1 (.tmp 2)), none⟩, (some (.int .i64))⟩, ⟨⟨(some 8), (.mv (.tmp 0)), none⟩, none⟩, ⟨⟨(some 9), (.call (.func 17) [(.tmp 6), (.tmp 7), (.tmp 8)]), none⟩, none⟩, ⟨⟨(some 10), (.ext (.tmp 9) 0), none⟩, none⟩, ⟨⟨(some 11), (.ext (.tmp 9) 1), none⟩, none⟩, ⟨⟨(some 4), (.mv (.tmp 10)), none⟩, none⟩, ⟨⟨(some 5), (.mv (.tmp 11)), none⟩, none⟩]) .ret))
def rs_coupletlaw02_FxBetween_3 : List ResultVar := [(.tmp 4), (.tmp 5)]
theorem ir_coupletlaw02_FxBetween_3 : compCode Tryd.prog (Tryd.f28.body.getD .skip) [] = some (xr_coupletlaw02_FxBetween_3.erase, []) := by kernel_rfl
/-! coupletlaw02_FxBetween_3 -/
def gm_coupletlaw02_FxBetween_3 : Gam := (Gam.fn 17 as_fx_Div ga_fx_Div em_fx_Div Gam.bot)
theorem gk_coupletlaw02_FxBetween_3 : GamOk Tryd.prog GG gm_coupletlaw02_FxBetween_3 := (GamOk.fn at_fx_Div GamOk.bot)
def lm_coupletlaw02_FxBetween_3 : Lam := fun _ j S kn ke => match j with
  | _ => .fail
/-- coupletlaw02_FxBetween_3 -/
def go_coupletlaw02_FxBetween_3 (n0 : Int) (n1 : Int) (n2 : Int) : Option (Int × Bool) :=
  (go_fx_Div n1 n2 n0).bind fun r3 =>
  some (r3.1, r3.2)
def em_coupletlaw02_FxBetween_3 (r : (Int × Bool)) : PV := (.tup [(.int .i64 r.1), (.bool r.2)])
def rh_coupletlaw02_FxBetween_3 : Shp := (.tup [(.int .i64), .bool])
def ra_coupletlaw02_FxBetween_3 (v : PV) : (Int × Bool) := ((v.subs.headD .nilSl).num, (v.subs.tail.headD .nilSl).tru)
def kf_coupletlaw02_FxBetween_3 (v : PV) : Tree (Int × Bool) := .chk (rh_coupletlaw02_FxBetween_3.ok v) (.leaf (ra_coupletlaw02_FxBetween_3 v))
theorem rn_coupletlaw02_FxBetween_3 (n0 : Int) (n1 : Int) (n2 : Int) : (ev GG gm_coupletlaw02_FxBetween_3 lm_coupletlaw02_FxBetween_3 xr_coupletlaw02_FxBetween_3 ⟨slots 12 0 [(0, .p (.int .i64 n0)), (1, .p (.ref 0 [(.int .i64 n1)])), (2, .p (.ref 0 [(.int .i64 n2)]))], []⟩ (fun S => finT Tryd.prog rs_coupletlaw02_FxBetween_3 S kf_coupletlaw02_FxBetween_3) (retT Tryd.prog rs_coupletlaw02_FxBetween_3 kf_coupletlaw02_FxBetween_3)).run = go_coupletlaw02_FxBetween_3 n0 n1 n2 := by kernel_rfl
theorem ok_coupletlaw02_FxBetween_3 (n0 : Int) (n1 : Int) (n2 : Int) (r : (Int × Bool)) (h : go_coupletlaw02_FxBetween_3 n0 n1 n2 = some r) : FunEq Tryd.prog GG 28 [(.int .i64 n0), (.ref 0 [(.int .i64 n1)]), (.ref 0 [(.int .i64 n2)])] (em_coupletlaw02_FxBetween_3 r) :=
  fun_of_ev (x := xr_coupletlaw02_FxBetween_3) (Λ := lm_coupletlaw02_FxBetween_3) gk_coupletlaw02_FxBetween_3 [] Tryd.func28 rfl (by kernel_rfl) ir_coupletlaw02_FxBetween_3 (by kernel_rfl) (congrArg Array.toList Tryd.results28) Tryd.ntmps28 (⟨trivial, ⟨trivial, trivial⟩⟩) (leaf_of fun v => (by kernel_rfl : rh_coupletlaw02_FxBetween_3.build v = em_coupletlaw02_FxBetween_3 (ra_coupletlaw02_FxBetween_3 v))) (by kernel_rfl) ((rn_coupletlaw02_FxBetween_3 n0 n1 n2).trans h)
def as_coupletlaw02_FxBetween_3 : List Shp := [(.int .i64), (.ref 0 [(.int .i64)]), (.ref 0 [(.int .i64)])]
def ga_coupletlaw02_FxBetween_3 (vs : List PV) : Option (Int × Bool) := go_coupletlaw02_FxBetween_3 ((tls 0 vs).headD .nilSl).num (((tls 1 vs).headD .nilSl).subs.headD .nilSl).num (((tls 2 vs).headD .nilSl).subs.headD .nilSl).num
theorem at_coupletlaw02_FxBetween_3 : FnAt Tryd.prog GG 28 as_coupletlaw02_FxBetween_3 ga_coupletlaw02_FxBetween_3 em_coupletlaw02_FxBetween_3 := fun vs h r hr => by
  have e : Shp.buildL as_coupletlaw02_FxBetween_3 vs = [(.int .i64 ((tls 0 vs).headD .nilSl).num), (.ref 0 [(.int .i64 (((tls 1 vs).headD .nilSl).subs.headD .nilSl).num)]), (.ref 0 [(.int .i64 (((tls 2 vs).headD .nilSl).subs.headD .nilSl).num)])] := by kernel_rfl
  rw [← Shp.buildL_eq _ h, e]
  exact ok_coupletlaw02_FxBetween_3 _ _ _ r hr
/-! coupletlaw02_FxBetween_1 -/
def gm_coupletlaw02_FxBetween_1_v1 : Gam := (Gam.fn 28 as_coupletlaw02_FxBetween_3 ga_coupletlaw02_FxBetween_3 em_coupletlaw02_FxBetween_3 Gam.bot)
theorem gk_coupletlaw02_FxBetween_1_v1 : GamOk Tryd.prog GG gm_coupletlaw02_FxBetween_1_v1 := (GamOk.fn at_coupletlaw02_FxBetween_3 GamOk.bot)
def lm_coupletlaw02_FxBetween_1_v1 : Lam := fun _ j S kn ke => match j with
  | _ => .fail
/-- coupletlaw02_FxBetween_1 -/
def go_coupletlaw02_FxBetween_1_v1 (n0 : Int) (n1 : Int) : Option Bool :=
  (go_coupletlaw02_FxBetween_3 1 n0 n1).bind fun r2 =>
  (go_coupletlaw02_FxBetween_3 0 n0 n1).bind fun r3 =>
  (go_coupletlaw02_FxBetween_3 2 n0 n1).bind fun r4 =>
  bif (!r2.2) then
   some true
  else
   bif (!r3.2) then
    some true
   else
    bif (!r4.2) then
     some true
    else
     bif (decide (r2.1 ≤ r3.1)) then
      bif (decide (r3.1 ≤ r4.1)) then
       some (decide (r4.1 ≤ (IntKind.wrap .i64 (r2.1 + 1))))
      else
       some false
     else
      some false
def em_coupletlaw02_FxBetween_1_v1 (r : Bool) : PV := (.bool r)
def rh_coupletlaw02_FxBetween_1_v1 : Shp := .bool
def ra_coupletlaw02_FxBetween_1_v1 (v : PV) : Bool := v.tru
def kf_coupletlaw02_FxBetween_1_v1 (v : PV) : Tree Bool := .chk (rh_coupletlaw02_FxBetween_1_v1.ok v) (.leaf (ra_coupletlaw02_FxBetween_1_v1 v))
theorem rn_coupletlaw02_FxBetween_1_v1 (n0 : Int) (n1 : Int) : (ev GG gm_coupletlaw02_FxBetween_1_v1 lm_coupletlaw02_FxBetween_1_v1 xr_coupletlaw02_FxBetween_1 ⟨slots 50 0 [(0, .p (.fn 28 [(.ref 0 [(.int .i64 n0)]), (.ref 0 [(.int .i64 n1)])]))], []⟩ (fun S => finT Tryd.prog rs_coupletlaw02_FxBetween_1 S kf_coupletlaw02_FxBetween_1_v1) (retT Tryd.prog rs_coupletlaw02_FxBetween_1 kf_coupletlaw02_FxBetween_1_v1)).run = go_coupletlaw02_FxBetween_1_v1 n0 n1 := by kernel_rfl
theorem ok_coupletlaw02_FxBetween_1_v1 (n0 : Int) (n1 : Int) (r : Bool) (h : go_coupletlaw02_FxBetween_1_v1 n0 n1 = some r) : FunEq Tryd.prog GG 26 [(.fn 28 [(.ref 0 [(.int .i64 n0)]), (.ref 0 [(.int .i64 n1)])])] (em_coupletlaw02_FxBetween_1_v1 r) :=
  fun_of_ev (x := xr_coupletlaw02_FxBetween_1) (Λ := lm_coupletlaw02_FxBetween_1_v1) gk_coupletlaw02_FxBetween_1_v1 [] Tryd.func26 rfl (by kernel_rfl) ir_coupletlaw02_FxBetween_1 (by kernel_rfl) (congrArg Array.toList Tryd.results26) Tryd.ntmps26 (⟨trivial, ⟨trivial, ⟨trivial, ⟨trivial, ⟨trivial, trivial⟩⟩⟩⟩⟩) (leaf_of fun v => (by kernel_rfl : rh_coupletlaw02_FxBetween_1_v1.build v = em_coupletlaw02_FxBetween_1_v1 (ra_coupletlaw02_FxBetween_1_v1 v))) (by kernel_rfl) ((rn_coupletlaw02_FxBetween_1_v1 n0 n1).trans h)
def as_coupletlaw02_FxBetween_1_v1 : List Shp := [(.fn 28 [(.ref 0 [(.int .i64)]), (.ref 0 [(.int .i64)])])]
def ga_coupletlaw02_FxBetween_1_v1 (vs : List PV) : Option Bool := go_coupletlaw02_FxBetween_1_v1 ((((tls 0 vs).headD .nilSl).subs.headD .nilSl).subs.headD .nilSl).num ((((tls 0 vs).headD .nilSl).subs.tail.headD .nilSl).subs.headD .nilSl).num
theorem at_coupletlaw02_FxBetween_1_v1 : FnAt Tryd.prog GG 26 as_coupletlaw02_FxBetween_1_v1 ga_coupletlaw02_FxBetween_1_v1 em_coupletlaw02_FxBetween_1_v1 := fun vs h r hr => by
  have e : Shp.buildL as_coupletlaw02_FxBetween_1_v1 vs = [(.fn 28 [(.ref 0 [(.int .i64 ((((tls 0 vs).headD .nilSl).subs.headD .nilSl).subs.headD .nilSl).num)]), (.ref 0 [(.int .i64 ((((tls 0 vs).headD .nilSl).subs.tail.headD .nilSl).subs.headD .nilSl).num)])])] := by kernel_rfl
  rw [← Shp.buildL_eq _ h, e]
  exact ok_coupletlaw02_FxBetween_1_v1 _ _ r hr

def xr_coupletlaw02_FxBetween_4 : XR := (.seq (.ops false [⟨⟨(some 3), (.mv (.c (.int .i64 (0)))), none⟩, none⟩, ⟨⟨(some 4), (.mv (.c (.bool false))), none⟩, none⟩]) (.seq (.ops false [⟨⟨(some 5), (.ld false 1 (.tmp 1)), none⟩, (some (.int .i64))⟩, ⟨⟨(some 6), (.mv (.tmp 0)), none⟩, none⟩, ⟨⟨(some 7), (.call (.func 24) [(.tmp 5), (.tmp 6)]), none⟩, none⟩, ⟨⟨(some 8), (.ext (.tmp 7) 0), none⟩, none⟩, ⟨⟨(some 9), (.ext (.tmp 7) 1), none⟩, none⟩, ⟨⟨(some 3), (.mv (.tmp 8)), none⟩, none⟩, ⟨⟨(some 4), (.mv (.tmp 9)), none⟩, none⟩]) .ret))
def rs_coupletlaw02_FxBetween_4 : List ResultVar := [(.tmp 3), (.tmp 4)]
theorem ir_coupletlaw02_FxBetween_4 : compCode Tryd.prog (Tryd.f29.body.getD .skip) [] = some (xr_coupletlaw02_FxBetween_4.erase, []) := by kernel_rfl
/-! coupletlaw02_FxBetween_4 -/
def gm_coupletlaw02_FxBetween_4 : Gam := (Gam.fn 24 as_fx_Root ga_fx_Root em_fx_Root Gam.bot)
theorem gk_coupletlaw02_FxBetween_4 : GamOk Tryd.prog GG gm_coupletlaw02_FxBetween_4 := (GamOk.fn at_fx_Root GamOk.bot)
def lm_coupletlaw02_FxBetween_4 : Lam := fun _ j S kn ke => match j with
  | _ => .fail
/-- coupletlaw02_FxBetween_4 -/
def go_coupletlaw02_FxBetween_4 (n0 : Int) (n1 : Int) : Option (Int × Bool) :=
  (go_fx_Root n1 n0).bind fun r2 =>
  some (r2.1, r2.2)
def em_coupletlaw02_FxBetween_4 (r : (Int × Bool)) : PV := (.tup [(.int .i64 r.1), (.bool r.2)])
def rh_coupletlaw02_FxBetween_4 : Shp := (.tup [(.int .i64), .bool])
def ra_coupletlaw02_FxBetween_4 (v : PV) : (Int × Bool) := ((v.subs.headD .nilSl).num, (v.subs.tail.headD .nilSl).tru)
def kf_coupletlaw02_FxBetween_4 (v : PV) : Tree (Int × Bool) := .chk (rh_coupletlaw02_FxBetween_4.ok v) (.leaf (ra_coupletlaw02_FxBetween_4 v))
theorem rn_coupletlaw02_FxBetween_4 (n0 : Int) (n1 : Int) : (ev GG gm_coupletlaw02_FxBetween_4 lm_coupletlaw02_FxBetween_4 xr_coupletlaw02_FxBetween_4 ⟨slots 10 0 [(0, .p (.int .i64 n0)), (1, .p (.ref 0 [(.int .i64 n1)]))], []⟩ (fun S => finT Tryd.prog rs_coupletlaw02_FxBetween_4 S kf_coupletlaw02_FxBetween_4) (retT Tryd.prog rs_coupletlaw02_FxBetween_4 kf_coupletlaw02_FxBetween_4)).run = go_coupletlaw02_FxBetween_4 n0 n1 := by kernel_rfl
theorem ok_coupletlaw02_FxBetween_4 (n0 : Int) (n1 : Int) (r : (Int × Bool)) (h : go_coupletlaw02_FxBetween_4 n0 n1 = some r) : FunEq Tryd.prog GG 29 [(.int .i64 n0), (.ref 0 [(.int .i64 n1)])] (em_coupletlaw02_FxBetween_4 r) :=
  fun_of_ev (x := xr_coupletlaw02_FxBetween_4) (Λ := lm_coupletlaw02_FxBetween_4) gk_coupletlaw02_FxBetween_4 [] Tryd.func29 rfl (by kernel_rfl) ir_coupletlaw02_FxBetween_4 (by kernel_rfl) (congrArg Array.toList Tryd.results29) Tryd.ntmps29 (⟨trivial, ⟨trivial, trivial⟩⟩) (leaf_of fun v => (by kernel_rfl : rh_coupletlaw02_FxBetween_4.build v = em_coupletlaw02_FxBetween_4 (ra_coupletlaw02_FxBetween_4 v))) (by kernel_rfl) ((rn_coupletlaw02_FxBetween_4 n0 n1).trans h)
def as_coupletlaw02_FxBetween_4 : List Shp := [(.int .i64), (.ref 0 [(.int .i64)])]
def ga_coupletlaw02_FxBetween_4 (vs : List PV) : Option (Int × Bool) := go_coupletlaw02_FxBetween_4 ((tls 0 vs).headD .nilSl).num (((tls 1 vs).headD .nilSl).subs.headD .nilSl).num
theorem at_coupletlaw02_FxBetween_4 : FnAt Tryd.prog GG 29 as_coupletlaw02_FxBetween_4 ga_coupletlaw02_FxBetween_4 em_coupletlaw02_FxBetween_4 := fun vs h r hr => by
  have e : Shp.buildL as_coupletlaw02_FxBetween_4 vs = [(.int .i64 ((tls 0 vs).headD .nilSl).num), (.ref 0 [(.int .i64 (((tls 1 vs).headD .nilSl).subs.headD .nilSl).num)])] := by kernel_rfl
  rw [← Shp.buildL_eq _ h, e]
  exact ok_coupletlaw02_FxBetween_4 _ _ r hr
/-! coupletlaw02_FxBetween_1 -/
def gm_coupletlaw02_FxBetween_1_v2 : Gam := (Gam.fn 29 as_coupletlaw02_FxBetween_4 ga_coupletlaw02_FxBetween_4 em_coupletlaw02_FxBetween_4 Gam.bot)
theorem gk_coupletlaw02_FxBetween_1_v2 : GamOk Tryd.prog GG gm_coupletlaw02_FxBetween_1_v2 := (GamOk.fn at_coupletlaw02_FxBetween_4 GamOk.bot)
def lm_coupletlaw02_FxBetween_1_v2 : Lam := fun _ j S kn ke => match j with
  | _ => .fail
/-- coupletlaw02_FxBetween_1 -/
def go_coupletlaw02_FxBetween_1_v2 (n0 : Int) : Option Bool :=
  (go_coupletlaw02_FxBetween_4 1 n0).bind fun r1 =>
  (go_coupletlaw02_FxBetween_4 0 n0).bind fun r2 =>
  (go_coupletlaw02_FxBetween_4 2 n0).bind fun r3 =>
  bif (!r1.2) then
   some true
  else
   bif (!r2.2) then
    some true
   else
    bif (!r3.2) then
     some true
    else
     bif (decide (r1.1 ≤ r2.1)) then
      bif (decide (r2.1 ≤ r3.1)) then
       some (decide (r3.1 ≤ (IntKind.wrap .i64 (r1.1 + 1))))
      else
       some false
     else
      some false
def em_coupletlaw02_FxBetween_1_v2 (r : Bool) : PV := (.bool r)
def rh_coupletlaw02_FxBetween_1_v2 : Shp := .bool
def ra_coupletlaw02_FxBetween_1_v2 (v : PV) : Bool := v.tru
def kf_coupletlaw02_FxBetween_1_v2 (v : PV) : Tree Bool := .chk (rh_coupletlaw02_FxBetween_1_v2.ok v) (.leaf (ra_coupletlaw02_FxBetween_1_v2 v))
theorem rn_coupletlaw02_FxBetween_1_v2 (n0 : Int) : (ev GG gm_coupletlaw02_FxBetween_1_v2 lm_coupletlaw02_FxBetween_1_v2 xr_coupletlaw02_FxBetween_1 ⟨slots 50 0 [(0, .p (.fn 29 [(.ref 0 [(.int .i64 n0)])]))], []⟩ (fun S => finT Tryd.prog rs_coupletlaw02_FxBetween_1 S kf_coupletlaw02_FxBetween_1_v2) (retT Tryd.prog rs_coupletlaw02_FxBetween_1 kf_coupletlaw02_FxBetween_1_v2)).run = go_coupletlaw02_FxBetween_1_v2 n0 := by kernel_rfl
theorem ok_coupletlaw02_FxBetween_1_v2 (n0 : Int) (r : Bool) (h : go_coupletlaw02_FxBetween_1_v2 n0 = some r) : FunEq Tryd.prog GG 26 [(.fn 29 [(.ref 0 [(.int .i64 n0)])])] (em_coupletlaw02_FxBetween_1_v2 r) :=
  fun_of_ev (x := xr_coupletlaw02_FxBetween_1) (Λ := lm_coupletlaw02_FxBetween_1_v2) gk_coupletlaw02_FxBetween_1_v2 [] Tryd.func26 rfl (by kernel_rfl) ir_coupletlaw02_FxBetween_1 (by kernel_rfl) (congrArg Array.toList Tryd.results26) Tryd.ntmps26 (⟨trivial, ⟨trivial, ⟨trivial, ⟨trivial, ⟨trivial, trivial⟩⟩⟩⟩⟩) (leaf_of fun v => (by kernel_rfl : rh_coupletlaw02_FxBetween_1_v2.build v = em_coupletlaw02_FxBetween_1_v2 (ra_coupletlaw02_FxBetween_1_v2 v))) (by kernel_rfl) ((rn_coupletlaw02_FxBetween_1_v2 n0).trans h)
def as_coupletlaw02_FxBetween_1_v2 : List Shp := [(.fn 29 [(.ref 0 [(.int .i64)])])]
def ga_coupletlaw02_FxBetween_1_v2 (vs : List PV) : Option Bool := go_coupletlaw02_FxBetween_1_v2 ((((tls 0 vs).headD .nilSl).subs.headD .nilSl).subs.headD .nilSl).num
theorem at_coupletlaw02_FxBetween_1_v2 : FnAt Tryd.prog GG 26 as_coupletlaw02_FxBetween_1_v2 ga_coupletlaw02_FxBetween_1_v2 em_coupletlaw02_FxBetween_1_v2 := fun vs h r hr => by
  have e : Shp.buildL as_coupletlaw02_FxBetween_1_v2 vs = [(.fn 29 [(.ref 0 [(.int .i64 ((((tls 0 vs).headD .nilSl).subs.headD .nilSl).subs.headD .nilSl).num)])])] := by kernel_rfl
  rw [← Shp.buildL_eq _ h, e]
  exact ok_coupletlaw02_FxBetween_1_v2 _ r hr

def xr_coupletlaw02_FxBetween : XR := (.seq (.ops false [⟨⟨(some 2), (.box 3 (.tmp 0)), none⟩, none⟩, ⟨⟨(some 3), (.box 3 (.tmp 1)), none⟩, none⟩, ⟨⟨(some 4), (.mv (.c (.bool false))), none⟩, none⟩]) (.seq (.ops false [⟨⟨(some 5), (.mv (.func 26)), none⟩, none⟩]) (.seq (.ops false [⟨⟨(some 6), (.mv (.tmp 5)), none⟩, none⟩, ⟨⟨(some 7), (.mkFn 27 [(.tmp 2), (.tmp 3)]), none⟩, none⟩, ⟨⟨(some 8), (.call (.tmp 6) [(.tmp 7)]), none⟩, none⟩, ⟨⟨(some 9), (.mv (.tmp 8)), none⟩, none⟩, ⟨⟨(some 10), (.mv (.tmp 5)), (some (9, true))⟩, none⟩, ⟨⟨(some 11), (.mkFn 28 [(.tmp 2), (.tmp 3)]), (some (9, true))⟩, none⟩, ⟨⟨(some 12), (.call (.tmp 10) [(.tmp 11)]), (some (9, true))⟩, none⟩, ⟨⟨(some 13), (.pick (.tmp 9) (.tmp 12) (.c (.bool false))), none⟩, none⟩, ⟨⟨(some 14), (.mv (.tmp 13)), none⟩, none⟩, ⟨⟨(some 15), (.mv (.tmp 5)), (some (14, true))⟩, none⟩, ⟨⟨(some 16), (.mkFn 29 [(.tmp 2)]), (some (14, true))⟩, none⟩, ⟨⟨(some 17), (.call (.tmp 15) [(.tmp 16)]), (some (14, true))⟩, none⟩, ⟨⟨(some 18), (.pick (.tmp 14) (.tmp 17) (.c (.bool false))), none⟩, none⟩, ⟨⟨(some 19), (.mv (.tmp 18)), none⟩, none⟩, ⟨⟨(some 20), (.call (.func 12) []), (some (19, true))⟩, none⟩, ⟨⟨(some 21), (.pick (.tmp 19) (.tmp 20) (.c (.bool false))), none⟩, none⟩, ⟨⟨(some 4), (.mv (.tmp 21)), none⟩, none⟩]) .ret)))
def rs_coupletlaw02_FxBetween : List ResultVar := [(.tmp 4)]
theorem ir_coupletlaw02_FxBetween : compCode Tryd.prog (Tryd.f9.body.getD .skip) [] = some (xr_coupletlaw02_FxBetween.erase, []) := by kernel_rfl
/-! coupletlaw02_FxBetween -/
def gm_coupletlaw02_FxBetween : Gam := (Gam.fn 26 as_coupletlaw02_FxBetween_1 ga_coupletlaw02_FxBetween_1 em_coupletlaw02_FxBetween_1 (Gam.fn 26 as_coupletlaw02_FxBetween_1_v1 ga_coupletlaw02_FxBetween_1_v1 em_coupletlaw02_FxBetween_1_v1 (Gam.fn 26 as_coupletlaw02_FxBetween_1_v2 ga_coupletlaw02_FxBetween_1_v2 em_coupletlaw02_FxBetween_1_v2 (Gam.fn 12 as_coupletlaw02_awake ga_coupletlaw02_awake em_coupletlaw02_awake Gam.bot))))
theorem gk_coupletlaw02_FxBetween : GamOk Tryd.prog GG gm_coupletlaw02_FxBetween := (GamOk.fn at_coupletlaw02_FxBetween_1 (GamOk.fn at_coupletlaw02_FxBetween_1_v1 (GamOk.fn at_coupletlaw02_FxBetween_1_v2 (GamOk.fn at_coupletlaw02_awake GamOk.bot))))
def lm_coupletlaw02_FxBetween : Lam := fun _ j S kn ke => match j with
  | _ => .fail
/-- coupletlaw02_FxBetween -/
def go_coupletlaw02_FxBetween (n0 : Int) (n1 : Int) : Option Bool :=
  (go_coupletlaw02_FxBetween_1 n0 n1).bind fun r2 =>
  bif r2 then
   (go_coupletlaw02_FxBetween_1_v1 n0 n1).bind fun r3 =>
   bif r3 then
    (go_coupletlaw02_FxBetween_1_v2 n0).bind fun r4 =>
    bif r4 then
     (go_coupletlaw02_awake).bind fun r5 =>
     some r5
    else
     some false
   else
    some false
  else
   some false
def em_coupletlaw02_FxBetween (r : Bool) : PV := (.bool r)
def rh_coupletlaw02_FxBetween : Shp := .bool
def ra_coupletlaw02_FxBetween (v : PV) : Bool := v.tru
def kf_coupletlaw02_FxBetween (v : PV) : Tree Bool := .chk (rh_coupletlaw02_FxBetween.ok v) (.leaf (ra_coupletlaw02_FxBetween v))
theorem rn_coupletlaw02_FxBetween (n0 : Int) (n1 : Int) : (ev GG gm_coupletlaw02_FxBetween lm_coupletlaw02_FxBetween xr_coupletlaw02_FxBetween ⟨slots 22 0 [(0, .p (.int .i64 n0)), (1, .p (.int .i64 n1))], []⟩ (fun S => finT Tryd.prog rs_coupletlaw02_FxBetween S kf_coupletlaw02_FxBetween) (retT Tryd.prog rs_coupletlaw02_FxBetween kf_coupletlaw02_FxBetween)).run = go_coupletlaw02_FxBetween n0 n1 := by kernel_rfl
theorem ok_coupletlaw02_FxBetween (n0 : Int) (n1 : Int) (r : Bool) (h : go_coupletlaw02_FxBetween n0 n1 = some r) : FunEq Tryd.prog GG 9 [(.int .i64 n0), (.int .i64 n1)] (em_coupletlaw02_FxBetween r) :=
  fun_of_ev (x := xr_coupletlaw02_FxBetween) (Λ := lm_coupletlaw02_FxBetween) gk_coupletlaw02_FxBetween [] Tryd.func9 rfl (by kernel_rfl) ir_coupletlaw02_FxBetween (by kernel_rfl) (congrArg Array.toList Tryd.results9) Tryd.ntmps9 (⟨trivial, ⟨trivial, ⟨trivial, trivial⟩⟩⟩) (leaf_of fun v => (by kernel_rfl : rh_coupletlaw02_FxBetween.build v = em_coupletlaw02_FxBetween (ra_coupletlaw02_FxBetween v))) (by kernel_rfl) ((rn_coupletlaw02_FxBetween n0 n1).trans h)
def as_coupletlaw02_FxBetween : List Shp := [(.int .i64), (.int .i64)]
def ga_coupletlaw02_FxBetween (vs : List PV) : Option Bool := go_coupletlaw02_FxBetween ((tls 0 vs).headD .nilSl).num ((tls 1 vs).headD .nilSl).num
theorem at_coupletlaw02_FxBetween : FnAt Tryd.prog GG 9 as_coupletlaw02_FxBetween ga_coupletlaw02_FxBetween em_coupletlaw02_FxBetween := fun vs h r hr => by
  have e : Shp.buildL as_coupletlaw02_FxBetween vs = [(.int .i64 ((tls 0 vs).headD .nilSl).num), (.int .i64 ((tls 1 vs).headD .nilSl).num)] := by kernel_rfl
  rw [← Shp.buildL_eq _ h, e]
  exact ok_coupletlaw02_FxBetween _ _ r hr

def xr_coupletlaw02_FxBack : XR := (.seq (.ops false [⟨⟨(some 6), (.mv (.c (.bool false))), none⟩, none⟩]) (.seq (.seq (.ops false [⟨⟨(some 15), (.mv (.tmp 0)), none⟩, none⟩, ⟨⟨(some 16), (.call (.func 20) [(.tmp 15)]), none⟩, none⟩, ⟨⟨(some 17), (.un .not (.tmp 16)), none⟩, none⟩, ⟨⟨(some 18), (.mv (.tmp 17)), none⟩, none⟩, ⟨⟨(some 19), (.mv (.tmp 1)), (some (18, false))⟩, none⟩, ⟨⟨(some 20), (.call (.func 20) [(.tmp 19)]), (some (18, false))⟩, none⟩, ⟨⟨(some 21), (.un .not (.tmp 20)), (some (18, false))⟩, none⟩, ⟨⟨(some 22), (.pick (.tmp 18) (.c (.bool true)) (.tmp 21)), none⟩, none⟩, ⟨⟨(some 23), (.mv (.tmp 22)), none⟩, none⟩, ⟨⟨(some 24), (.mv (.tmp 2)), (some (23, false))⟩, none⟩, ⟨⟨(some 25), (.bin .lss (.tmp 24) (.c (.int .i64 (0)))), (some (23, false))⟩, none⟩, ⟨⟨(some 26), (.pick (.tmp 23) (.c (.bool true)) (.tmp 25)), none⟩, none⟩, ⟨⟨(some 27), (.mv (.tmp 26)), none⟩, none⟩, ⟨⟨(some 28), (.mv (.tmp 2)), (some (27, false))⟩, none⟩, ⟨⟨(some 29), (.bin .gtr (.tmp 28) (.c (.int .i64 (2)))), (some (27, false))⟩, none⟩, ⟨⟨(some 30), (.pick (.tmp 27) (.c (.bool true)) (.tmp 29)), none⟩, none⟩]) (.cond (.tmp 30) (.seq (.ops false [⟨⟨(some 31), (.call (.func 12) []), none⟩, none⟩, ⟨⟨(some 6), (.mv (.tmp 31)), none⟩, none⟩]) .ret) .skip)) (.seq (.ops false [⟨⟨(some 33), (.mv (.tmp 0)), none⟩, none⟩, ⟨⟨(some 34), (.mv (.tmp 2)), none⟩, none⟩, ⟨⟨(some 35), (.call (.func 15) [(.tmp 33), (.c (.int .i64 (16777216))), (.tmp 34)]), none⟩, none⟩, ⟨⟨(some 32), (.mv (.tmp 35)), none⟩, none⟩, ⟨⟨(some 36), (.ext (.tmp 32) 0), none⟩, none⟩, ⟨⟨(some 37), (.ext (.tmp 32) 1), none⟩, none⟩, ⟨⟨(some 7), (.mv (.tmp 36)), none⟩, none⟩, ⟨⟨(some 8), (.mv (.tmp 37)), none⟩, none⟩]) (.seq (.ops false [⟨⟨(some 39), (.mv (.tmp 0)), none⟩, none⟩, ⟨⟨(some 40), (.mv (.tmp 2)), none⟩, none⟩, ⟨⟨(some 41), (.call (.func 17) [(.tmp 39), (.c (.int .i64 (16777216))), (.tmp 40)]), none⟩, none⟩, ⟨⟨(some 38), (.mv (.tmp 41)), none⟩, none⟩, ⟨⟨(some 42), (.ext (.tmp 38) 0), none⟩, none⟩, ⟨⟨(some 43), (.ext (.tmp 38) 1), none⟩, none⟩, ⟨⟨(some 9), (.mv (.tmp 42)), none⟩, none⟩, ⟨⟨(some 10), (.mv (.tmp 43)), none⟩, none⟩]) (.seq (.ops false [⟨⟨(some 45), (.mv (.tmp 0)), none⟩, none⟩, ⟨⟨(some 46), (.mv (.tmp 1)), none⟩, none⟩, ⟨⟨(some 47), (.call (.func 21) [(.tmp 45), (.tmp 46)]), none⟩, none⟩, ⟨⟨(some 44), (.mv (.tmp 47)), none⟩, none⟩, ⟨⟨(some 48), (.ext (.tmp 44) 0), none⟩, none⟩, ⟨⟨(some 49), (.ext (.tmp 44) 1), none⟩, none⟩, ⟨⟨(some 11), (.mv (.tmp 48)), none⟩, none⟩, ⟨⟨(some 12), (.mv (.tmp 49)), none⟩, none⟩]) (.seq (.seq (.ops false [⟨⟨(some 50), (.mv (.tmp 8)), none⟩, none⟩, ⟨⟨(some 51), (.un .not (.tmp 50)), none⟩, none⟩, ⟨⟨(some 52), (.mv (.tmp 51)), none⟩, none⟩, ⟨⟨(some 53), (.mv (.tmp 10)), (some (52, false))⟩, none⟩, ⟨⟨(some 54), (.un .not (.tmp 53)), (some (52, false))⟩, none⟩, ⟨⟨(some 55), (.pick (.tmp 52) (.c (.bool true)) (.tmp 54)), none⟩, none⟩, ⟨⟨(some 56), (.mv (.tmp 55)), none⟩, none⟩, ⟨⟨(some 57), (.mv (.tmp 7)), (some (56, false))⟩, none⟩, ⟨⟨(some 58), (.mv (.tmp 0)), (some (56, false))⟩, none⟩, ⟨⟨(some 59), (.bin .neq (.tmp 57) (.tmp 58)), (some (56, false))⟩, none⟩, ⟨⟨(some 60), (.pick (.tmp 56) (.c (.bool true)) (.tmp 59)), none⟩, none⟩, ⟨⟨(some 61), (.mv (.tmp 60)), none⟩, none⟩, ⟨⟨(some 62), (.mv (.tmp 9)), (some (61, false))⟩, none⟩, ⟨⟨(some 63), (.mv (.tmp 0)), (some (61, false))⟩, none⟩, ⟨⟨(some 64), (.bin .neq (.tmp 62) (.tmp 63)), (some (61, false))⟩, none⟩, ⟨⟨(some 65), (.pick (.tmp 61) (.c (.bool true)) (.tmp 64)), none⟩, none⟩]) (.cond (.tmp 65) (.seq (.ops false [⟨⟨(some 6), (.mv (.c (.bool false))), none⟩, none⟩]) .ret) .skip)) (.seq (.seq (.ops false [⟨⟨(some 66), (.mv (.tmp 12)), none⟩, none⟩, ⟨⟨(some 67), (.un .not (.tmp 66)), none⟩, none⟩]) (.cond (.tmp 67) (.seq (.ops false [⟨⟨(some 68), (.call (.func 12) []), none⟩, none⟩, ⟨⟨(some 6), (.mv (.tmp 68)), none⟩, none⟩]) .ret) .skip)) (.seq (.ops false [⟨⟨(some 70), (.mv (.tmp 11)), none⟩, none⟩, ⟨⟨(some 71), (.mv (.tmp 1)), none⟩, none⟩, ⟨⟨(some 72), (.call (.func 22) [(.tmp 70), (.tmp 71)]), none⟩, none⟩, ⟨⟨(some 69), (.mv (.tmp 72)), none⟩, none⟩, ⟨⟨(some 73), (.ext (.tmp 69) 0), none⟩, none⟩, ⟨⟨(some 74), (.ext (.tmp 69) 1), none⟩, none⟩, ⟨⟨(some 13), (.mv (.tmp 73)), none⟩, none⟩, ⟨⟨(some 14), (.mv (.tmp 74)), none⟩, none⟩]) (.seq (.ops false [⟨⟨(some 75), (.mv (.tmp 13)), none⟩, none⟩, ⟨⟨(some 76), (.mv (.tmp 0)), none⟩, none⟩, ⟨⟨(some 77), (.bin .eql (.tmp 75) (.tmp 76)), none⟩, none⟩, ⟨⟨(some 78), (.mv (.tmp 77)), none⟩, none⟩, ⟨⟨(some 79), (.mv (.tmp 14)), (some (78, true))⟩, none⟩, ⟨⟨(some 80), (.pick (.tmp 78) (.tmp 79) (.c (.bool false))), none⟩, none⟩, ⟨⟨(some 81), (.mv (.tmp 80)), none⟩, none⟩, ⟨⟨(some 82), (.call (.func 12) []), (some (81, true))⟩, none⟩, ⟨⟨(some 83), (.pick (.tmp 81) (.tmp 82) (.c (.bool false))), none⟩, none⟩, ⟨⟨(some 6), (.mv (.tmp 83)), none⟩, none⟩]) .ret)))))))))
def rs_coupletlaw02_FxBack : List ResultVar := [(.tmp 6)]
theorem ir_coupletlaw02_FxBack : compCode Tryd.prog (Tryd.f7.body.getD .skip) [] = some (xr_coupletlaw02_FxBack.erase, []) := by kernel_rfl
/-! coupletlaw02_FxBack -/
def gm_coupletlaw02_FxBack : Gam := (Gam.fn 20 as_coupletref02_Right ga_coupletref02_Right em_coupletref02_Right (Gam.fn 12 as_coupletlaw02_awake ga_coupletlaw02_awake em_coupletlaw02_awake (Gam.fn 15 as_fx_Mul ga_fx_Mul em_fx_Mul (Gam.fn 17 as_fx_Div ga_fx_Div em_fx_Div (Gam.fn 21 as_fx_Add ga_fx_Add em_fx_Add (Gam.fn 22 as_fx_Sub ga_fx_Sub em_fx_Sub Gam.bot))))))
theorem gk_coupletlaw02_FxBack : GamOk Tryd.prog GG gm_coupletlaw02_FxBack := (GamOk.fn at_coupletref02_Right (GamOk.fn at_coupletlaw02_awake (GamOk.fn at_fx_Mul (GamOk.fn at_fx_Div (GamOk.fn at_fx_Add (GamOk.fn at_fx_Sub GamOk.bot))))))
def lm_coupletlaw02_FxBack : Lam := fun _ j S kn ke => match j with
  | _ => .fail
/-- coupletlaw02_FxBack -/
def go_coupletlaw02_FxBack (n0 : Int) (n1 : Int) (n2 : Int) : Option Bool :=
  (go_coupletref02_Right n0).bind fun r3 =>
  bif (!r3) then
   (go_coupletlaw02_awake).bind fun r4 =>
   some r4
  else
   (go_coupletref02_Right n1).bind fun r5 =>
   bif (!r5) then
    (go_coupletlaw02_awake).bind fun r6 =>
    some r6
   else
    bif (decide (n2 < 0)) then
     (go_coupletlaw02_awake).bind fun r7 =>
     some r7
    else
     bif (decide (n2 > 2)) then
      (go_coupletlaw02_awake).bind fun r8 =>
      some r8
     else
      (go_fx_Mul n0 16777216 n2).bind fun r9 =>
      (go_fx_Div n0 16777216 n2).bind fun r10 =>
      (go_fx_Add n0 n1).bind fun r11 =>
      bif (!r9.2) then
       some false
      else
       bif (!r10.2) then
        some false
       else
        bif (r9.1 != n0) then
         some false
        else
         bif (r10.1 != n0) then
          some false
         else
          bif (!r11.2) then
           (go_coupletlaw02_awake).bind fun r12 =>
           some r12
          else
           (go_fx_Sub r11.1 n1).bind fun r13 =>
           bif (r13.1 == n0) then
            bif r13.2 then
             (go_coupletlaw02_awake).bind fun r14 =>
             some r14
            else
             some false
           else
            some false
def em_coupletlaw02_FxBack (r : Bool) : PV := (.bool r)
def rh_coupletlaw02_FxBack : Shp := .bool
def ra_coupletlaw02_FxBack (v : PV) : Bool := v.tru
def kf_coupletlaw02_FxBack (v : PV) : Tree Bool := .chk (rh_coupletlaw02_FxBack.ok v) (.leaf (ra_coupletlaw02_FxBack v))
theorem rn_coupletlaw02_FxBack (n0 : Int) (n1 : Int) (n2 : Int) : (ev GG gm_coupletlaw02_FxBack lm_coupletlaw02_FxBack xr_coupletlaw02_FxBack ⟨slots 84 0 [(0, .p (.int .i64 n0)), (1, .p (.int .i64 n1)), (2, .p (.int .i64 n2))], []⟩ (fun S => finT Tryd.prog rs_coupletlaw02_FxBack S kf_coupletlaw02_FxBack) (retT Tryd.prog rs_coupletlaw02_FxBack kf_coupletlaw02_FxBack)).run = go_coupletlaw02_FxBack n0 n1 n2 := by kernel_rfl
theorem ok_coupletlaw02_FxBack (n0 : Int) (n1 : Int) (n2 : Int) (r : Bool) (h : go_coupletlaw02_FxBack n0 n1 n2 = some r) : FunEq Tryd.prog GG 7 [(.int .i64 n0), (.int .i64 n1), (.int .i64 n2)] (em_coupletlaw02_FxBack r) :=
  fun_of_ev (x := xr_coupletlaw02_FxBack) (Λ := lm_coupletlaw02_FxBack) gk_coupletlaw02_FxBack [] Tryd.func7 rfl (by kernel_rfl) ir_coupletlaw02_FxBack (by kernel_rfl) (congrArg Array.toList Tryd.results7) Tryd.ntmps7 (⟨trivial, ⟨⟨trivial, ⟨⟨trivial, trivial⟩, trivial⟩⟩, ⟨trivial, ⟨trivial, ⟨trivial, ⟨⟨trivial, ⟨⟨trivial, trivial⟩, trivial⟩⟩, ⟨⟨trivial, ⟨⟨trivial, trivial⟩, trivial⟩⟩, ⟨trivial, ⟨trivial, trivial⟩⟩⟩⟩⟩⟩⟩⟩⟩) (leaf_of fun v => (by kernel_rfl : rh_coupletlaw02_FxBack.build v = em_coupletlaw02_FxBack (ra_coupletlaw02_FxBack v))) (by kernel_rfl) ((rn_coupletlaw02_FxBack n0 n1 n2).trans h)
def as_coupletlaw02_FxBack : List Shp := [(.int .i64), (.int .i64), (.int .i64)]
def ga_coupletlaw02_FxBack (vs : List PV) : Option Bool := go_coupletlaw02_FxBack ((tls 0 vs).headD .nilSl).num ((tls 1 vs).headD .nilSl).num ((tls 2 vs).headD .nilSl).num
theorem at_coupletlaw02_FxBack : FnAt Tryd.prog GG 7 as_coupletlaw02_FxBack ga_coupletlaw02_FxBack em_coupletlaw02_FxBack := fun vs h r hr => by
  have e : Shp.buildL as_coupletlaw02_FxBack vs = [(.int .i64 ((tls 0 vs).headD .nilSl).num), (.int .i64 ((tls 1 vs).headD .nilSl).num), (.int .i64 ((tls 2 vs).headD .nilSl).num)] := by kernel_rfl
  rw [← Shp.buildL_eq _ h, e]
  exact ok_coupletlaw02_FxBack _ _ _ r hr

def xr_coupletlaw02_FxOrder_2 : XR := (.seq (.ops false [⟨⟨(some 3), (.mv (.c (.int .i64 (0)))), none⟩, none⟩, ⟨⟨(some 4), (.mv (.c (.bool false))), none⟩, none⟩]) (.seq (.ops false [⟨⟨(some 5), (.mv (.tmp 0)), none⟩, none⟩, ⟨⟨(some 6), (.ld false 1 (.tmp 1)), none⟩, (some (.int .i64))⟩, ⟨⟨(some 7), (.call (.func 21) [(.tmp 5), (.tmp 6)]), none⟩, none⟩, ⟨⟨(some 8), (.ext (.tmp 7) 0), none⟩, none⟩, ⟨⟨(some 9), (.ext (.tmp 7) 1), none⟩, none⟩, ⟨⟨(some 3), (.mv (.tmp 8)), none⟩, none⟩, ⟨⟨(some 4), (.mv (.tmp 9)), none⟩, none⟩]) .ret))
def rs_coupletlaw02_FxOrder_2 : List ResultVar := [(.tmp 3), (.tmp 4)]
theorem ir_coupletlaw02_FxOrder_2 : compCode Tryd.prog (Tryd.f31.body.getD .skip) [] = some (xr_coupletlaw02_FxOrder_2.erase, []) := by kernel_rfl
/-! coupletlaw02_FxOrder_2 -/
def gm_coupletlaw02_FxOrder_2 : Gam := (Gam.fn 21 as_fx_Add ga_fx_Add em_fx_Add Gam.bot)
theorem gk_coupletlaw02_FxOrder_2 : GamOk Tryd.prog GG gm_coupletlaw02_FxOrder_2 := (GamOk.fn at_fx_Add GamOk.bot)
def lm_coupletlaw02_FxOrder_2 : Lam := fun _ j S kn ke => match j with
  | _ => .fail
/-- coupletlaw02_FxOrder_2 -/
def go_coupletlaw02_FxOrder_2 (n0 : Int) (n1 : Int) : Option (Int × Bool) :=
  (go_fx_Add n0 n1).bind fun r2 =>
  some (r2.1, r2.2)
def em_coupletlaw02_FxOrder_2 (r : (Int × Bool)) : PV := (.tup [(.int .i64 r.1), (.bool r.2)])
def rh_coupletlaw02_FxOrder_2 : Shp := (.tup [(.int .i64), .bool])
def ra_coupletlaw02_FxOrder_2 (v : PV) : (Int × Bool) := ((v.subs.headD .nilSl).num, (v.subs.tail.headD .nilSl).tru)
def kf_coupletlaw02_FxOrder_2 (v : PV) : Tree (Int × Bool) := .chk (rh_coupletlaw02_FxOrder_2.ok v) (.leaf (ra_coupletlaw02_FxOrder_2 v))
theorem rn_coupletlaw02_FxOrder_2 (n0 : Int) (n1 : Int) : (ev GG gm_coupletlaw02_FxOrder_2 lm_coupletlaw02_FxOrder_2 xr_coupletlaw02_FxOrder_2 ⟨slots 10 0 [(0, .p (.int .i64 n0)), (1, .p (.ref 0 [(.int .i64 n1)]))], []⟩ (fun S => finT Tryd.prog rs_coupletlaw02_FxOrder_2 S kf_coupletlaw02_FxOrder_2) (retT Tryd.prog rs_coupletlaw02_FxOrder_2 kf_coupletlaw02_FxOrder_2)).run = go_coupletlaw02_FxOrder_2 n0 n1 := by kernel_rfl
theorem ok_coupletlaw02_FxOrder_2 (n0 : Int) (n1 : Int) (r : (Int × Bool)) (h : go_coupletlaw02_FxOrder_2 n0 n1 = some r) : FunEq Tryd.prog GG 31 [(.int .i64 n0), (.ref 0 [(.int .i64 n1)])] (em_coupletlaw02_FxOrder_2 r) :=
  fun_of_ev (x := xr_coupletlaw02_FxOrder_2) (Λ := lm_coupletlaw02_FxOrder_2) gk_coupletlaw02_FxOrder_2 [] Tryd.func31 rfl (by kernel_rfl) ir_coupletlaw02_FxOrder_2 (by kernel_rfl) (congrArg Array.toList Tryd.results31) Tryd.ntmps31 (⟨trivial, ⟨trivial, trivial⟩⟩) (leaf_of fun v => (by kernel_rfl : rh_coupletlaw02_FxOrder_2.build v = em_coupletlaw02_FxOrder_2 (ra_coupletlaw02_FxOrder_2 v))) (by kernel_rfl) ((rn_coupletlaw02_FxOrder_2 n0 n1).trans h)
def as_coupletlaw02_FxOrder_2 : List Shp := [(.int .i64), (.ref 0 [(.int .i64)])]
def ga_coupletlaw02_FxOrder_2 (vs : List PV) : Option (Int × Bool) := go_coupletlaw02_FxOrder_2 ((tls 0 vs).headD .nilSl).num (((tls 1 vs).headD .nilSl).subs.headD .nilSl).num
theorem at_coupletlaw02_FxOrder_2 : FnAt Tryd.prog GG 31 as_coupletlaw02_FxOrder_2 ga_coupletlaw02_FxOrder_2 em_coupletlaw02_FxOrder_2 := fun vs h r hr => by
  have e : Shp.buildL as_coupletlaw02_FxOrder_2 vs = [(.int .i64 ((tls 0 vs).headD .nilSl).num), (.ref 0 [(.int .i64 (((tls 1 vs).headD .nilSl).subs.headD .nilSl).num)])] := by kernel_rfl
  rw [← Shp.buildL_eq _ h, e]
  exact ok_coupletlaw02_FxOrder_2 _ _ r hr

def xr_coupletlaw02_FxOrder_1 : XR := (.seq (.ops false [⟨⟨(some 4), (.mv (.c (.bool false))), none⟩, none⟩]) (.seq (.ops false [⟨⟨(some 10), (.mv (.tmp 0)), none⟩, none⟩, ⟨⟨(some 11), (.ld false 1 (.tmp 1)), none⟩, (some (.int .i64))⟩, ⟨⟨(some 12), (.call (.tmp 10) [(.tmp 11)]), none⟩, none⟩, ⟨⟨(some 9), (.mv (.tmp 12)), none⟩, none⟩, ⟨⟨(some 13), (.ext (.tmp 9) 0), none⟩, none⟩, ⟨⟨(some 14), (.ext (.tmp 9) 1), none⟩, none⟩, ⟨⟨(some 5), (.mv (.tmp 13)), none⟩, none⟩, ⟨⟨(some 6), (.mv (.tmp 14)), none⟩, none⟩]) (.seq (.ops false [⟨⟨(some 16), (.mv (.tmp 0)), none⟩, none⟩, ⟨⟨(some 17), (.ld false 1 (.tmp 2)), none⟩, (some (.int .i64))⟩, ⟨⟨(some 18), (.call (.tmp 16) [(.tmp 17)]), none⟩, none⟩, ⟨⟨(some 15), (.mv (.tmp 18)), none⟩, none⟩, ⟨⟨(some 19), (.ext (.tmp 15) 0), none⟩, none⟩, ⟨⟨(some 20), (.ext (.tmp 15) 1), none⟩, none⟩, ⟨⟨(some 7), (.mv (.tmp 19)), none⟩, none⟩, ⟨⟨(some 8), (.mv (.tmp 20)), none⟩, none⟩]) (.seq (.ops false [⟨⟨(some 21), (.mv (.tmp 6)), none⟩, none⟩, ⟨⟨(some 22), (.un .not (.tmp 21)), none⟩, none⟩, ⟨⟨(some 23), (.mv (.tmp 22)), none⟩, none⟩, ⟨⟨(some 24), (.mv (.tmp 8)), (some (23, false))⟩, none⟩, ⟨⟨(some 25), (.un .not (.tmp 24)), (some (23, false))⟩, none⟩, ⟨⟨(some 26), (.pick (.tmp 23) (.c (.bool true)) (.tmp 25)), none⟩, none⟩, ⟨⟨(some 27), (.mv (.tmp 26)), none⟩, none⟩, ⟨⟨(some 28), (.mv (.tmp 5)), (some (27, false))⟩, none⟩, ⟨⟨(some 29), (.mv (.tmp 7)), (some (27, false))⟩, none⟩, ⟨⟨(some 30), (.bin .leq (.tmp 28) (.tmp 29)), (some (27, false))⟩, none⟩, ⟨⟨(some 31), (.pick (.tmp 27) (.c (.bool true)) (.tmp 30)), none⟩, none⟩, ⟨⟨(some 4), (.mv (.tmp 31)), none⟩, none⟩]) .ret))))
def rs_coupletlaw02_FxOrder_1 : List ResultVar := [(.tmp 4)]
theorem ir_coupletlaw02_FxOrder_1 : compCode Tryd.prog (Tryd.f30.body.getD .skip) [] = some (xr_coupletlaw02_FxOrder_1.erase, []) := by kernel_rfl
/-! coupletlaw02_FxOrder_1 -/
def gm_coupletlaw02_FxOrder_1 : Gam := (Gam.fn 31 as_coupletlaw02_FxOrder_2 ga_coupletlaw02_FxOrder_2 em_coupletlaw02_FxOrder_2 Gam.bot)
theorem gk_coupletlaw02_FxOrder_1 : GamOk Tryd.prog GG gm_coupletlaw02_FxOrder_1 := (GamOk.fn at_coupletlaw02_FxOrder_2 GamOk.bot)
def lm_coupletlaw02_FxOrder_1 : Lam := fun _ j S kn ke => match j with
  | _ => .fail
/-- coupletlaw02_FxOrder_1 -/
def go_coupletlaw02_FxOrder_1 (n0 : Int) (n1 : Int) (n2 : Int) : Option Bool :=
  (go_coupletlaw02_FxOrder_2 n1 n0).bind fun r3 =>
  (go_coupletlaw02_FxOrder_2 n2 n0).bind fun r4 =>
  bif (!r3.2) then
   some true
  else
   bif (!r4.2) then
    some true
   else
    some (decide (r3.1 ≤ r4.1))
def em_coupletlaw02_FxOrder_1 (r : Bool) : PV := (.bool r)
def rh_coupletlaw02_FxOrder_1 : Shp := .bool
def ra_coupletlaw02_FxOrder_1 (v : PV) : Bool := v.tru
def kf_coupletlaw02_FxOrder_1 (v : PV) : Tree Bool := .chk (rh_coupletlaw02_FxOrder_1.ok v) (.leaf (ra_coupletlaw02_FxOrder_1 v))
theorem rn_coupletlaw02_FxOrder_1 (n0 : Int) (n1 : Int) (n2 : Int) : (ev GG gm_coupletlaw02_FxOrder_1 lm_coupletlaw02_FxOrder_1 xr_coupletlaw02_FxOrder_1 ⟨slots 32 0 [(0, .p (.fn 31 [(.ref 0 [(.int .i64 n0)])])), (1, .p (.ref 0 [(.int .i64 n1)])), (2, .p (.ref 0 [(.int .i64 n2)]))], []⟩ (fun S => finT Tryd.prog rs_coupletlaw02_FxOrder_1 S kf_coupletlaw02_FxOrder_1) (retT Tryd.prog rs_coupletlaw02_FxOrder_1 kf_coupletlaw02_FxOrder_1)).run = go_coupletlaw02_FxOrder_1 n0 n1 n2 := by kernel_rfl
theorem ok_coupletlaw02_FxOrder_1 (n0 : Int) (n1 : Int) (n2 : Int) (r : Bool) (h : go_coupletlaw02_FxOrder_1 n0 n1 n2 = some r) : FunEq Tryd.prog GG 30 [(.fn 31 [(.ref 0 [(.int .i64 n0)])]), (.ref 0 [(.int .i64 n1)]), (.ref 0 [(.int .i64 n2)])] (em_coupletlaw02_FxOrder_1 r) :=
  fun_of_ev (x := xr_coupletlaw02_FxOrder_1) (Λ := lm_coupletlaw02_FxOrder_1) gk_coupletlaw02_FxOrder_1 [] Tryd.func30 rfl (by kernel_rfl) ir_coupletlaw02_FxOrder_1 (by kernel_rfl) (congrArg Array.toList Tryd.results30) Tryd.ntmps30 (⟨trivial, ⟨trivial, ⟨trivial, ⟨trivial, trivial⟩⟩⟩⟩) (leaf_of fun v => (by kernel_rfl : rh_coupletlaw02_FxOrder_1.build v = em_coupletlaw02_FxOrder_1 (ra_coupletlaw02_FxOrder_1 v))) (by kernel_rfl) ((rn_coupletlaw02_FxOrder_1 n0 n1 n2).trans h)
def as_coupletlaw02_FxOrder_1 : List Shp := [(.fn 31 [(.ref 0 [(.int .i64)])]), (.ref 0 [(.int .i64)]), (.ref 0 [(.int .i64)])]
def ga_coupletlaw02_FxOrder_1 (vs : List PV) : Option Bool := go_coupletlaw02_FxOrder_1 ((((tls 0 vs).headD .nilSl).subs.headD .nilSl).subs.headD .nilSl).num (((tls 1 vs).headD .nilSl).subs.headD .nilSl).num (((tls 2 vs).headD .nilSl).subs.headD .nilSl).num
theorem at_coupletlaw02_FxOrder_1 : FnAt Tryd.prog GG 30 as_coupletlaw02_FxOrder_1 ga_coupletlaw02_FxOrder_1 em_coupletlaw02_FxOrder_1 := fun vs h r hr => by
  have e : Shp.buildL as_coupletlaw02_FxOrder_1 vs = [(.fn 31 [(.ref 0 [(.int .i64 ((((tls 0 vs).headD .nilSl).subs.headD .nilSl).subs.headD .nilSl).num)])]), (.ref 0 [(.int .i64 (((tls 1 vs).headD .nilSl).subs.headD .nilSl).num)]), (.ref 0 [(.int .i64 (((tls 2 vs).headD .nilSl).subs.headD .nilSl).num)])] := by kernel_rfl
  rw [← Shp.buildL_eq _ h, e]
  exact ok_coupletlaw02_FxOrder_1 _ _ _ r hr

def xr_coupletlaw02_FxOrder_3 : XR := (.seq (.ops false [⟨⟨(some 4), (.mv (.c (.int .i64 (0)))), none⟩, none⟩, ⟨⟨(some 5), (.mv (.c (.bool false))), none⟩, none⟩]) (.seq (.ops false [⟨⟨(some 6), (.mv (.tmp 0)), none⟩, none⟩, ⟨⟨(some 7), (.ld false 1 (.tmp 1)), none⟩, (some (.int .i64))⟩, ⟨⟨(some 8), (.ld false 1 (.tmp 2)), none⟩, (some (.int .i64))⟩, ⟨⟨(some 9), (.call (.func 15) [(.tmp 6), (.tmp 7), (.tmp 8)]), none⟩, none⟩, ⟨⟨(some 10), (.ext (.tmp 9) 0), none⟩, none⟩, ⟨⟨(some 11), (.ext (.tmp 9) 1), none⟩, none⟩, ⟨⟨(some 4), (.mv (.tmp 10)), none⟩, none⟩, ⟨⟨(some 5), (.mv (.tmp 11)), none⟩, none⟩]) .ret))
def rs_coupletlaw02_FxOrder_3 : List ResultVar := [(.tmp 4), (.tmp 5)]
theorem ir_coupletlaw02_FxOrder_3 : compCode Tryd.prog (Tryd.f32.body.getD .skip) [] = some (xr_coupletlaw02_FxOrder_3.erase, []) := by kernel_rfl
/-! coupletlaw02_FxOrder_3 -/
def gm_coupletlaw02_FxOrder_3 : Gam := (Gam.fn 15 as_fx_Mul ga_fx_Mul em_fx_Mul Gam.bot)
theorem gk_coupletlaw02_FxOrder_3 : GamOk Tryd.prog GG gm_coupletlaw02_FxOrder_3 := (GamOk.fn at_fx_Mul GamOk.bot)
def lm_coupletlaw02_FxOrder_3 : Lam := fun _ j S kn ke => match j with
  | _ => .fail
/-- coupletlaw02_FxOrder_3 -/
def go_coupletlaw02_FxOrder_3 (n0 : Int) (n1 : Int) (n2 : Int) : Option (Int × Bool) :=
  (go_fx_Mul n0 n1 n2).bind fun r3 =>
  some (r3.1, r3.2)
def em_coupletlaw02_FxOrder_3 (r : (Int × Bool)) : PV := (.tup [(.int .i64 r.1), (.bool r.2)])
def rh_coupletlaw02_FxOrder_3 : Shp := (.tup [(.int .i64), .bool])
def ra_coupletlaw02_FxOrder_3 (v : PV) : (Int × Bool) := ((v.subs.headD .nilSl).num, (v.subs.tail.headD .nilSl).tru)
def kf_coupletlaw02_FxOrder_3 (v : PV) : Tree (Int × Bool) := .chk (rh_coupletlaw02_FxOrder_3.ok v) (.leaf (ra_coupletlaw02_FxOrder_3 v))
theorem rn_coupletlaw02_FxOrder_3 (n0 : Int) (n1 : Int) (n2 : Int) : (ev GG gm_coupletlaw02_FxOrder_3 lm_coupletlaw02_FxOrder_3 xr_coupletlaw02_FxOrder_3 ⟨slots 12 0 [(0, .p (.int .i64 n0)), (1, .p (.ref 0 [(.int .i64 n1)])), (2, .p (.ref 0 [(.int .i64 n2)]))], []⟩ (fun S => finT Tryd.prog rs_coupletlaw02_FxOrder_3 S kf_coupletlaw02_FxOrder_3) (retT Tryd.prog rs_coupletlaw02_FxOrder_3 kf_coupletlaw02_FxOrder_3)).run = go_coupletlaw02_FxOrder_3 n0 n1 n2 := by kernel_rfl
theorem ok_coupletlaw02_FxOrder_3 (n0 : Int) (n1 : Int) (n2 : Int) (r : (Int × Bool)) (h : go_coupletlaw02_FxOrder_3 n0 n1 n2 = some r) : FunEq Tryd.prog GG 32 [(.int .i64 n0), (.ref 0 [(.int .i64 n1)]), (.ref 0 [(.int .i64 n2)])] (em_coupletlaw02_FxOrder_3 r) :=
  fun_of_ev (x := xr_coupletlaw02_FxOrder_3) (Λ := lm_coupletlaw02_FxOrder_3) gk_coupletlaw02_FxOrder_3 [] Tryd.func32 rfl (by kernel_rfl) ir_coupletlaw02_FxOrder_3 (by kernel_rfl) (congrArg Array.toList Tryd.results32) Tryd.ntmps32 (⟨trivial, ⟨trivial, trivial⟩⟩) (leaf_of fun v => (by kernel_rfl : rh_coupletlaw02_FxOrder_3.build v = em_coupletlaw02_FxOrder_3 (ra_coupletlaw02_FxOrder_3 v))) (by kernel_rfl) ((rn_coupletlaw02_FxOrder_3 n0 n1 n2).trans h)
def as_coupletlaw02_FxOrder_3 : List Shp := [(.int .i64), (.ref 0 [(.int .i64)]), (.ref 0 [(.int .i64)])]
def ga_coupletlaw02_FxOrder_3 (vs : List PV) : Option (Int × Bool) := go_coupletlaw02_FxOrder_3 ((tls 0 vs).headD .nilSl).num (((tls 1 vs).headD .nilSl).subs.headD .nilSl).num (((tls 2 vs).headD .nilSl).subs.headD .nilSl).num
theorem at_coupletlaw02_FxOrder_3 : FnAt Tryd.prog GG 32 as_coupletlaw02_FxOrder_3 ga_coupletlaw02_FxOrder_3 em_coupletlaw02_FxOrder_3 := fun vs h r hr => by
  have e : Shp.buildL as_coupletlaw02_FxOrder_3 vs = [(.int .i64 ((tls 0 vs).headD .nilSl).num), (.ref 0 [(.int .i64 (((tls 1 vs).headD .nilSl).subs.headD .nilSl).num)]), (.ref 0 [(.int .i64 (((tls 2 vs).headD .nilSl).subs.headD .nilSl).num)])] := by kernel_rfl
  rw [← Shp.buildL_eq _ h, e]
  exact ok_coupletlaw02_FxOrder_3 _ _ _ r hr
/-! coupletlaw02_FxOrder_1 -/
def gm_coupletlaw02_FxOrder_1_v1 : Gam := (Gam.fn 32 as_coupletlaw02_FxOrder_3 ga_coupletlaw02_FxOrder_3 em_coupletlaw02_FxOrder_3 Gam.bot)
theorem gk_coupletlaw02_FxOrder_1_v1 : GamOk Tryd.prog GG gm_coupletlaw02_FxOrder_1_v1 := (GamOk.fn at_coupletlaw02_FxOrder_3 GamOk.bot)
def lm_coupletlaw02_FxOrder_1_v1 : Lam := fun _ j S kn ke => match j with
  | _ => .fail
/-- coupletlaw02_FxOrder_1 -/
def go_coupletlaw02_FxOrder_1_v1 (n0 : Int) (n1 : Int) (n2 : Int) (n3 : Int) : Option Bool :=
  (go_coupletlaw02_FxOrder_3 n2 n0 n1).bind fun r4 =>
  (go_coupletlaw02_FxOrder_3 n3 n0 n1).bind fun r5 =>
  bif (!r4.2) then
   some true
  else
   bif (!r5.2) then
    some true
   else
    some (decide (r4.1 ≤ r5.1))
def em_coupletlaw02_FxOrder_1_v1 (r : Bool) : PV := (.bool r)
def rh_coupletlaw02_FxOrder_1_v1 : Shp := .bool
def ra_coupletlaw02_FxOrder_1_v1 (v : PV) : Bool := v.tru
def kf_coupletlaw02_FxOrder_1_v1 (v : PV) : Tree Bool := .chk (rh_coupletlaw02_FxOrder_1_v1.ok v) (.leaf (ra_coupletlaw02_FxOrder_1_v1 v))
theorem rn_coupletlaw02_FxOrder_1_v1 (n0 : Int) (n1 : Int) (n2 : Int) (n3 : Int) : (ev GG gm_coupletlaw02_FxOrder_1_v1 lm_coupletlaw02_FxOrder_1_v1 xr_coupletlaw02_FxOrder_1 ⟨slots 32 0 [(0, .p (.fn 32 [(.ref 0 [(.int .i64 n0)]), (.ref 0 [(.int .i64 n1)])])), (1, .p (.ref 0 [(.int .i64 n2)])), (2, .p (.ref 0 [(.int .i64 n3)]))], []⟩ (fun S => finT Tryd.prog rs_coupletlaw02_FxOrder_1 S kf_coupletlaw02_FxOrder_1_v1) (retT Tryd.prog rs_coupletlaw02_FxOrder_1 kf_coupletlaw02_FxOrder_1_v1)).run = go_coupletlaw02_FxOrder_1_v1 n0 n1 n2 n3 := by kernel_rfl
theorem ok_coupletlaw02_FxOrder_1_v1 (n0 : Int) (n1 : Int) (n2 : Int) (n3 : Int) (r : Bool) (h : go_coupletlaw02_FxOrder_1_v1 n0 n1 n2 n3 = some r) : FunEq Tryd.prog GG 30 [(.fn 32 [(.ref 0 [(.int .i64 n0)]), (.ref 0 [(.int .i64 n1)])]), (.ref 0 [(.int .i64 n2)]), (.ref 0 [(.int .i64 n3)])] (em_coupletlaw02_FxOrder_1_v1 r) :=
  fun_of_ev (x := xr_coupletlaw02_FxOrder_1) (Λ := lm_coupletlaw02_FxOrder_1_v1) gk_coupletlaw02_FxOrder_1_v1 [] Tryd.func30 rfl (by kernel_rfl) ir_coupletlaw02_FxOrder_1 (by kernel_rfl) (congrArg Array.toList Tryd.results30) Tryd.ntmps30 (⟨trivial, ⟨trivial, ⟨trivial, ⟨trivial, trivial⟩⟩⟩⟩) (leaf_of fun v => (by kernel_rfl : rh_coupletlaw02_FxOrder_1_v1.build v = em_coupletlaw02_FxOrder_1_v1 (ra_coupletlaw02_FxOrder_1_v1 v))) (by kernel_rfl) ((rn_coupletlaw02_FxOrder_1_v1 n0 n1 n2 n3).trans h)
def as_coupletlaw02_FxOrder_1_v1 : List Shp := [(.fn 32 [(.ref 0 [(.int .i64)]), (.ref 0 [(.int .i64)])]), (.ref 0 [(.int .i64)]), (.ref 0 [(.int .i64)])]
def ga_coupletlaw02_FxOrder_1_v1 (vs : List PV) : Option Bool := go_coupletlaw02_FxOrder_1_v1 ((((tls 0 vs).headD .nilSl).subs.headD .nilSl).subs.headD .nilSl).num ((((tls 0 vs).headD .nilSl).subs.tail.headD .nilSl).subs.headD .nilSl).num (((tls 1 vs).headD .nilSl).subs.headD .nilSl).num (((tls 2 vs).headD .nilSl).subs.headD .nilSl).num
theorem at_coupletlaw02_FxOrder_1_v1 : FnAt Tryd.prog GG 30 as_coupletlaw02_FxOrder_1_v1 ga_coupletlaw02_FxOrder_1_v1 em_coupletlaw02_FxOrder_1_v1 := fun vs h r hr => by
  have e : Shp.buildL as_coupletlaw02_FxOrder_1_v1 vs = [(.fn 32 [(.ref 0 [(.int .i64 ((((tls 0 vs).headD .nilSl).subs.headD .nilSl).subs.headD .nilSl).num)]), (.ref 0 [(.int .i64 ((((tls 0 vs).headD .nilSl).subs.tail.headD .nilSl).subs.headD .nilSl).num)])]), (.ref 0 [(.int .i64 (((tls 1 vs).headD .nilSl).subs.headD .nilSl).num)]), (.ref 0 [(.int .i64 (((tls 2 vs).headD .nilSl).subs.headD .nilSl).num)])] := by kernel_rfl
  rw [← Shp.buildL_eq _ h, e]
  exact ok_coupletlaw02_FxOrder_1_v1 _ _ _ _ r hr

def xr_coupletlaw02_FxOrder_4 : XR := (.seq (.ops false [⟨⟨(some 3), (.mv (.c (.int .i64 (0)))), none⟩, none⟩, ⟨⟨(some 4), (.mv (.c (.bool false))), none⟩, none⟩]) (.seq (.ops false [⟨⟨(some 5), (.mv (.tmp 0)), none⟩, none⟩, ⟨⟨(some 6), (.ld false 1 (.tmp 1)), none⟩, (some (.int .i64))⟩, ⟨⟨(some 7), (.call (.func 24) [(.tmp 5), (.tmp 6)]), none⟩, none⟩, ⟨⟨(some 8), (.ext (.tmp 7) 0), none⟩, none⟩, ⟨⟨(some 9), (.ext (.tmp 7) 1), none⟩, none⟩, ⟨⟨(some 3), (.mv (.tmp 8)), none⟩, none⟩, ⟨⟨(some 4), (.mv (.tmp 9)), none⟩, none⟩]) .ret))
def rs_coupletlaw02_FxOrder_4 : List ResultVar := [(.tmp 3), (.tmp 4)]
theorem ir_coupletlaw02_FxOrder_4 : compCode Tryd.prog (Tryd.f33.body.getD .skip) [] = some (xr_coupletlaw02_FxOrder_4.erase, []) := by kernel_rfl
/-! coupletlaw02_FxOrder_4 -/
def gm_coupletlaw02_FxOrder_4 : Gam := (Gam.fn 24 as_fx_Root ga_fx_Root em_fx_Root Gam.bot)
theorem gk_coupletlaw02_FxOrder_4 : GamOk Tryd.prog GG gm_coupletlaw02_FxOrder_4 := (GamOk.fn at_fx_Root GamOk.bot)
def lm_coupletlaw02_FxOrder_4 : Lam := fun _ j S kn ke => match j with
  | _ => .fail
/-- coupletlaw02_FxOrder_4 -/
def go_coupletlaw02_FxOrder_4 (n0 : Int) (n1 : Int) : Option (Int × Bool) :=
  (go_fx_Root n0 n1).bind fun r2 =>
  some (r2.1, r2.2)
def em_coupletlaw02_FxOrder_4 (r : (Int × Bool)) : PV := (.tup [(.int .i64 r.1), (.bool r.2)])
def rh_coupletlaw02_FxOrder_4 : Shp := (.tup [(.int .i64), .bool])
def ra_coupletlaw02_FxOrder_4 (v : PV) : (Int × Bool) := ((v.subs.headD .nilSl).num, (v.subs.tail.headD .nilSl).tru)
def kf_coupletlaw02_FxOrder_4 (v : PV) : Tree (Int × Bool) := .chk (rh_coupletlaw02_FxOrder_4.ok v) (.leaf (ra_coupletlaw02_FxOrder_4 v))
theorem rn_coupletlaw02_FxOrder_4 (n0 : Int) (n1 : Int) : (ev GG gm_coupletlaw02_FxOrder_4 lm_coupletlaw02_FxOrder_4 xr_coupletlaw02_FxOrder_4 ⟨slots 10 0 [(0, .p (.int .i64 n0)), (1, .p (.ref 0 [(.int .i64 n1)]))], []⟩ (fun S => finT Tryd.prog rs_coupletlaw02_FxOrder_4 S kf_coupletlaw02_FxOrder_4) (retT Tryd.prog rs_coupletlaw02_FxOrder_4 kf_coupletlaw02_FxOrder_4)).run = go_coupletlaw02_FxOrder_4 n0 n1 := by kernel_rfl
theorem ok_coupletlaw02_FxOrder_4 (n0 : Int) (n1 : Int) (r : (Int × Bool)) (h : go_coupletlaw02_FxOrder_4 n0 n1 = some r) : FunEq Tryd.prog GG 33 [(.int .i64 n0), (.ref 0 [(.int .i64 n1)])] (em_coupletlaw02_FxOrder_4 r) :=
  fun_of_ev (x := xr_coupletlaw02_FxOrder_4) (Λ := lm_coupletlaw02_FxOrder_4) gk_coupletlaw02_FxOrder_4 [] Tryd.func33 rfl (by kernel_rfl) ir_coupletlaw02_FxOrder_4 (by kernel_rfl) (congrArg Array.toList Tryd.results33) Tryd.ntmps33 (⟨trivial, ⟨trivial, trivial⟩⟩) (leaf_of fun v => (by kernel_rfl : rh_coupletlaw02_FxOrder_4.build v = em_coupletlaw02_FxOrder_4 (ra_coupletlaw02_FxOrder_4 v))) (by kernel_rfl) ((rn_coupletlaw02_FxOrder_4 n0 n1).trans h)
def as_coupletlaw02_FxOrder_4 : List Shp := [(.int .i64), (.ref 0 [(.int .i64)])]
def ga_coupletlaw02_FxOrder_4 (vs : List PV) : Option (Int × Bool) := go_coupletlaw02_FxOrder_4 ((tls 0 vs).headD .nilSl).num (((tls 1 vs).headD .nilSl).subs.headD .nilSl).num
theorem at_coupletlaw02_FxOrder_4 : FnAt Tryd.prog GG 33 as_coupletlaw02_FxOrder_4 ga_coupletlaw02_FxOrder_4 em_coupletlaw02_FxOrder_4 := fun vs h r hr => by
  have e : Shp.buildL as_coupletlaw02_FxOrder_4 vs = [(.int .i64 ((tls 0 vs).headD .nilSl).num), (.ref 0 [(.int .i64 (((tls 1 vs).headD .nilSl).subs.headD .nilSl).num)])] := by kernel_rfl
  rw [← Shp.buildL_eq _ h, e]
  exact ok_coupletlaw02_FxOrder_4 _ _ r hr
/-! coupletlaw02_FxOrder_1 -/
def gm_coupletlaw02_FxOrder_1_v2 : Gam := (Gam.fn 33 as_coupletlaw02_FxOrder_4 ga_coupletlaw02_FxOrder_4 em_coupletlaw02_FxOrder_4 Gam.bot)
theorem gk_coupletlaw02_FxOrder_1_v2 : GamOk Tryd.prog GG gm_coupletlaw02_FxOrder_1_v2 := (GamOk.fn at_coupletlaw02_FxOrder_4 GamOk.bot)
def lm_coupletlaw02_FxOrder_1_v2 : Lam := fun _ j S kn ke => match j with
  | _ => .fail
/-- coupletlaw02_FxOrder_1 -/
def go_coupletlaw02_FxOrder_1_v2 (n0 : Int) (n1 : Int) (n2 : Int) : Option Bool :=
  (go_coupletlaw02_FxOrder_4 n1 n0).bind fun r3 =>
  (go_coupletlaw02_FxOrder_4 n2 n0).bind fun r4 =>
  bif (!r3.2) then
   some true
  else
   bif (!r4.2) then
    some true
   else
    some (decide (r3.1 ≤ r4.1))
def em_coupletlaw02_FxOrder_1_v2 (r : Bool) : PV := (.bool r)
def rh_coupletlaw02_FxOrder_1_v2 : Shp := .bool
def ra_coupletlaw02_FxOrder_1_v2 (v : PV) : Bool := v.tru
def kf_coupletlaw02_FxOrder_1_v2 (v : PV) : Tree Bool := .chk (rh_coupletlaw02_FxOrder_1_v2.ok v) (.leaf (ra_coupletlaw02_FxOrder_1_v2 v))
theorem rn_coupletlaw02_FxOrder_1_v2 (n0 : Int) (n1 : Int) (n2 : Int) : (ev GG gm_coupletlaw02_FxOrder_1_v2 lm_coupletlaw02_FxOrder_1_v2 xr_coupletlaw02_FxOrder_1 ⟨slots 32 0 [(0, .p (.fn 33 [(.ref 0 [(.int .i64 n0)])])), (1, .p (.ref 0 [(.int .i64 n1)])), (2, .p (.ref 0 [(.int .i64 n2)]))], []⟩ (fun S => finT Tryd.prog rs_coupletlaw02_FxOrder_1 S kf_coupletlaw02_FxOrder_1_v2) (retT Tryd.prog rs_coupletlaw02_FxOrder_1 kf_coupletlaw02_FxOrder_1_v2)).run = go_coupletlaw02_FxOrder_1_v2 n0 n1 n2 := by kernel_rfl
theorem ok_coupletlaw02_FxOrder_1_v2 (n0 : Int) (n1 : Int) (n2 : Int) (r : Bool) (h : go_coupletlaw02_FxOrder_1_v2 n0 n1 n2 = some r) : FunEq Tryd.prog GG 30 [(.fn 33 [(.ref 0 [(.int .i64 n0)])]), (.ref 0 [(.int .i64 n1)]), (.ref 0 [(.int .i64 n2)])] (em_coupletlaw02_FxOrder_1_v2 r) :=
  fun_of_ev (x := xr_coupletlaw02_FxOrder_1) (Λ := lm_coupletlaw02_FxOrder_1_v2) gk_coupletlaw02_FxOrder_1_v2 [] Tryd.func30 rfl (by kernel_rfl) ir_coupletlaw02_FxOrder_1 (by kernel_rfl) (congrArg Array.toList Tryd.results30) Tryd.ntmps30 (⟨trivial, ⟨trivial, ⟨trivial, ⟨trivial, trivial⟩⟩⟩⟩) (leaf_of fun v => (by kernel_rfl : rh_coupletlaw02_FxOrder_1_v2.build v = em_coupletlaw02_FxOrder_1_v2 (ra_coupletlaw02_FxOrder_1_v2 v))) (by kernel_rfl) ((rn_coupletlaw02_FxOrder_1_v2 n0 n1 n2).trans h)
def as_coupletlaw02_FxOrder_1_v2 : List Shp := [(.fn 33 [(.ref 0 [(.int .i64)])]), (.ref 0 [(.int .i64)]), (.ref 0 [(.int .i64)])]
def ga_coupletlaw02_FxOrder_1_v2 (vs : List PV) : Option Bool := go_coupletlaw02_FxOrder_1_v2 ((((tls 0 vs).headD .nilSl).subs.headD .nilSl).subs.headD .nilSl).num (((tls 1 vs).headD .nilSl).subs.headD .nilSl).num (((tls 2 vs).headD .nilSl).subs.headD .nilSl).num
theorem at_coupletlaw02_FxOrder_1_v2 : FnAt Tryd.prog GG 30 as_coupletlaw02_FxOrder_1_v2 ga_coupletlaw02_FxOrder_1_v2 em_coupletlaw02_FxOrder_1_v2 := fun vs h r hr => by
  have e : Shp.buildL as_coupletlaw02_FxOrder_1_v2 vs = [(.fn 33 [(.ref 0 [(.int .i64 ((((tls 0 vs).headD .nilSl).subs.headD .nilSl).subs.headD .nilSl).num)])]), (.ref 0 [(.int .i64 (((tls 1 vs).headD .nilSl).subs.headD .nilSl).num)]), (.ref 0 [(.int .i64 (((tls 2 vs).headD .nilSl).subs.headD .nilSl).num)])] := by kernel_rfl
  rw [← Shp.buildL_eq _ h, e]
  exact ok_coupletlaw02_FxOrder_1_v2 _ _ _ r hr

def xr_coupletlaw02_FxOrder_5 : XR := (.seq (.ops false [⟨⟨(some 4), (.mv (.c (.int .i64 (0)))), none⟩, none⟩, ⟨⟨(some 5), (.mv (.c (.bool false))), none⟩, none⟩]) (.seq (.ops false [⟨⟨(some 6), (.mv (.tmp 0)), none⟩, none⟩, ⟨⟨(some 7), (.ld false 1 (.tmp 1)), none⟩, (some (.int .i64))⟩, ⟨⟨(some 8), (.ld false 1 (.tmp 2)), none⟩, (some (.int .i64))⟩, ⟨⟨(some 9), (.call (.func 17) [(.tmp 6), (.tmp 7), (.tmp 8)]), none⟩, none⟩, ⟨⟨(some 10), (.ext (.tmp 9) 0), none⟩, none⟩, ⟨⟨(some 11), (.ext (.tmp 9) 1), none⟩, none⟩, ⟨⟨(some 4), (.mv (.tmp 10)), none⟩, none⟩, ⟨⟨(some 5), (.mv (.tmp 11)), none⟩, none⟩]) .ret))
def rs_coupletlaw02_FxOrder_5 : List ResultVar := [(.tmp 4), (.tmp 5)]
theorem ir_coupletlaw02_FxOrder_5 : compCode Tryd.prog (Tryd.f34.body.getD .skip) [] = some (xr_coupletlaw02_FxOrder_5.erase, []) := by kernel_rfl
/-! coupletlaw02_FxOrder_5 -/
def gm_coupletlaw02_FxOrder_5 : Gam := (Gam.fn 17 as_fx_Div ga_fx_Div em_fx_Div Gam.bot)
theorem gk_coupletlaw02_FxOrder_5 : GamOk Tryd.prog GG gm_coupletlaw02_FxOrder_5 := (GamOk.fn at_fx_Div GamOk.bot)
def lm_coupletlaw02_FxOrder_5 : Lam := fun _ j S kn ke => match j with
  | _ => .fail
/-- coupletlaw02_FxOrder_5 -/
def go_coupletlaw02_FxOrder_5 (n0 : Int) (n1 : Int) (n2 : Int) : Option (Int × Bool) :=
  (go_fx_Div n0 n1 n2).bind fun r3 =>
  some (r3.1, r3.2)
def em_coupletlaw02_FxOrder_5 (r : (Int × Bool)) : PV := (.tup [(.int .i64 r.1), (.bool r.2)])
def rh_coupletlaw02_FxOrder_5 : Shp := (.tup [(.int .i64), .bool])
def ra_coupletlaw02_FxOrder_5 (v : PV) : (Int × Bool) := ((v.subs.headD .nilSl).num, (v.subs.tail.headD .nilSl).tru)
def kf_coupletlaw02_FxOrder_5 (v : PV) : Tree (Int × Bool) := .chk (rh_coupletlaw02_FxOrder_5.ok v) (.leaf (ra_coupletlaw02_FxOrder_5 v))
theorem rn_coupletlaw02_FxOrder_5 (n0 : Int) (n1 : Int) (n2 : Int) : (ev GG gm_coupletlaw02_FxOrder_5 lm_coupletlaw02_FxOrder_5 xr_coupletlaw02_FxOrder_5 ⟨slots 12 0 [(0, .p (.int .i64 n0)), (1, .p (.ref 0 [(.int .i64 n1)])), (2, .p (.ref 0 [(.int .i64 n2)]))], []⟩ (fun S => finT Tryd.prog rs_coupletlaw02_FxOrder_5 S kf_coupletlaw02_FxOrder_5) (retT Tryd.prog rs_coupletlaw02_FxOrder_5 kf_coupletlaw02_FxOrder_5)).run = go_coupletlaw02_FxOrder_5 n0 n1 n2 := by kernel_rfl
theorem ok_coupletlaw02_FxOrder_5 (n0 : Int) (n1 : Int) (n2 : Int) (r : (Int × Bool)) (h : go_coupletlaw02_FxOrder_5 n0 n1 n2 = some r) : FunEq Tryd.prog GG 34 [(.int .i64 n0), (.ref 0 [(.int .i64 n1)]), (.ref 0 [(.int .i64 n2)])] (em_coupletlaw02_FxOrder_5 r) :=
  fun_of_ev (x := xr_coupletlaw02_FxOrder_5) (Λ := lm_coupletlaw02_FxOrder_5) gk_coupletlaw02_FxOrder_5 [] Tryd.func34 rfl (by kernel_rfl) ir_coupletlaw02_FxOrder_5 (by kernel_rfl) (congrArg Array.toList Tryd.results34) Tryd.ntmps34 (⟨trivial, ⟨trivial, trivial⟩⟩) (leaf_of fun v => (by kernel_rfl : rh_coupletlaw02_FxOrder_5.build v = em_coupletlaw02_FxOrder_5 (ra_coupletlaw02_FxOrder_5 v))) (by kernel_rfl) ((rn_coupletlaw02_FxOrder_5 n0 n1 n2).trans h)
def as_coupletlaw02_FxOrder_5 : List Shp := [(.int .i64), (.ref 0 [(.int .i64)]), (.ref 0 [(.int .i64)])]
def ga_coupletlaw02_FxOrder_5 (vs : List PV) : Option (Int × Bool) := go_coupletlaw02_FxOrder_5 ((tls 0 vs).headD .nilSl).num (((tls 1 vs).headD .nilSl).subs.headD .nilSl).num (((tls 2 vs).headD .nilSl).subs.headD .nilSl).num
theorem at_coupletlaw02_FxOrder_5 : FnAt Tryd.prog GG 34 as_coupletlaw02_FxOrder_5 ga_coupletlaw02_FxOrder_5 em_coupletlaw02_FxOrder_5 := fun vs h r hr => by
  have e : Shp.buildL as_coupletlaw02_FxOrder_5 vs = [(.int .i64 ((tls 0 vs).headD .nilSl).num), (.ref 0 [(.int .i64 (((tls 1 vs).headD .nilSl).subs.headD .nilSl).num)]), (.ref 0 [(.int .i64 (((tls 2 vs).headD .nilSl).subs.headD .nilSl).num)])] := by kernel_rfl
  rw [← Shp.buildL_eq _ h, e]
  exact ok_coupletlaw02_FxOrder_5 _ _ _ r hr
/-! coupletlaw02_FxOrder_1 -/
def gm_coupletlaw02_FxOrder_1_v3 : Gam := (Gam.fn 34 as_coupletlaw02_FxOrder_5 ga_coupletlaw02_FxOrder_5 em_coupletlaw02_FxOrder_5 Gam.bot)
theorem gk_coupletlaw02_FxOrder_1_v3 : GamOk Tryd.prog GG gm_coupletlaw02_FxOrder_1_v3 := (GamOk.fn at_coupletlaw02_FxOrder_5 GamOk.bot)
def lm_coupletlaw02_FxOrder_1_v3 : Lam := fun _ j S kn ke => match j with
  | _ => .fail
/-- coupletlaw02_FxOrder_1 -/
def go_coupletlaw02_FxOrder_1_v3 (n0 : Int) (n1 : Int) (n2 : Int) (n3 : Int) : Option Bool :=
  (go_coupletlaw02_FxOrder_5 n2 n0 n1).bind fun r4 =>
  (go_coupletlaw02_FxOrder_5 n3 n0 n1).bind fun r5 =>
  bif (!r4.2) then
   some true
  else
   bif (!r5.2) then
    some true
   else
    some (decide (r4.1 ≤ r5.1))
def em_coupletlaw02_FxOrder_1_v3 (r : Bool) : PV := (.bool r)
def rh_coupletlaw02_FxOrder_1_v3 : Shp := .bool
def ra_coupletlaw02_FxOrder_1_v3 (v : PV) : Bool := v.tru
def kf_coupletlaw02_FxOrder_1_v3 (v : PV) : Tree Bool := .chk (rh_coupletlaw02_FxOrder_1_v3.ok v) (.leaf (ra_coupletlaw02_FxOrder_1_v3 v))
theorem rn_coupletlaw02_FxOrder_1_v3 (n0 : Int) (n1 : Int) (n2 : Int) (n3 : Int) : (ev GG gm_coupletlaw02_FxOrder_1_v3 lm_coupletlaw02_FxOrder_1_v3 xr_coupletlaw02_FxOrder_1 ⟨slots 32 0 [(0, .p (.fn 34 [(.ref 0 [(.int .i64 n0)]), (.ref 0 [(.int .i64 n1)])])), (1, .p (.ref 0 [(.int .i64 n2)])), (2, .p (.ref 0 [(.int .i64 n3)]))], []⟩ (fun S => finT Tryd.prog rs_coupletlaw02_FxOrder_1 S kf_coupletlaw02_FxOrder_1_v3) (retT Tryd.prog rs_coupletlaw02_FxOrder_1 kf_coupletlaw02_FxOrder_1_v3)).run = go_coupletlaw02_FxOrder_1_v3 n0 n1 n2 n3 := by kernel_rfl
theorem ok_coupletlaw02_FxOrder_1_v3 (n0 : Int) (n1 : Int) (n2 : Int) (n3 : Int) (r : Bool) (h : go_coupletlaw02_FxOrder_1_v3 n0 n1 n2 n3 = some r) : FunEq Tryd.prog GG 30 [(.fn 34 [(.ref 0 [(.int .i64 n0)]), (.ref 0 [(.int .i64 n1)])]), (.ref 0 [(.int .i64 n2)]), (.ref 0 [(.int .i64 n3)])] (em_coupletlaw02_FxOrder_1_v3 r) :=
  fun_of_ev (x := xr_coupletlaw02_FxOrder_1) (Λ := lm_coupletlaw02_FxOrder_1_v3) gk_coupletlaw02_FxOrder_1_v3 [] Tryd.func30 rfl (by kernel_rfl) ir_coupletlaw02_FxOrder_1 (by kernel_rfl) (congrArg Array.toList Tryd.results30) Tryd.ntmps30 (⟨trivial, ⟨trivial, ⟨trivial, ⟨trivial, trivial⟩⟩⟩⟩) (leaf_of fun v => (by kernel_rfl : rh_coupletlaw02_FxOrder_1_v3.build v = em_coupletlaw02_FxOrder_1_v3 (ra_coupletlaw02_FxOrder_1_v3 v))) (by kernel_rfl) ((rn_coupletlaw02_FxOrder_1_v3 n0 n1 n2 n3).trans h)
def as_coupletlaw02_FxOrder_1_v3 : List Shp := [(.fn 34 [(.ref 0 [(.int .i64)]), (.ref 0 [(.int .i64)])]), (.ref 0 [(.int .i64)]), (.ref 0 [(.int .i64)])]
def ga_coupletlaw02_FxOrder_1_v3 (vs : List PV) : Option Bool := go_coupletlaw02_FxOrder_1_v3 ((((tls 0 vs).headD .nilSl).subs.headD .nilSl).subs.headD .nilSl).num ((((tls 0 vs).headD .nilSl).subs.tail.headD .nilSl).subs.headD .nilSl).num (((tls 1 vs).headD .nilSl).subs.headD .nilSl).num (((tls 2 vs).headD .nilSl).subs.headD .nilSl).num
theorem at_coupletlaw02_FxOrder_1_v3 : FnAt Tryd.prog GG 30 as_coupletlaw02_FxOrder_1_v3 ga_coupletlaw02_FxOrder_1_v3 em_coupletlaw02_FxOrder_1_v3 := fun vs h r hr => by
  have e : Shp.buildL as_coupletlaw02_FxOrder_1_v3 vs = [(.fn 34 [(.ref 0 [(.int .i64 ((((tls 0 vs).headD .nilSl).subs.headD .nilSl).subs.headD .nilSl).num)]), (.ref 0 [(.int .i64 ((((tls 0 vs).headD .nilSl).subs.tail.headD .nilSl).subs.headD .nilSl).num)])]), (.ref 0 [(.int .i64 (((tls 1 vs).headD .nilSl).subs.headD .nilSl).num)]), (.ref 0 [(.int .i64 (((tls 2 vs).headD .nilSl).subs.headD .nilSl).num)])] := by kernel_rfl
  rw [← Shp.buildL_eq _ h, e]
  exact ok_coupletlaw02_FxOrder_1_v3 _ _ _ _ r hr

def xr_coupletlaw02_FxOrder : XR := (.seq (.ops false [⟨⟨(some 4), (.box 3 (.tmp 0)), none⟩, none⟩, ⟨⟨(some 5), (.box 3 (.tmp 1)), none⟩, none⟩, ⟨⟨(some 6), (.box 3 (.tmp 2)), none⟩, none⟩, ⟨⟨(some 7), (.box 3 (.tmp 3)), none⟩, none⟩, ⟨⟨(some 8), (.mv (.c (.bool false))), none⟩, none⟩]) (.seq (.seq (.ops false [⟨⟨(some 10), (.ld false 1 (.tmp 4)), none⟩, (some (.int .i64))⟩, ⟨⟨(some 11), (.ld false 1 (.tmp 5)), none⟩, (some (.int .i64))⟩, ⟨⟨(some 12), (.bin .gtr (.tmp 10) (.tmp 11)), none⟩, none⟩, ⟨⟨(some 13), (.mv (.tmp 12)), none⟩, none⟩, ⟨⟨(some 14), (.ld false 1 (.tmp 6)), (some (13, false))⟩, (some (.int .i64))⟩, ⟨⟨(some 15), (.bin .lss (.tmp 14) (.c (.int .i64 (0)))), (some (13, false))⟩, none⟩, ⟨⟨(some 16), (.pick (.tmp 13) (.c (.bool true)) (.tmp 15)), none⟩, none⟩]) (.cond (.tmp 16) (.seq (.ops false [⟨⟨(some 17), (.call (.func 12) []), none⟩, none⟩, ⟨⟨(some 8), (.mv (.tmp 17)), none⟩, none⟩]) .ret) .skip)) (.seq (.ops false [⟨⟨(some 18), (.mkFn 30 [(.tmp 4), (.tmp 5)]), none⟩, none⟩, ⟨⟨(some 9), (.mv (.tmp 18)), none⟩, none⟩]) (.seq (.ops false [⟨⟨(some 19), (.mv (.tmp 9)), none⟩, none⟩, ⟨⟨(some 20), (.mkFn 31 [(.tmp 6)]), none⟩, none⟩, ⟨⟨(some 21), (.call (.tmp 19) [(.tmp 20)]), none⟩, none⟩, ⟨⟨(some 22), (.mv (.tmp 21)), none⟩, none⟩, ⟨⟨(some 23), (.mv (.tmp 9)), (some (22, true))⟩, none⟩, ⟨⟨(some 24), (.mkFn 32 [(.tmp 6), (.tmp 7)]), (some (22, true))⟩, none⟩, ⟨⟨(some 25), (.call (.tmp 23) [(.tmp 24)]), (some (22, true))⟩, none⟩, ⟨⟨(some 26), (.pick (.tmp 22) (.tmp 25) (.c (.bool false))), none⟩, none⟩, ⟨⟨(some 27), (.mv (.tmp 26)), none⟩, none⟩, ⟨⟨(some 28), (.mv (.tmp 9)), (some (27, true))⟩, none⟩, ⟨⟨(some 29), (.mkFn 33 [(.tmp 7)]), (some (27, true))⟩, none⟩, ⟨⟨(some 30), (.call (.tmp 28) [(.tmp 29)]), (some (27, true))⟩, none⟩, ⟨⟨(some 31), (.pick (.tmp 27) (.tmp 30) (.c (.bool false))), none⟩, none⟩, ⟨⟨(some 32), (.mv (.tmp 31)), none⟩, none⟩, ⟨⟨(some 33), (.mv (.tmp 9)), (some (32, true))⟩, none⟩, ⟨⟨(some 34), (.mkFn 34 [(.tmp 6), (.tmp 7)]), (some (32, true))⟩, none⟩, ⟨⟨(some 35), (.call (.tmp 33) [(.tmp 34)]), (some (32, true))⟩, none⟩, ⟨⟨(some 36), (.pick (.tmp 32) (.tmp 35) (.c (.bool false))), none⟩, none⟩, ⟨⟨(some 37), (.mv (.tmp 36)), none⟩, none⟩, ⟨⟨(some 38), (.call (.func 12) []), (some (37, true))⟩, none⟩, ⟨⟨(some 39), (.pick (.tmp 37) (.tmp 38) (.c (.bool false))), none⟩, none⟩, ⟨⟨(some 8), (.mv (.tmp 39)), none⟩, none⟩]) .ret))))
def rs_coupletlaw02_FxOrder : List ResultVar := [(.tmp 8)]
theorem ir_coupletlaw02_FxOrder : compCode Tryd.prog (Tryd.f10.body.getD .skip) [] = some (xr_coupletlaw02_FxOrder.erase, []) := by kernel_rfl
/-! coupletlaw02_FxOrder -/
def gm_coupletlaw02_FxOrder : Gam := (Gam.fn 12 as_coupletlaw02_awake ga_coupletlaw02_awake em_coupletlaw02_awake (Gam.fn 30 as_coupletlaw02_FxOrder_1 ga_coupletlaw02_FxOrder_1 em_coupletlaw02_FxOrder_1 (Gam.fn 30 as_coupletlaw02_FxOrder_1_v1 ga_coupletlaw02_FxOrder_1_v1 em_coupletlaw02_FxOrder_1_v1 (Gam.fn 30 as_coupletlaw02_FxOrder_1_v2 ga_coupletlaw02_FxOrder_1_v2 em_coupletlaw02_FxOrder_1_v2 (Gam.fn 30 as_coupletlaw02_FxOrder_1_v3 ga_coupletlaw02_FxOrder_1_v3 em_coupletlaw02_FxOrder_1_v3 Gam.bot)))))
theorem gk_coupletlaw02_FxOrder : GamOk Tryd.prog GG gm_coupletlaw02_FxOrder := (GamOk.fn at_coupletlaw02_awake (GamOk.fn at_coupletlaw02_FxOrder_1 (GamOk.fn at_coupletlaw02_FxOrder_1_v1 (GamOk.fn at_coupletlaw02_FxOrder_1_v2 (GamOk.fn at_coupletlaw02_FxOrder_1_v3 GamOk.bot)))))
def lm_coupletlaw02_FxOrder : Lam := fun _ j S kn ke => match j with
  | _ => .fail
/-- coupletlaw02_FxOrder -/
def go_coupletlaw02_FxOrder (n0 : Int) (n1 : Int) (n2 : Int) (n3 : Int) : Option Bool :=
  bif (decide (n0 > n1)) then
   (go_coupletlaw02_awake).bind fun r4 =>
   some r4
  else
   bif (decide (n2 < 0)) then
    (go_coupletlaw02_awake).bind fun r5 =>
    some r5
   else
    (go_coupletlaw02_FxOrder_1 n2 n0 n1).bind fun r6 =>
    bif r6 then
     (go_coupletlaw02_FxOrder_1_v1 n2 n3 n0 n1).bind fun r7 =>
     bif r7 then
      (go_coupletlaw02_FxOrder_1_v2 n3 n0 n1).bind fun r8 =>
      bif r8 then
       (go_coupletlaw02_FxOrder_1_v3 n2 n3 n0 n1).bind fun r9 =>
       bif r9 then
        (go_coupletlaw02_awake).bind fun r10 =>
        some r10
       else
        some false
      else
       some false
     else
      some false
    else
     some false
def em_coupletlaw02_FxOrder (r : Bool) : PV := (.bool r)
def rh_coupletlaw02_FxOrder : Shp := .bool
def ra_coupletlaw02_FxOrder (v : PV) : Bool := v.tru
def kf_coupletlaw02_FxOrder (v : PV) : Tree Bool := .chk (rh_coupletlaw02_FxOrder.ok v) (.leaf (ra_coupletlaw02_FxOrder v))
theorem rn_coupletlaw02_FxOrder (n0 : Int) (n1 : Int) (n2 : Int) (n3 : Int) : (ev GG gm_coupletlaw02_FxOrder lm_coupletlaw02_FxOrder xr_coupletlaw02_FxOrder ⟨slots 40 0 [(0, .p (.int .i64 n0)), (1, .p (.int .i64 n1)), (2, .p (.int .i64 n2)), (3, .p (.int .i64 n3))], []⟩ (fun S => finT Tryd.prog rs_coupletlaw02_FxOrder S kf_coupletlaw02_FxOrder) (retT Tryd.prog rs_coupletlaw02_FxOrder kf_coupletlaw02_FxOrder)).run = go_coupletlaw02_FxOrder n0 n1 n2 n3 := by kernel_rfl
theorem ok_coupletlaw02_FxOrder (n0 : Int) (n1 : Int) (n2 : Int) (n3 : Int) (r : Bool) (h : go_coupletlaw02_FxOrder n0 n1 n2 n3 = some r) : FunEq Tryd.prog GG 10 [(.int .i64 n0), (.int .i64 n1), (.int .i64 n2), (.int .i64 n3)] (em_coupletlaw02_FxOrder r) :=
  fun_of_ev (x := xr_coupletlaw02_FxOrder) (Λ := lm_coupletlaw02_FxOrder) gk_coupletlaw02_FxOrder [] Tryd.func10 rfl (by kernel_rfl) ir_coupletlaw02_FxOrder (by kernel_rfl) (congrArg Array.toList Tryd.results10) Tryd.ntmps10 (⟨trivial, ⟨⟨trivial, ⟨⟨trivial, trivial⟩, trivial⟩⟩, ⟨trivial, ⟨trivial, trivial⟩⟩⟩⟩) (leaf_of fun v => (by kernel_rfl : rh_coupletlaw02_FxOrder.build v = em_coupletlaw02_FxOrder (ra_coupletlaw02_FxOrder v))) (by kernel_rfl) ((rn_coupletlaw02_FxOrder n0 n1 n2 n3).trans h)
def as_coupletlaw02_FxOrder : List Shp := [(.int .i64), (.int .i64), (.int .i64), (.int .i64)]
def ga_coupletlaw02_FxOrder (vs : List PV) : Option Bool := go_coupletlaw02_FxOrder ((tls 0 vs).headD .nilSl).num ((tls 1 vs).headD .nilSl).num ((tls 2 vs).headD .nilSl).num ((tls 3 vs).headD .nilSl).num
theorem at_coupletlaw02_FxOrder : FnAt Tryd.prog GG 10 as_coupletlaw02_FxOrder ga_coupletlaw02_FxOrder em_coupletlaw02_FxOrder := fun vs h r hr => by
  have e : Shp.buildL as_coupletlaw02_FxOrder vs = [(.int .i64 ((tls 0 vs).headD .nilSl).num), (.int .i64 ((tls 1 vs).headD .nilSl).num), (.int .i64 ((tls 2 vs).headD .nilSl).num), (.int .i64 ((tls 3 vs).headD .nilSl).num)] := by kernel_rfl
  rw [← Shp.buildL_eq _ h, e]
  exact ok_coupletlaw02_FxOrder _ _ _ _ r hr
end Go.Proofs
