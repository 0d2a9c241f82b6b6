import Derived.Test.YtajphaljpkeecaaDoorWWire
import Derived.Test.YtajphaljpkeecaaDoorWSPb
import Derived.Test.YtajphaljpkeecaaDoorWGC0
import Derived.Test.YtajphaljpkeecaaDoorFxRng
import Derived.Test.YtajphaljpkeecaaDoorChecked
set_option linter.unusedVariables false
set_option maxRecDepth 100000
noncomputable section
namespace Go.Proofs
open Go Go.Fx
def xr_frame_Many : XR := (.seq (.ops false [⟨⟨(some 4), (.mv (.c (.int .i64 (0)))), none⟩, none⟩]) (.seq (.seq (.ops false [⟨⟨(some 5), (.mv (.tmp 1)), none⟩, none⟩, ⟨⟨(some 6), (.bin .lss (.tmp 5) (.c (.int .i64 (1)))), none⟩, none⟩, ⟨⟨(some 7), (.mv (.tmp 6)), none⟩, none⟩, ⟨⟨(some 8), (.mv (.tmp 1)), (some (7, false))⟩, none⟩, ⟨⟨(some 9), (.bin .gtr (.tmp 8) (.c (.int .i64 (4)))), (some (7, false))⟩, none⟩, ⟨⟨(some 10), (.pick (.tmp 7) (.c (.bool true)) (.tmp 9)), none⟩, none⟩]) (.cond (.tmp 10) (.seq (.ops false [⟨⟨(some 4), (.mv (.c (.int .i64 (0)))), none⟩, none⟩]) .ret) .skip)) (.seq (.seq (.ops false [⟨⟨(some 11), (.mv (.tmp 0)), none⟩, none⟩]) (.block 0 (.seq (.ops false [⟨⟨(some 13), (.bin .eql (.tmp 11) (.c (.int .i64 (1)))), none⟩, none⟩, ⟨⟨(some 12), (.mv (.tmp 13)), none⟩, none⟩]) (.cond (.tmp 12) (.seq (.ops false [⟨⟨(some 14), (.mv (.tmp 1)), none⟩, none⟩, ⟨⟨(some 15), (.mv (.tmp 1)), none⟩, none⟩, ⟨⟨(some 16), (.mv (.tmp 1)), none⟩, none⟩, ⟨⟨(some 17), (.bin .mul (.tmp 15) (.tmp 16)), none⟩, none⟩, ⟨⟨(some 18), (.bin .add (.tmp 14) (.tmp 17)), none⟩, none⟩, ⟨⟨(some 4), (.mv (.tmp 18)), none⟩, none⟩]) .ret) (.seq (.ops false [⟨⟨(some 20), (.bin .eql (.tmp 11) (.c (.int .i64 (2)))), none⟩, none⟩, ⟨⟨(some 19), (.mv (.tmp 20)), none⟩, none⟩]) (.cond (.tmp 19) (.seq (.ops false [⟨⟨(some 21), (.mv (.tmp 1)), none⟩, none⟩, ⟨⟨(some 22), (.bin .mul (.c (.int .i64 (2))) (.tmp 21)), none⟩, none⟩, ⟨⟨(some 23), (.mv (.tmp 1)), none⟩, none⟩, ⟨⟨(some 24), (.bin .mul (.tmp 22) (.tmp 23)), none⟩, none⟩, ⟨⟨(some 4), (.mv (.tmp 24)), none⟩, none⟩]) .ret) (.seq (.ops false [⟨⟨(some 26), (.bin .eql (.tmp 11) (.c (.int .i64 (3)))), none⟩, none⟩, ⟨⟨(some 25), (.mv (.tmp 26)), none⟩, none⟩]) (.cond (.tmp 25) (.seq (.ops false [⟨⟨(some 27), (.mv (.tmp 1)), none⟩, none⟩, ⟨⟨(some 28), (.bin .add (.tmp 27) (.c (.int .i64 (2)))), none⟩, none⟩, ⟨⟨(some 4), (.mv (.tmp 28)), none⟩, none⟩]) .ret) .skip)))))))) (.seq (.ops false [⟨⟨(some 4), (.mv (.c (.int .i64 (0)))), none⟩, none⟩]) .ret))))
def rs_frame_Many : List ResultVar := [(.tmp 4)]
theorem ir_frame_Many : compCode Tryd.prog (Tryd.f22.body.getD .skip) [] = some (xr_frame_Many.erase, []) := by kernel_rfl
def gm_frame_Many : Gam := Gam.bot
theorem gk_frame_Many : GamOk Tryd.prog GG gm_frame_Many := GamOk.bot
def lm_frame_Many : Lam := fun _ j S kn ke => match j with
  | _ => .fail
def go_frame_Many (n0 : Int) (n1 : Int) : Option Int :=
  bif (decide (n1 < 1)) then
   some 0
  else
   bif (decide (n1 > 4)) then
    some 0
   else
    bif (n0 == 1) then
     some (IntKind.wrap .i64 (n1 + (IntKind.wrap .i64 (n1 * n1))))
    else
     bif (n0 == 2) then
      some (IntKind.wrap .i64 ((IntKind.wrap .i64 (2 * n1)) * n1))
     else
      bif (n0 == 3) then
       some (IntKind.wrap .i64 (n1 + 2))
      else
       some 0
def em_frame_Many (r : Int) : PV := (.int .i64 r)
def rh_frame_Many : Shp := (.int .i64)
def ra_frame_Many (v : PV) : Int := v.num
def kf_frame_Many (v : PV) : Tree Int := .chk (rh_frame_Many.ok v) (.leaf (ra_frame_Many v))
theorem rn_frame_Many (n0 : Int) (n1 : Int) : (ev GG gm_frame_Many lm_frame_Many xr_frame_Many ⟨slots 29 0 [(0, .p (.int .i64 n0)), (1, .p (.int .i64 n1))], []⟩ (fun S => finT Tryd.prog rs_frame_Many S kf_frame_Many) (retT Tryd.prog rs_frame_Many kf_frame_Many)).run = go_frame_Many n0 n1 := by kernel_rfl
theorem ok_frame_Many (n0 : Int) (n1 : Int) (r : Int) (h : go_frame_Many n0 n1 = some r) : FunEq Tryd.prog GG 22 [(.int .i64 n0), (.int .i64 n1)] (em_frame_Many r) :=
  fun_of_ev (x := xr_frame_Many) (Λ := lm_frame_Many) gk_frame_Many [] Tryd.func22 rfl (by kernel_rfl) ir_frame_Many (by kernel_rfl) (congrArg Array.toList Tryd.results22) Tryd.ntmps22 (⟨trivial, ⟨⟨trivial, ⟨⟨trivial, trivial⟩, trivial⟩⟩, ⟨⟨trivial, ⟨trivial, ⟨⟨trivial, trivial⟩, ⟨trivial, ⟨⟨trivial, trivial⟩, ⟨trivial, ⟨⟨trivial, trivial⟩, trivial⟩⟩⟩⟩⟩⟩⟩, ⟨trivial, trivial⟩⟩⟩⟩) (leaf_of fun v => (by kernel_rfl : rh_frame_Many.build v = em_frame_Many (ra_frame_Many v))) (by kernel_rfl) ((rn_frame_Many n0 n1).trans h)
def as_frame_Many : List Shp := [(.int .i64), (.int .i64)]
def ga_frame_Many (vs : List PV) : Option Int := go_frame_Many ((tls 0 vs).headD .nilSl).num ((tls 1 vs).headD .nilSl).num
theorem at_frame_Many : FnAt Tryd.prog GG 22 as_frame_Many ga_frame_Many em_frame_Many := fun vs h r hr => by
  have e : Shp.buildL as_frame_Many vs = [(.int .i64 ((tls 0 vs).headD .nilSl).num), (.int .i64 ((tls 1 vs).headD .nilSl).num)] := by kernel_rfl
  rw [← Shp.buildL_eq _ h, e]
  exact .inl ⟨by decide, ok_frame_Many _ _ r hr⟩
def xr_fx_Right : XR := (.seq (.ops false [⟨⟨(some 2), (.mv (.c (.bool false))), none⟩, none⟩]) (.seq (.ops false [⟨⟨(some 3), (.mv (.tmp 0)), none⟩, none⟩, ⟨⟨(some 4), (.bin .geq (.tmp 3) (.c (.int .i64 (-1125899906842624)))), none⟩, none⟩, ⟨⟨(some 5), (.mv (.tmp 4)), none⟩, none⟩, ⟨⟨(some 6), (.mv (.tmp 0)), (some (5, true))⟩, none⟩, ⟨⟨(some 7), (.bin .leq (.tmp 6) (.c (.int .i64 (1125899906842624)))), (some (5, true))⟩, none⟩, ⟨⟨(some 8), (.pick (.tmp 5) (.tmp 7) (.c (.bool false))), none⟩, none⟩, ⟨⟨(some 2), (.mv (.tmp 8)), none⟩, none⟩]) .ret))
def rs_fx_Right : List ResultVar := [(.tmp 2)]
theorem ir_fx_Right : compCode Tryd.prog (Tryd.f51.body.getD .skip) [] = some (xr_fx_Right.erase, []) := by kernel_rfl
def gm_fx_Right : Gam := Gam.bot
theorem gk_fx_Right : GamOk Tryd.prog GG gm_fx_Right := GamOk.bot
def lm_fx_Right : Lam := fun _ j S kn ke => match j with
  | _ => .fail
def go_fx_Right (n0 : Int) : Option Bool :=
  bif (decide (n0 ≥ (-1125899906842624))) then
   some (decide (n0 ≤ 1125899906842624))
  else
   some false
def em_fx_Right (r : Bool) : PV := (.bool r)
def rh_fx_Right : Shp := .bool
def ra_fx_Right (v : PV) : Bool := v.tru
def kf_fx_Right (v : PV) : Tree Bool := .chk (rh_fx_Right.ok v) (.leaf (ra_fx_Right v))
theorem rn_fx_Right (n0 : Int) : (ev GG gm_fx_Right lm_fx_Right xr_fx_Right ⟨slots 9 0 [(0, .p (.int .i64 n0))], []⟩ (fun S => finT Tryd.prog rs_fx_Right S kf_fx_Right) (retT Tryd.prog rs_fx_Right kf_fx_Right)).run = go_fx_Right n0 := by kernel_rfl
theorem ok_fx_Right (n0 : Int) (r : Bool) (h : go_fx_Right n0 = some r) : FunEq Tryd.prog GG 51 [(.int .i64 n0)] (em_fx_Right r) :=
  fun_of_ev (x := xr_fx_Right) (Λ := lm_fx_Right) gk_fx_Right [] Tryd.func51 rfl (by kernel_rfl) ir_fx_Right (by kernel_rfl) (congrArg Array.toList Tryd.results51) Tryd.ntmps51 (⟨trivial, ⟨trivial, trivial⟩⟩) (leaf_of fun v => (by kernel_rfl : rh_fx_Right.build v = em_fx_Right (ra_fx_Right v))) (by kernel_rfl) ((rn_fx_Right n0).trans h)
def as_fx_Right : List Shp := [(.int .i64)]
def ga_fx_Right (vs : List PV) : Option Bool := go_fx_Right ((tls 0 vs).headD .nilSl).num
theorem at_fx_Right : FnAt Tryd.prog GG 51 as_fx_Right ga_fx_Right em_fx_Right := fun vs h r hr => by
  have e : Shp.buildL as_fx_Right vs = [(.int .i64 ((tls 0 vs).headD .nilSl).num)] := by kernel_rfl
  rw [← Shp.buildL_eq _ h, e]
  exact .inl ⟨by decide, ok_fx_Right _ r hr⟩
def xr_frame_Right_1 : XR := (.seq (.ops false [⟨⟨(some 2), (.mv (.c (.bool false))), none⟩, none⟩]) (.seq (.ops false [⟨⟨(some 3), (.mv (.tmp 0)), none⟩, none⟩, ⟨⟨(some 4), (.call (.func 51) [(.tmp 3)]), none⟩, none⟩, ⟨⟨(some 5), (.un .not (.tmp 4)), none⟩, none⟩, ⟨⟨(some 2), (.mv (.tmp 5)), none⟩, none⟩]) .ret))
def rs_frame_Right_1 : List ResultVar := [(.tmp 2)]
theorem ir_frame_Right_1 : compCode Tryd.prog (Tryd.f50.body.getD .skip) [] = some (xr_frame_Right_1.erase, []) := by kernel_rfl
def gm_frame_Right_1 : Gam := (Gam.fn 51 as_fx_Right ga_fx_Right em_fx_Right Gam.bot)
theorem gk_frame_Right_1 : GamOk Tryd.prog GG gm_frame_Right_1 := (GamOk.fn at_fx_Right GamOk.bot)
def lm_frame_Right_1 : Lam := fun _ j S kn ke => match j with
  | _ => .fail
def go_frame_Right_1 (n0 : Int) : Option Bool :=
  (go_fx_Right n0).bind fun r1 =>
  some (!r1)
def em_frame_Right_1 (r : Bool) : PV := (.bool r)
def rh_frame_Right_1 : Shp := .bool
def ra_frame_Right_1 (v : PV) : Bool := v.tru
def kf_frame_Right_1 (v : PV) : Tree Bool := .chk (rh_frame_Right_1.ok v) (.leaf (ra_frame_Right_1 v))
theorem rn_frame_Right_1 (n0 : Int) : (ev GG gm_frame_Right_1 lm_frame_Right_1 xr_frame_Right_1 ⟨slots 6 0 [(0, .p (.int .i64 n0))], []⟩ (fun S => finT Tryd.prog rs_frame_Right_1 S kf_frame_Right_1) (retT Tryd.prog rs_frame_Right_1 kf_frame_Right_1)).run = go_frame_Right_1 n0 := by kernel_rfl
theorem ok_frame_Right_1 (n0 : Int) (r : Bool) (h : go_frame_Right_1 n0 = some r) : FunEq Tryd.prog GG 50 [(.int .i64 n0)] (em_frame_Right_1 r) :=
  fun_of_ev (x := xr_frame_Right_1) (Λ := lm_frame_Right_1) gk_frame_Right_1 [] Tryd.func50 rfl (by kernel_rfl) ir_frame_Right_1 (by kernel_rfl) (congrArg Array.toList Tryd.results50) Tryd.ntmps50 (⟨trivial, ⟨trivial, trivial⟩⟩) (leaf_of fun v => (by kernel_rfl : rh_frame_Right_1.build v = em_frame_Right_1 (ra_frame_Right_1 v))) (by kernel_rfl) ((rn_frame_Right_1 n0).trans h)
def as_frame_Right_1 : List Shp := [(.int .i64)]
def ga_frame_Right_1 (vs : List PV) : Option Bool := go_frame_Right_1 ((tls 0 vs).headD .nilSl).num
theorem at_frame_Right_1 : FnAt Tryd.prog GG 50 as_frame_Right_1 ga_frame_Right_1 em_frame_Right_1 := fun vs h r hr => by
  have e : Shp.buildL as_frame_Right_1 vs = [(.int .i64 ((tls 0 vs).headD .nilSl).num)] := by kernel_rfl
  rw [← Shp.buildL_eq _ h, e]
  exact .inl ⟨by decide, ok_frame_Right_1 _ r hr⟩
def xb_slices_IndexFunc__int_int_0 : XR := (.seq (.ops false [⟨⟨(some 9), (.bin .lss (.tmp 8) (.tmp 7)), none⟩, none⟩]) (.seq (.cond (.tmp 9) .skip (.exit 0)) (.seq (.block 1 (.seq (.ops false [⟨⟨(some 10), (.mv (.tmp 8)), none⟩, none⟩, ⟨⟨(some 5), (.mv (.tmp 10)), none⟩, none⟩]) (.seq (.ops false [⟨⟨(some 11), (.mv (.tmp 1)), none⟩, none⟩, ⟨⟨(some 12), (.mv (.tmp 0)), none⟩, none⟩, ⟨⟨(some 13), (.mv (.tmp 5)), none⟩, none⟩, ⟨⟨(some 14), (.ixA 1 (.tmp 12) (.tmp 13)), none⟩, none⟩, ⟨⟨(some 15), (.ld false 1 (.tmp 14)), none⟩, (some (.int .i64))⟩, ⟨⟨(some 16), (.call (.tmp 11) [(.tmp 15)]), none⟩, none⟩]) (.cond (.tmp 16) (.seq (.ops false [⟨⟨(some 17), (.mv (.tmp 5)), none⟩, none⟩, ⟨⟨(some 4), (.mv (.tmp 17)), none⟩, none⟩]) .ret) .skip)))) (.ops false [⟨⟨(some 18), (.bin .add (.tmp 8) (.c (.int .i64 (1)))), none⟩, none⟩, ⟨⟨(some 8), (.mv (.tmp 18)), none⟩, none⟩]))))
def xr_slices_IndexFunc__int_int : XR := (.seq (.ops false [⟨⟨(some 4), (.mv (.c (.int .i64 (0)))), none⟩, none⟩]) (.seq (.seq (.ops false [⟨⟨(some 6), (.mv (.tmp 0)), none⟩, none⟩, ⟨⟨(some 7), (.len (.tmp 6)), none⟩, none⟩, ⟨⟨(some 8), (.mv (.c (.int .i64 (0)))), none⟩, none⟩]) (.block 0 (.loop 0 [0, 1, 7, 8] xb_slices_IndexFunc__int_int_0))) (.seq (.ops false [⟨⟨(some 4), (.mv (.c (.int .i64 (-1)))), none⟩, none⟩]) .ret)))
def rs_slices_IndexFunc__int_int : List ResultVar := [(.tmp 4)]
theorem ir_slices_IndexFunc__int_int : compCode Tryd.prog (Tryd.f66.body.getD .skip) [[0, 1, 7, 8]] = some (xr_slices_IndexFunc__int_int.erase, []) := by kernel_rfl
def gm_slices_IndexFunc__int_int : Gam := (Gam.fn 50 as_frame_Right_1 ga_frame_Right_1 em_frame_Right_1 Gam.bot)
theorem gk_slices_IndexFunc__int_int : GamOk Tryd.prog GG gm_slices_IndexFunc__int_int := (GamOk.fn at_frame_Right_1 GamOk.bot)
def st_slices_IndexFunc__int_int_0 (b3 : Bool) (b4 : Bool) (l5 : List Int) (n6 : Int) (n7 : Int) : Option (((Bool × Bool × List Int × Int × Int)) ⊕ ((Unit) ⊕ (Int))) :=
  bif (decide (n7 < n6)) then
   bif (decide (0 ≤ n7)) then
    bif (decide (n7 < (((List.length l5) : Nat) : Int))) then
     bif (decide ((Int.toNat n7) < (List.length l5))) then
      (go_frame_Right_1 (List.getD l5 (Int.toNat n7) 0)).bind fun r8 =>
      bif r8 then
       some (Sum.inr (Sum.inr n7))
      else
       some (Sum.inl (b3, b4, l5, n6, (IntKind.wrap .i64 (n7 + 1))))
     else none
    else none
   else none
  else
   some (Sum.inr (Sum.inl ()))
def lp_slices_IndexFunc__int_int_0 (b3 : Bool) (b4 : Bool) (l5 : List Int) (n6 : Int) (n7 : Int) : Option ((Unit) ⊕ (Int)) := loopN (X := (Bool × Bool × List Int × Int × Int)) (fun x => st_slices_IndexFunc__int_int_0 x.1 x.2.1 x.2.2.1 x.2.2.2.1 x.2.2.2.2) (b3, b4, l5, n6, n7)
def sh_slices_IndexFunc__int_int_0 : StSh := ⟨19, [(0, (.p (.isl .i64))), (1, (.p (.fn 50 []))), (7, (.p (.int .i64))), (8, (.p (.int .i64)))], []⟩
def sx_slices_IndexFunc__int_int_0 (x : (Bool × Bool × List Int × Int × Int)) : St := ⟨slots 19 0 [(0, (.p (.isl x.1 x.2.1 .i64 x.2.2.1))), (1, (.p (.fn 50 []))), (7, (.p (.int .i64 x.2.2.2.1))), (8, (.p (.int .i64 x.2.2.2.2)))], []⟩
def sa_slices_IndexFunc__int_int_0 (S : St) : (Bool × Bool × List Int × Int × Int) := (((tls 0 S.t).headD .any).pv.nl, ((tls 0 S.t).headD .any).pv.ex, ((tls 0 S.t).headD .any).pv.ints, ((tls 7 S.t).headD .any).pv.num, ((tls 8 S.t).headD .any).pv.num)
def tz_slices_IndexFunc__int_int_0_1 : StSh := ⟨19, [(4, (.p (.int .i64)))], []⟩
def tx_slices_IndexFunc__int_int_0_1 (x : Int) : St := ⟨slots 19 0 [(4, (.p (.int .i64 x)))], []⟩
def ta_slices_IndexFunc__int_int_0_1 (S : St) : Int := ((tls 4 S.t).headD .any).pv.num
def tz_slices_IndexFunc__int_int_0_0 : StSh := ⟨19, [], []⟩
def tx_slices_IndexFunc__int_int_0_0 (x : Unit) : St := ⟨slots 19 0 [], []⟩
def ta_slices_IndexFunc__int_int_0_0 (S : St) : Unit := ()
def kb_slices_IndexFunc__int_int_0 : Exit → St → Tree (((Bool × Bool × List Int × Int × Int)) ⊕ ((Unit) ⊕ (Int))) := (exOne (.exit 0) [] tz_slices_IndexFunc__int_int_0_0 ta_slices_IndexFunc__int_int_0_0 (fun y => Sum.inr ((Sum.inl y))) (exOne .ret [4] tz_slices_IndexFunc__int_int_0_1 ta_slices_IndexFunc__int_int_0_1 (fun y => Sum.inr ((Sum.inr y))) exNil))
def ky_slices_IndexFunc__int_int_0 : Dec ((Unit) ⊕ (Int)) := fun _ y ke => .sum y (fun a => ke ((.exit 0) : EK).ex (tx_slices_IndexFunc__int_int_0_0 a)) (fun y' => ke (.ret : EK).ex (tx_slices_IndexFunc__int_int_0_1 y'))
theorem kk_slices_IndexFunc__int_int_0 : ExOk Sum.inr kb_slices_IndexFunc__int_int_0 ky_slices_IndexFunc__int_int_0 := (ExOk.one (acc := ta_slices_IndexFunc__int_int_0_0) (bY := tx_slices_IndexFunc__int_int_0_0) (inj1 := fun y => (Sum.inl y)) (fun S => by kernel_rfl) (fun y _ ke => .inr (by kernel_rfl)) (ExOk.one (acc := ta_slices_IndexFunc__int_int_0_1) (bY := tx_slices_IndexFunc__int_int_0_1) (inj1 := fun y => (Sum.inr y)) (fun S => by kernel_rfl) (fun y _ ke => .inr (by kernel_rfl)) ExOk.nil))
def lm_slices_IndexFunc__int_int : Lam := fun _ j S kn ke => match j with
  | 0 => prepT [0, 1, 7, 8] [] S fun S => .chk (sh_slices_IndexFunc__int_int_0.ok S) (.bind (loopN (fun x => st_slices_IndexFunc__int_int_0 x.1 x.2.1 x.2.2.1 x.2.2.2.1 x.2.2.2.2) (sa_slices_IndexFunc__int_int_0 S)) fun y => ky_slices_IndexFunc__int_int_0 _ y ke)
  | _ => .fail
theorem sr_slices_IndexFunc__int_int_0 (x : (Bool × Bool × List Int × Int × Int)) : (ev GG gm_slices_IndexFunc__int_int lm_slices_IndexFunc__int_int xb_slices_IndexFunc__int_int_0 (sx_slices_IndexFunc__int_int_0 x) (fun S => forgetT [0, 1, 7, 8] S fun S => prepT [0, 1, 7, 8] [] S fun S => .chk (sh_slices_IndexFunc__int_int_0.ok S) (.leaf (.inl (sa_slices_IndexFunc__int_int_0 S)))) kb_slices_IndexFunc__int_int_0).run = st_slices_IndexFunc__int_int_0 x.1 x.2.1 x.2.2.1 x.2.2.2.1 x.2.2.2.2 := by kernel_rfl
theorem la_slices_IndexFunc__int_int_0 : LamAt Tryd.prog GG lm_slices_IndexFunc__int_int 0 (.loop [0, 1, 7, 8] xb_slices_IndexFunc__int_int_0.erase) := lam_loop (body := xb_slices_IndexFunc__int_int_0) (Λ' := lm_slices_IndexFunc__int_int) gk_slices_IndexFunc__int_int (⟨trivial, ⟨⟨trivial, trivial⟩, ⟨⟨trivial, ⟨trivial, ⟨⟨trivial, trivial⟩, trivial⟩⟩⟩, trivial⟩⟩⟩) (fun S => (by kernel_rfl : sh_slices_IndexFunc__int_int_0.build S = sx_slices_IndexFunc__int_int_0 (sa_slices_IndexFunc__int_int_0 S))) kk_slices_IndexFunc__int_int_0 sr_slices_IndexFunc__int_int_0 (fun _ _ _ => rfl)
def go_slices_IndexFunc__int_int (b0 : Bool) (b1 : Bool) (l2 : List Int) : Option Int :=
  (lp_slices_IndexFunc__int_int_0 b0 b1 l2 (((List.length l2) : Nat) : Int) 0).bind fun y9 =>
  Sum.elim (fun z10 =>
   some (-1)) (fun z11 =>
   some z11) y9
def em_slices_IndexFunc__int_int (r : Int) : PV := (.int .i64 r)
def rh_slices_IndexFunc__int_int : Shp := (.int .i64)
def ra_slices_IndexFunc__int_int (v : PV) : Int := v.num
def kf_slices_IndexFunc__int_int (v : PV) : Tree Int := .chk (rh_slices_IndexFunc__int_int.ok v) (.leaf (ra_slices_IndexFunc__int_int v))
theorem rn_slices_IndexFunc__int_int (b0 : Bool) (b1 : Bool) (l2 : List Int) : (ev GG gm_slices_IndexFunc__int_int lm_slices_IndexFunc__int_int xr_slices_IndexFunc__int_int ⟨slots 19 0 [(0, .p (.isl b0 b1 .i64 l2)), (1, .p (.fn 50 []))], []⟩ (fun S => finT Tryd.prog rs_slices_IndexFunc__int_int S kf_slices_IndexFunc__int_int) (retT Tryd.prog rs_slices_IndexFunc__int_int kf_slices_IndexFunc__int_int)).run = go_slices_IndexFunc__int_int b0 b1 l2 := by kernel_rfl
theorem ok_slices_IndexFunc__int_int (b0 : Bool) (b1 : Bool) (l2 : List Int) (r : Int) (h : go_slices_IndexFunc__int_int b0 b1 l2 = some r) : FunEq Tryd.prog GG 66 [(.isl b0 b1 .i64 l2), (.fn 50 [])] (em_slices_IndexFunc__int_int r) :=
  fun_of_ev (x := xr_slices_IndexFunc__int_int) (Λ := lm_slices_IndexFunc__int_int) gk_slices_IndexFunc__int_int [[0, 1, 7, 8]] Tryd.func66 rfl (by kernel_rfl) ir_slices_IndexFunc__int_int (by kernel_rfl) (congrArg Array.toList Tryd.results66) Tryd.ntmps66 (⟨trivial, ⟨⟨trivial, la_slices_IndexFunc__int_int_0⟩, ⟨trivial, trivial⟩⟩⟩) (leaf_of fun v => (by kernel_rfl : rh_slices_IndexFunc__int_int.build v = em_slices_IndexFunc__int_int (ra_slices_IndexFunc__int_int v))) (by kernel_rfl) ((rn_slices_IndexFunc__int_int b0 b1 l2).trans h)
def as_slices_IndexFunc__int_int : List Shp := [(.isl .i64), (.fn 50 [])]
def ga_slices_IndexFunc__int_int (vs : List PV) : Option Int := go_slices_IndexFunc__int_int ((tls 0 vs).headD .nilSl).nl ((tls 0 vs).headD .nilSl).ex ((tls 0 vs).headD .nilSl).ints
theorem at_slices_IndexFunc__int_int : FnAt Tryd.prog GG 66 as_slices_IndexFunc__int_int ga_slices_IndexFunc__int_int em_slices_IndexFunc__int_int := fun vs h r hr => by
  have e : Shp.buildL as_slices_IndexFunc__int_int vs = [(.isl ((tls 0 vs).headD .nilSl).nl ((tls 0 vs).headD .nilSl).ex .i64 ((tls 0 vs).headD .nilSl).ints), (.fn 50 [])] := by kernel_rfl
  rw [← Shp.buildL_eq _ h, e]
  exact .inl ⟨by decide, ok_slices_IndexFunc__int_int _ _ _ r hr⟩
def xr_slices_ContainsFunc__int_int : XR := (.seq (.ops false [⟨⟨(some 4), (.mv (.c (.bool false))), none⟩, none⟩]) (.seq (.ops false [⟨⟨(some 5), (.mv (.tmp 0)), none⟩, none⟩, ⟨⟨(some 6), (.mv (.tmp 1)), none⟩, none⟩, ⟨⟨(some 7), (.call (.func 66) [(.tmp 5), (.tmp 6)]), none⟩, none⟩, ⟨⟨(some 8), (.bin .geq (.tmp 7) (.c (.int .i64 (0)))), none⟩, none⟩, ⟨⟨(some 4), (.mv (.tmp 8)), none⟩, none⟩]) .ret))
def rs_slices_ContainsFunc__int_int : List ResultVar := [(.tmp 4)]
theorem ir_slices_ContainsFunc__int_int : compCode Tryd.prog (Tryd.f52.body.getD .skip) [] = some (xr_slices_ContainsFunc__int_int.erase, []) := by kernel_rfl
def gm_slices_ContainsFunc__int_int : Gam := (Gam.fn 66 as_slices_IndexFunc__int_int ga_slices_IndexFunc__int_int em_slices_IndexFunc__int_int Gam.bot)
theorem gk_slices_ContainsFunc__int_int : GamOk Tryd.prog GG gm_slices_ContainsFunc__int_int := (GamOk.fn at_slices_IndexFunc__int_int GamOk.bot)
def lm_slices_ContainsFunc__int_int : Lam := fun _ j S kn ke => match j with
  | _ => .fail
def go_slices_ContainsFunc__int_int (b0 : Bool) (b1 : Bool) (l2 : List Int) : Option Bool :=
  (go_slices_IndexFunc__int_int b0 b1 l2).bind fun r3 =>
  some (decide (r3 ≥ 0))
def em_slices_ContainsFunc__int_int (r : Bool) : PV := (.bool r)
def rh_slices_ContainsFunc__int_int : Shp := .bool
def ra_slices_ContainsFunc__int_int (v : PV) : Bool := v.tru
def kf_slices_ContainsFunc__int_int (v : PV) : Tree Bool := .chk (rh_slices_ContainsFunc__int_int.ok v) (.leaf (ra_slices_ContainsFunc__int_int v))
theorem rn_slices_ContainsFunc__int_int (b0 : Bool) (b1 : Bool) (l2 : List Int) : (ev GG gm_slices_ContainsFunc__int_int lm_slices_ContainsFunc__int_int xr_slices_ContainsFunc__int_int ⟨slots 9 0 [(0, .p (.isl b0 b1 .i64 l2)), (1, .p (.fn 50 []))], []⟩ (fun S => finT Tryd.prog rs_slices_ContainsFunc__int_int S kf_slices_ContainsFunc__int_int) (retT Tryd.prog rs_slices_ContainsFunc__int_int kf_slices_ContainsFunc__int_int)).run = go_slices_ContainsFunc__int_int b0 b1 l2 := by kernel_rfl
theorem ok_slices_ContainsFunc__int_int (b0 : Bool) (b1 : Bool) (l2 : List Int) (r : Bool) (h : go_slices_ContainsFunc__int_int b0 b1 l2 = some r) : FunEq Tryd.prog GG 52 [(.isl b0 b1 .i64 l2), (.fn 50 [])] (em_slices_ContainsFunc__int_int r) :=
  fun_of_ev (x := xr_slices_ContainsFunc__int_int) (Λ := lm_slices_ContainsFunc__int_int) gk_slices_ContainsFunc__int_int [] Tryd.func52 rfl (by kernel_rfl) ir_slices_ContainsFunc__int_int (by kernel_rfl) (congrArg Array.toList Tryd.results52) Tryd.ntmps52 (⟨trivial, ⟨trivial, trivial⟩⟩) (leaf_of fun v => (by kernel_rfl : rh_slices_ContainsFunc__int_int.build v = em_slices_ContainsFunc__int_int (ra_slices_ContainsFunc__int_int v))) (by kernel_rfl) ((rn_slices_ContainsFunc__int_int b0 b1 l2).trans h)
def as_slices_ContainsFunc__int_int : List Shp := [(.isl .i64), (.fn 50 [])]
def ga_slices_ContainsFunc__int_int (vs : List PV) : Option Bool := go_slices_ContainsFunc__int_int ((tls 0 vs).headD .nilSl).nl ((tls 0 vs).headD .nilSl).ex ((tls 0 vs).headD .nilSl).ints
theorem at_slices_ContainsFunc__int_int : FnAt Tryd.prog GG 52 as_slices_ContainsFunc__int_int ga_slices_ContainsFunc__int_int em_slices_ContainsFunc__int_int := fun vs h r hr => by
  have e : Shp.buildL as_slices_ContainsFunc__int_int vs = [(.isl ((tls 0 vs).headD .nilSl).nl ((tls 0 vs).headD .nilSl).ex .i64 ((tls 0 vs).headD .nilSl).ints), (.fn 50 [])] := by kernel_rfl
  rw [← Shp.buildL_eq _ h, e]
  exact .inl ⟨by decide, ok_slices_ContainsFunc__int_int _ _ _ r hr⟩
def xr_frame_Right : XR := (.seq (.ops false [⟨⟨(some 1), (.box 24 (.tmp 0)), none⟩, none⟩, ⟨⟨(some 2), (.mv (.c (.bool false))), none⟩, none⟩]) (.seq (.ops false [⟨⟨(some 3), (.mv (.func 50)), none⟩, none⟩]) (.seq (.ops false [⟨⟨(some 5), (.fldA 0 (.tmp 1)), none⟩, none⟩, ⟨⟨(some 6), (.ld false 1 (.tmp 5)), none⟩, (some (.int .i64))⟩, ⟨⟨(some 7), (.fldA 2 (.tmp 1)), none⟩, none⟩, ⟨⟨(some 8), (.ld false 1 (.tmp 7)), none⟩, (some (.int .i64))⟩, ⟨⟨(some 9), (.call (.func 22) [(.tmp 6), (.tmp 8)]), none⟩, none⟩, ⟨⟨(some 4), (.mv (.tmp 9)), none⟩, none⟩]) (.seq (.ops false [⟨⟨(some 10), (.mv (.tmp 4)), none⟩, none⟩, ⟨⟨(some 11), (.bin .gtr (.tmp 10) (.c (.int .i64 (0)))), none⟩, none⟩, ⟨⟨(some 12), (.mv (.tmp 11)), none⟩, none⟩, ⟨⟨(some 13), (.fldA 3 (.tmp 1)), (some (12, true))⟩, none⟩, ⟨⟨(some 14), (.ld false 1 (.tmp 13)), (some (12, true))⟩, (some (.isl .i64))⟩, ⟨⟨(some 15), (.len (.tmp 14)), (some (12, true))⟩, none⟩, ⟨⟨(some 16), (.mv (.tmp 4)), (some (12, true))⟩, none⟩, ⟨⟨(some 17), (.bin .eql (.tmp 15) (.tmp 16)), (some (12, true))⟩, none⟩, ⟨⟨(some 18), (.pick (.tmp 12) (.tmp 17) (.c (.bool false))), none⟩, none⟩, ⟨⟨(some 19), (.mv (.tmp 18)), none⟩, none⟩, ⟨⟨(some 20), (.fldA 1 (.tmp 1)), (some (19, true))⟩, none⟩, ⟨⟨(some 21), (.ld false 1 (.tmp 20)), (some (19, true))⟩, (some (.int .i64))⟩, ⟨⟨(some 22), (.bin .geq (.tmp 21) (.c (.int .i64 (0)))), (some (19, true))⟩, none⟩, ⟨⟨(some 23), (.pick (.tmp 19) (.tmp 22) (.c (.bool false))), none⟩, none⟩, ⟨⟨(some 24), (.mv (.tmp 23)), none⟩, none⟩, ⟨⟨(some 25), (.fldA 1 (.tmp 1)), (some (24, true))⟩, none⟩, ⟨⟨(some 26), (.ld false 1 (.tmp 25)), (some (24, true))⟩, (some (.int .i64))⟩, ⟨⟨(some 27), (.bin .leq (.tmp 26) (.c (.int .i64 (4294967295)))), (some (24, true))⟩, none⟩, ⟨⟨(some 28), (.pick (.tmp 24) (.tmp 27) (.c (.bool false))), none⟩, none⟩, ⟨⟨(some 29), (.mv (.tmp 28)), none⟩, none⟩, ⟨⟨(some 30), (.fldA 3 (.tmp 1)), (some (29, true))⟩, none⟩, ⟨⟨(some 31), (.ld false 1 (.tmp 30)), (some (29, true))⟩, (some (.isl .i64))⟩, ⟨⟨(some 32), (.mv (.tmp 3)), (some (29, true))⟩, none⟩, ⟨⟨(some 33), (.call (.func 52) [(.tmp 31), (.tmp 32)]), (some (29, true))⟩, none⟩, ⟨⟨(some 34), (.un .not (.tmp 33)), (some (29, true))⟩, none⟩, ⟨⟨(some 35), (.pick (.tmp 29) (.tmp 34) (.c (.bool false))), none⟩, none⟩, ⟨⟨(some 2), (.mv (.tmp 35)), none⟩, none⟩]) .ret))))
def rs_frame_Right : List ResultVar := [(.tmp 2)]
theorem ir_frame_Right : compCode Tryd.prog (Tryd.f26.body.getD .skip) [] = some (xr_frame_Right.erase, []) := by kernel_rfl
def gm_frame_Right : Gam := (Gam.fn 22 as_frame_Many ga_frame_Many em_frame_Many (Gam.fn 52 as_slices_ContainsFunc__int_int ga_slices_ContainsFunc__int_int em_slices_ContainsFunc__int_int Gam.bot))
theorem gk_frame_Right : GamOk Tryd.prog GG gm_frame_Right := (GamOk.fn at_frame_Many (GamOk.fn at_slices_ContainsFunc__int_int GamOk.bot))
def lm_frame_Right : Lam := fun _ j S kn ke => match j with
  | _ => .fail
def go_frame_Right (n0 : Int) (n1 : Int) (n2 : Int) (b3 : Bool) (b4 : Bool) (l5 : List Int) : Option Bool :=
  (go_frame_Many n0 n2).bind fun r6 =>
  bif (decide (r6 > 0)) then
   bif ((((List.length l5) : Nat) : Int) == r6) then
    bif (decide (n1 ≥ 0)) then
     bif (decide (n1 ≤ 4294967295)) then
      (go_slices_ContainsFunc__int_int b3 b4 l5).bind fun r7 =>
      some (!r7)
     else
      some false
    else
     some false
   else
    some false
  else
   some false
def em_frame_Right (r : Bool) : PV := (.bool r)
def rh_frame_Right : Shp := .bool
def ra_frame_Right (v : PV) : Bool := v.tru
def kf_frame_Right (v : PV) : Tree Bool := .chk (rh_frame_Right.ok v) (.leaf (ra_frame_Right v))
theorem rn_frame_Right (n0 : Int) (n1 : Int) (n2 : Int) (b3 : Bool) (b4 : Bool) (l5 : List Int) : (ev GG gm_frame_Right lm_frame_Right xr_frame_Right ⟨slots 36 0 [(0, .p (.agg [(.int .i64 n0), (.int .i64 n1), (.int .i64 n2), (.isl b3 b4 .i64 l5)]))], []⟩ (fun S => finT Tryd.prog rs_frame_Right S kf_frame_Right) (retT Tryd.prog rs_frame_Right kf_frame_Right)).run = go_frame_Right n0 n1 n2 b3 b4 l5 := by kernel_rfl
theorem ok_frame_Right (n0 : Int) (n1 : Int) (n2 : Int) (b3 : Bool) (b4 : Bool) (l5 : List Int) (r : Bool) (h : go_frame_Right n0 n1 n2 b3 b4 l5 = some r) : FunEq Tryd.prog GG 26 [(.agg [(.int .i64 n0), (.int .i64 n1), (.int .i64 n2), (.isl b3 b4 .i64 l5)])] (em_frame_Right r) :=
  fun_of_ev (x := xr_frame_Right) (Λ := lm_frame_Right) gk_frame_Right [] Tryd.func26 rfl (by kernel_rfl) ir_frame_Right (by kernel_rfl) (congrArg Array.toList Tryd.results26) Tryd.ntmps26 (⟨trivial, ⟨trivial, ⟨trivial, ⟨trivial, trivial⟩⟩⟩⟩) (leaf_of fun v => (by kernel_rfl : rh_frame_Right.build v = em_frame_Right (ra_frame_Right v))) (by kernel_rfl) ((rn_frame_Right n0 n1 n2 b3 b4 l5).trans h)
def as_frame_Right : List Shp := [(.agg [(.int .i64), (.int .i64), (.int .i64), (.isl .i64)])]
def ga_frame_Right (vs : List PV) : Option Bool := go_frame_Right (((tls 0 vs).headD .nilSl).subs.headD .nilSl).num (((tls 0 vs).headD .nilSl).subs.tail.headD .nilSl).num (((tls 0 vs).headD .nilSl).subs.tail.tail.headD .nilSl).num (((tls 0 vs).headD .nilSl).subs.tail.tail.tail.headD .nilSl).nl (((tls 0 vs).headD .nilSl).subs.tail.tail.tail.headD .nilSl).ex (((tls 0 vs).headD .nilSl).subs.tail.tail.tail.headD .nilSl).ints
theorem at_frame_Right : FnAt Tryd.prog GG 26 as_frame_Right ga_frame_Right em_frame_Right := fun vs h r hr => by
  have e : Shp.buildL as_frame_Right vs = [(.agg [(.int .i64 (((tls 0 vs).headD .nilSl).subs.headD .nilSl).num), (.int .i64 (((tls 0 vs).headD .nilSl).subs.tail.headD .nilSl).num), (.int .i64 (((tls 0 vs).headD .nilSl).subs.tail.tail.headD .nilSl).num), (.isl (((tls 0 vs).headD .nilSl).subs.tail.tail.tail.headD .nilSl).nl (((tls 0 vs).headD .nilSl).subs.tail.tail.tail.headD .nilSl).ex .i64 (((tls 0 vs).headD .nilSl).subs.tail.tail.tail.headD .nilSl).ints)])] := by kernel_rfl
  rw [← Shp.buildL_eq _ h, e]
  exact .inl ⟨by decide, ok_frame_Right _ _ _ _ _ _ r hr⟩
def xb_frame_Encode_0 : XR := (.seq (.ops false [⟨⟨(some 24), (.bin .lss (.tmp 23) (.tmp 22)), none⟩, none⟩]) (.seq (.cond (.tmp 24) .skip (.exit 0)) (.seq (.block 1 (.seq (.ops false [⟨⟨(some 25), (.ixA 1 (.tmp 21) (.tmp 23)), none⟩, none⟩, ⟨⟨(some 26), (.ld false 1 (.tmp 25)), none⟩, (some (.int .i64))⟩, ⟨⟨(some 6), (.mv (.tmp 26)), none⟩, none⟩]) (.ops false [⟨⟨(some 27), (.mv (.tmp 4)), none⟩, none⟩, ⟨⟨(some 28), (.mv (.tmp 6)), none⟩, none⟩, ⟨⟨(some 29), (.callR 47 5 (.tmp 27) [(.tmp 28), (.c (.int .i64 (8)))]), none⟩, none⟩, ⟨⟨(some 4), (.mv (.tmp 29)), none⟩, none⟩]))) (.ops false [⟨⟨(some 30), (.bin .add (.tmp 23) (.c (.int .i64 (1)))), none⟩, none⟩, ⟨⟨(some 23), (.mv (.tmp 30)), none⟩, none⟩]))))
def xr_frame_Encode : XR := (.seq (.ops false [⟨⟨(some 1), (.box 24 (.tmp 0)), none⟩, none⟩, ⟨⟨(some 2), (.mv (.c (.isl true true .u8 []))), none⟩, none⟩, ⟨⟨(some 3), (.mv (.c (.int .i64 (0)))), none⟩, none⟩]) (.seq (.seq (.ops false [⟨⟨(some 7), (.ld true 4 (.tmp 1)), none⟩, (some (.agg [(.int .i64), (.int .i64), (.int .i64), (.isl .i64)]))⟩, ⟨⟨(some 8), (.call (.func 26) [(.tmp 7)]), none⟩, none⟩, ⟨⟨(some 9), (.un .not (.tmp 8)), none⟩, none⟩]) (.cond (.tmp 9) (.seq (.ops false [⟨⟨(some 2), (.mv (.c (.isl true true .u8 []))), none⟩, none⟩, ⟨⟨(some 3), (.mv (.c (.int .i64 (1)))), none⟩, none⟩]) .ret) .skip)) (.seq (.ops false [⟨⟨(some 10), (.fldA 0 (.tmp 1)), none⟩, none⟩, ⟨⟨(some 11), (.ld false 1 (.tmp 10)), none⟩, (some (.int .i64))⟩, ⟨⟨(some 12), (.cvtI .u8 (.tmp 11)), none⟩, none⟩, ⟨⟨(some 13), (.fldA 2 (.tmp 1)), none⟩, none⟩, ⟨⟨(some 14), (.ld false 1 (.tmp 13)), none⟩, (some (.int .i64))⟩, ⟨⟨(some 15), (.cvtI .u8 (.tmp 14)), none⟩, none⟩, ⟨⟨(some 16), (.bsl 5 (some .u8) 1 [(.c (.int .u8 (78))), (.c (.int .u8 (86))), (.tmp 12), (.tmp 15)]), none⟩, none⟩, ⟨⟨(some 17), (.fldA 1 (.tmp 1)), none⟩, none⟩, ⟨⟨(some 18), (.ld false 1 (.tmp 17)), none⟩, (some (.int .i64))⟩, ⟨⟨(some 19), (.callR 47 5 (.tmp 16) [(.tmp 18), (.c (.int .i64 (4)))]), none⟩, none⟩, ⟨⟨(some 4), (.mv (.tmp 19)), none⟩, none⟩]) (.seq (.seq (.ops false [⟨⟨(some 20), (.fldA 3 (.tmp 1)), none⟩, none⟩, ⟨⟨(some 21), (.ld false 1 (.tmp 20)), none⟩, (some (.isl .i64))⟩, ⟨⟨(some 22), (.len (.tmp 21)), none⟩, none⟩, ⟨⟨(some 23), (.mv (.c (.int .i64 (0)))), none⟩, none⟩]) (.block 0 (.loop 0 [4, 21, 22, 23] xb_frame_Encode_0))) (.seq (.ops false [⟨⟨(some 31), (.mv (.tmp 4)), none⟩, none⟩, ⟨⟨(some 32), (.mv (.tmp 4)), none⟩, none⟩, ⟨⟨(some 33), (.call (.func 48) [(.tmp 32)]), none⟩, none⟩, ⟨⟨(some 34), (.cvtI .i64 (.tmp 33)), none⟩, none⟩, ⟨⟨(some 35), (.callR 47 5 (.tmp 31) [(.tmp 34), (.c (.int .i64 (4)))]), none⟩, none⟩, ⟨⟨(some 2), (.mv (.tmp 35)), none⟩, none⟩, ⟨⟨(some 3), (.mv (.c (.int .i64 (0)))), none⟩, none⟩]) .ret)))))
def rs_frame_Encode : List ResultVar := [(.tmp 2), (.tmp 3)]
theorem ir_frame_Encode : compCode Tryd.prog (Tryd.f21.body.getD .skip) [[4, 21, 22, 23]] = some (xr_frame_Encode.erase, []) := by kernel_rfl
def gm_new_frame_Encode : Gam := (Gam.fn 26 as_frame_Right ga_frame_Right em_frame_Right (Gam.fn 1000047 as_frame_put ga_frame_put em_frame_put (Gam.fn 48 as_sum_Of ga_sum_Of em_sum_Of Gam.bot)))
theorem gk_new_frame_Encode : GamOk Tryd.prog GG gm_new_frame_Encode := (GamOk.fn at_frame_Right (GamOk.fn at_frame_put (GamOk.fn at_sum_Of GamOk.bot)))
def st_new_frame_Encode_0 (b8 : Bool) (b9 : Bool) (l10 : List Int) (n11 : Int) (n12 : Int) (b13 : Bool) (b14 : Bool) (l15 : List Int) : Option (((Bool × Bool × List Int × Int × Int × Bool × Bool × List Int)) ⊕ (((Bool × Bool × List Int)))) :=
  bif (decide (n12 < n11)) then
   bif (decide (0 ≤ n12)) then
    bif (decide (n12 < (((List.length l10) : Nat) : Int))) then
     bif (decide ((Int.toNat n12) < (List.length l10))) then
      (go_frame_put b13 b14 l15 (List.getD l10 (Int.toNat n12) 0) 8).bind fun r16 =>
      some (Sum.inl (b8, b9, l10, n11, (IntKind.wrap .i64 (n12 + 1)), r16.1, false, r16.2.2))
     else none
    else none
   else none
  else
   some (Sum.inr (b13, b14, l15))
def lp_new_frame_Encode_0 (b8 : Bool) (b9 : Bool) (l10 : List Int) (n11 : Int) (n12 : Int) (b13 : Bool) (b14 : Bool) (l15 : List Int) : Option (((Bool × Bool × List Int))) := loopN (X := (Bool × Bool × List Int × Int × Int × Bool × Bool × List Int)) (fun x => st_new_frame_Encode_0 x.1 x.2.1 x.2.2.1 x.2.2.2.1 x.2.2.2.2.1 x.2.2.2.2.2.1 x.2.2.2.2.2.2.1 x.2.2.2.2.2.2.2) (b8, b9, l10, n11, n12, b13, b14, l15)
def sh_new_frame_Encode_0 : StSh := ⟨36, [(4, (.row 0)), (21, (.p (.isl .i64))), (22, (.p (.int .i64))), (23, (.p (.int .i64)))], [(.irow 5 .u8)]⟩
def sx_new_frame_Encode_0 (x : (Bool × Bool × List Int × Int × Int × Bool × Bool × List Int)) : St := ⟨slots 36 0 [(4, (.row 0)), (21, (.p (.isl x.1 x.2.1 .i64 x.2.2.1))), (22, (.p (.int .i64 x.2.2.2.1))), (23, (.p (.int .i64 x.2.2.2.2.1)))], [(.irow 5 .u8 x.2.2.2.2.2.1 x.2.2.2.2.2.2.1 x.2.2.2.2.2.2.2)]⟩
def sa_new_frame_Encode_0 (S : St) : (Bool × Bool × List Int × Int × Int × Bool × Bool × List Int) := (((tls 21 S.t).headD .any).pv.nl, ((tls 21 S.t).headD .any).pv.ex, ((tls 21 S.t).headD .any).pv.ints, ((tls 22 S.t).headD .any).pv.num, ((tls 23 S.t).headD .any).pv.num, ((tls 0 S.own).headD .gone).pvD.nl, ((tls 0 S.own).headD .gone).pvD.ex, ((tls 0 S.own).headD .gone).pvD.ints)
def tz_new_frame_Encode_0_0 : StSh := ⟨36, [(4, (.row 0))], [(.irow 5 .u8)]⟩
def tx_new_frame_Encode_0_0 (x : (Bool × Bool × List Int)) : St := ⟨slots 36 0 [(4, (.row 0))], [(.irow 5 .u8 x.1 x.2.1 x.2.2)]⟩
def ta_new_frame_Encode_0_0 (S : St) : (Bool × Bool × List Int) := (((tls 0 S.own).headD .gone).pvD.nl, ((tls 0 S.own).headD .gone).pvD.ex, ((tls 0 S.own).headD .gone).pvD.ints)
def kb_new_frame_Encode_0 : Exit → St → Tree (((Bool × Bool × List Int × Int × Int × Bool × Bool × List Int)) ⊕ (((Bool × Bool × List Int)))) := (exOne (.exit 0) [4] tz_new_frame_Encode_0_0 ta_new_frame_Encode_0_0 (fun y => Sum.inr (y)) exNil)
def ky_new_frame_Encode_0 : Dec (((Bool × Bool × List Int))) := fun _ y ke => ke ((.exit 0) : EK).ex (tx_new_frame_Encode_0_0 y)
theorem kk_new_frame_Encode_0 : ExOk Sum.inr kb_new_frame_Encode_0 ky_new_frame_Encode_0 := (ExOk.one (acc := ta_new_frame_Encode_0_0) (bY := tx_new_frame_Encode_0_0) (inj1 := fun y => y) (fun S => by kernel_rfl) (fun y _ ke => .inr (by kernel_rfl)) ExOk.nil)
def lm_new_frame_Encode : Lam := fun _ j S kn ke => match j with
  | 0 => prepT [4, 21, 22, 23] [] S fun S => .chk (sh_new_frame_Encode_0.ok S) (.bind (loopN (fun x => st_new_frame_Encode_0 x.1 x.2.1 x.2.2.1 x.2.2.2.1 x.2.2.2.2.1 x.2.2.2.2.2.1 x.2.2.2.2.2.2.1 x.2.2.2.2.2.2.2) (sa_new_frame_Encode_0 S)) fun y => ky_new_frame_Encode_0 _ y ke)
  | _ => .fail
theorem sr_new_frame_Encode_0 (x : (Bool × Bool × List Int × Int × Int × Bool × Bool × List Int)) : (ev GG gm_new_frame_Encode lm_new_frame_Encode xb_frame_Encode_0 (sx_new_frame_Encode_0 x) (fun S => forgetT [4, 21, 22, 23] S fun S => prepT [4, 21, 22, 23] [] S fun S => .chk (sh_new_frame_Encode_0.ok S) (.leaf (.inl (sa_new_frame_Encode_0 S)))) kb_new_frame_Encode_0).run = st_new_frame_Encode_0 x.1 x.2.1 x.2.2.1 x.2.2.2.1 x.2.2.2.2.1 x.2.2.2.2.2.1 x.2.2.2.2.2.2.1 x.2.2.2.2.2.2.2 := by kernel_rfl
theorem la_new_frame_Encode_0 : LamAt Tryd.prog GG lm_new_frame_Encode 0 (.loop [4, 21, 22, 23] xb_frame_Encode_0.erase) := lam_loop (body := xb_frame_Encode_0) (Λ' := lm_new_frame_Encode) gk_new_frame_Encode (⟨trivial, ⟨⟨trivial, trivial⟩, ⟨⟨trivial, trivial⟩, trivial⟩⟩⟩) (fun S => (by kernel_rfl : sh_new_frame_Encode_0.build S = sx_new_frame_Encode_0 (sa_new_frame_Encode_0 S))) kk_new_frame_Encode_0 sr_new_frame_Encode_0 (fun _ _ _ => rfl)
def go_new_frame_Encode (n0 : Int) (n1 : Int) (n2 : Int) (b3 : Bool) (b4 : Bool) (l5 : List Int) : Option (Bool × Bool × List Int × Int) :=
  (go_frame_Right n0 n1 n2 b3 b4 l5).bind fun r6 =>
  bif (!r6) then
   some (true, true, [], 1)
  else
   (go_frame_put false true [78, 86, (IntKind.wrap .u8 n0), (IntKind.wrap .u8 n2)] n1 4).bind fun r7 =>
   (lp_new_frame_Encode_0 b3 b4 l5 (((List.length l5) : Nat) : Int) 0 r7.1 false r7.2.2).bind fun y17 =>
   (go_sum_Of y17.1 y17.2.1 y17.2.2).bind fun r18 =>
   (go_frame_put y17.1 y17.2.1 y17.2.2 (IntKind.wrap .i64 r18) 4).bind fun r19 =>
   some (r19.1, false, r19.2.2, 0)
def em_new_frame_Encode (r : (Bool × Bool × List Int × Int)) : PV := (.tup [(.isl r.1 r.2.1 .u8 r.2.2.1), (.int .i64 r.2.2.2)])
def rh_new_frame_Encode : Shp := (.tup [(.isl .u8), (.int .i64)])
def ra_new_frame_Encode (v : PV) : (Bool × Bool × List Int × Int) := ((v.subs.headD .nilSl).nl, (v.subs.headD .nilSl).ex, (v.subs.headD .nilSl).ints, (v.subs.tail.headD .nilSl).num)
def kf_new_frame_Encode (v : PV) : Tree (Bool × Bool × List Int × Int) := .chk (rh_new_frame_Encode.ok v) (.leaf (ra_new_frame_Encode v))
theorem rn_new_frame_Encode (n0 : Int) (n1 : Int) (n2 : Int) (b3 : Bool) (b4 : Bool) (l5 : List Int) : (ev GG gm_new_frame_Encode lm_new_frame_Encode xr_frame_Encode ⟨slots 36 0 [(0, .p (.agg [(.int .i64 n0), (.int .i64 n1), (.int .i64 n2), (.isl b3 b4 .i64 l5)]))], []⟩ (fun S => newT Tryd.prog 5 rs_frame_Encode S kf_new_frame_Encode) (retN Tryd.prog 5 rs_frame_Encode kf_new_frame_Encode)).run = go_new_frame_Encode n0 n1 n2 b3 b4 l5 := by kernel_rfl
theorem ok_new_frame_Encode (n0 : Int) (n1 : Int) (n2 : Int) (b3 : Bool) (b4 : Bool) (l5 : List Int) (r : (Bool × Bool × List Int × Int)) (h : go_new_frame_Encode n0 n1 n2 b3 b4 l5 = some r) : FunNewT Tryd.prog GG (21 + 2000000) (.ref 5 [] :: [(.agg [(.int .i64 n0), (.int .i64 n1), (.int .i64 n2), (.isl b3 b4 .i64 l5)])]) (em_new_frame_Encode r) :=
  new_of_ev (x := xr_frame_Encode) (Λ := lm_new_frame_Encode) gk_new_frame_Encode [[4, 21, 22, 23]] Tryd.func21 rfl (by kernel_rfl) ir_frame_Encode (by kernel_rfl) (congrArg Array.toList Tryd.results21) Tryd.ntmps21 (⟨trivial, ⟨⟨trivial, ⟨⟨trivial, trivial⟩, trivial⟩⟩, ⟨trivial, ⟨⟨trivial, la_new_frame_Encode_0⟩, ⟨trivial, trivial⟩⟩⟩⟩⟩) (leaf_of fun v => (by kernel_rfl : rh_new_frame_Encode.build v = em_new_frame_Encode (ra_new_frame_Encode v))) ⟨_, _, _, _, _, rfl⟩ (by kernel_rfl) ((rn_new_frame_Encode n0 n1 n2 b3 b4 l5).trans h)
def as_new_frame_Encode : List Shp := [(.ref 5 []), (.agg [(.int .i64), (.int .i64), (.int .i64), (.isl .i64)])]
def ga_new_frame_Encode (vs : List PV) : Option (Bool × Bool × List Int × Int) := go_new_frame_Encode (((tls 1 vs).headD .nilSl).subs.headD .nilSl).num (((tls 1 vs).headD .nilSl).subs.tail.headD .nilSl).num (((tls 1 vs).headD .nilSl).subs.tail.tail.headD .nilSl).num (((tls 1 vs).headD .nilSl).subs.tail.tail.tail.headD .nilSl).nl (((tls 1 vs).headD .nilSl).subs.tail.tail.tail.headD .nilSl).ex (((tls 1 vs).headD .nilSl).subs.tail.tail.tail.headD .nilSl).ints
theorem at_new_frame_Encode : FnAt Tryd.prog GG 2000021 as_new_frame_Encode ga_new_frame_Encode em_new_frame_Encode := fun vs h r hr => by
  have e : Shp.buildL as_new_frame_Encode vs = [(.ref 5 []), (.agg [(.int .i64 (((tls 1 vs).headD .nilSl).subs.headD .nilSl).num), (.int .i64 (((tls 1 vs).headD .nilSl).subs.tail.headD .nilSl).num), (.int .i64 (((tls 1 vs).headD .nilSl).subs.tail.tail.headD .nilSl).num), (.isl (((tls 1 vs).headD .nilSl).subs.tail.tail.tail.headD .nilSl).nl (((tls 1 vs).headD .nilSl).subs.tail.tail.tail.headD .nilSl).ex .i64 (((tls 1 vs).headD .nilSl).subs.tail.tail.tail.headD .nilSl).ints)])] := by kernel_rfl
  rw [← Shp.buildL_eq _ h, e]
  exact .inr (.inr (ok_new_frame_Encode _ _ _ _ _ _ r hr))
def xb_frame_Decode_0 : XR := (.seq (.seq (.ops false [⟨⟨(some 68), (.mv (.tmp 7)), none⟩, none⟩, ⟨⟨(some 69), (.mv (.tmp 6)), none⟩, none⟩, ⟨⟨(some 70), (.bin .lss (.tmp 68) (.tmp 69)), none⟩, none⟩]) (.cond (.tmp 70) .skip (.exit 1))) (.seq (.block 2 (.ops true [⟨⟨(some 73), (.fldA 3 (.tmp 4)), none⟩, none⟩, ⟨⟨(some 74), (.ld false 1 (.tmp 73)), none⟩, (some (.isl .i64))⟩, ⟨⟨(some 75), (.mv (.tmp 0)), none⟩, none⟩, ⟨⟨(some 76), (.mv (.tmp 7)), none⟩, none⟩, ⟨⟨(some 77), (.mv (.tmp 7)), none⟩, none⟩, ⟨⟨(some 78), (.bin .add (.tmp 77) (.c (.int .i64 (8)))), none⟩, none⟩, ⟨⟨(some 79), (.slc 1 (.tmp 75) (some (.tmp 76)) (some (.tmp 78)) none), none⟩, none⟩, ⟨⟨(some 80), (.call (.func 53) [(.tmp 79)]), none⟩, none⟩, ⟨⟨(some 81), (.bsl 3 (some .i64) 1 [(.tmp 80)]), none⟩, none⟩, ⟨⟨(some 82), (.app 3 (some .i64) 1 8 (.tmp 74) (.tmp 81)), none⟩, none⟩, ⟨⟨(some 83), (.fldA 3 (.tmp 4)), none⟩, none⟩, ⟨⟨none, (.st 1 (.tmp 83) (.tmp 82)), none⟩, none⟩])) (.ops false [⟨⟨(some 71), (.mv (.tmp 7)), none⟩, none⟩, ⟨⟨(some 72), (.bin .add (.tmp 71) (.c (.int .i64 (8)))), none⟩, none⟩, ⟨⟨(some 7), (.mv (.tmp 72)), none⟩, none⟩])))
def xr_frame_Decode : XR := (.seq (.ops false [⟨⟨(some 2), (.alloc 24 [(.int .i64 (0)), (.int .i64 (0)), (.int .i64 (0)), (.isl true true .i64 [])]), none⟩, none⟩, ⟨⟨(some 3), (.mv (.c (.int .i64 (0)))), none⟩, none⟩]) (.seq (.seq (.ops false [⟨⟨(some 8), (.mv (.tmp 0)), none⟩, none⟩, ⟨⟨(some 9), (.len (.tmp 8)), none⟩, none⟩, ⟨⟨(some 10), (.bin .lss (.tmp 9) (.c (.int .i64 (12)))), none⟩, none⟩]) (.cond (.tmp 10) (.seq (.ops false [⟨⟨(some 11), (.build [(.int .i64 (0)), (.int .i64 (0)), (.int .i64 (0)), (.isl true true .i64 [])] []), none⟩, none⟩, ⟨⟨none, (.st 4 (.tmp 2) (.tmp 11)), none⟩, none⟩, ⟨⟨(some 3), (.mv (.c (.int .i64 (2)))), none⟩, none⟩]) .ret) .skip)) (.seq (.ops true [⟨⟨(some 12), (.mv (.tmp 0)), none⟩, none⟩, ⟨⟨(some 13), (.ixA 1 (.tmp 12) (.c (.int .i64 (2)))), none⟩, none⟩, ⟨⟨(some 14), (.ld false 1 (.tmp 13)), none⟩, (some (.int .u8))⟩, ⟨⟨(some 15), (.cvtI .i64 (.tmp 14)), none⟩, none⟩, ⟨⟨(some 16), (.mv (.tmp 0)), none⟩, none⟩, ⟨⟨(some 17), (.ixA 1 (.tmp 16) (.c (.int .i64 (3)))), none⟩, none⟩, ⟨⟨(some 18), (.ld false 1 (.tmp 17)), none⟩, (some (.int .u8))⟩, ⟨⟨(some 19), (.cvtI .i64 (.tmp 18)), none⟩, none⟩, ⟨⟨(some 20), (.mv (.tmp 0)), none⟩, none⟩, ⟨⟨(some 21), (.slc 1 (.tmp 20) (some (.c (.int .i64 (4)))) (some (.c (.int .i64 (8)))) none), none⟩, none⟩, ⟨⟨(some 22), (.call (.func 53) [(.tmp 21)]), none⟩, none⟩, ⟨⟨(some 23), (.build [(.int .i64 (0)), (.int .i64 (0)), (.int .i64 (0)), (.isl true true .i64 [])] [(0, (1, (.tmp 15))), (2, (1, (.tmp 19))), (1, (1, (.tmp 22)))]), none⟩, none⟩, ⟨⟨(some 4), (.alloc 24 [(.int .i64 (0)), (.int .i64 (0)), (.int .i64 (0)), (.isl true true .i64 [])]), none⟩, none⟩, ⟨⟨none, (.st 4 (.tmp 4) (.tmp 23)), none⟩, none⟩]) (.seq (.ops false [⟨⟨(some 24), (.fldA 0 (.tmp 4)), none⟩, none⟩, ⟨⟨(some 25), (.ld false 1 (.tmp 24)), none⟩, (some (.int .i64))⟩, ⟨⟨(some 26), (.fldA 2 (.tmp 4)), none⟩, none⟩, ⟨⟨(some 27), (.ld false 1 (.tmp 26)), none⟩, (some (.int .i64))⟩, ⟨⟨(some 28), (.call (.func 22) [(.tmp 25), (.tmp 27)]), none⟩, none⟩, ⟨⟨(some 5), (.mv (.tmp 28)), none⟩, none⟩]) (.seq (.ops false [⟨⟨(some 29), (.mv (.tmp 5)), none⟩, none⟩, ⟨⟨(some 30), (.bin .mul (.c (.int .i64 (8))) (.tmp 29)), none⟩, none⟩, ⟨⟨(some 31), (.bin .add (.c (.int .i64 (8))) (.tmp 30)), none⟩, none⟩, ⟨⟨(some 6), (.mv (.tmp 31)), none⟩, none⟩]) (.seq (.block 0 (.seq (.ops false [⟨⟨(some 33), (.mv (.tmp 0)), none⟩, none⟩, ⟨⟨(some 34), (.slc 1 (.tmp 33) none (some (.c (.int .i64 (2)))) none), none⟩, none⟩, ⟨⟨(some 35), (.cvtBS (.tmp 34)), none⟩, none⟩, ⟨⟨(some 36), (.binS .neq (.tmp 35) (.c (.str [(78), (86)]))), none⟩, none⟩, ⟨⟨(some 37), (.mv (.tmp 36)), none⟩, none⟩, ⟨⟨(some 38), (.mv (.tmp 5)), (some (37, false))⟩, none⟩, ⟨⟨(some 39), (.bin .eql (.tmp 38) (.c (.int .i64 (0)))), (some (37, false))⟩, none⟩, ⟨⟨(some 40), (.pick (.tmp 37) (.c (.bool true)) (.tmp 39)), none⟩, none⟩, ⟨⟨(some 32), (.mv (.tmp 40)), none⟩, none⟩]) (.cond (.tmp 32) (.seq (.ops false [⟨⟨(some 41), (.build [(.int .i64 (0)), (.int .i64 (0)), (.int .i64 (0)), (.isl true true .i64 [])] []), none⟩, none⟩, ⟨⟨none, (.st 4 (.tmp 2) (.tmp 41)), none⟩, none⟩, ⟨⟨(some 3), (.mv (.c (.int .i64 (4)))), none⟩, none⟩]) .ret) (.seq (.ops false [⟨⟨(some 43), (.mv (.tmp 0)), none⟩, none⟩, ⟨⟨(some 44), (.len (.tmp 43)), none⟩, none⟩, ⟨⟨(some 45), (.mv (.tmp 6)), none⟩, none⟩, ⟨⟨(some 46), (.bin .add (.tmp 45) (.c (.int .i64 (4)))), none⟩, none⟩, ⟨⟨(some 47), (.bin .lss (.tmp 44) (.tmp 46)), none⟩, none⟩, ⟨⟨(some 42), (.mv (.tmp 47)), none⟩, none⟩]) (.cond (.tmp 42) (.seq (.ops false [⟨⟨(some 48), (.build [(.int .i64 (0)), (.int .i64 (0)), (.int .i64 (0)), (.isl true true .i64 [])] []), none⟩, none⟩, ⟨⟨none, (.st 4 (.tmp 2) (.tmp 48)), none⟩, none⟩, ⟨⟨(some 3), (.mv (.c (.int .i64 (2)))), none⟩, none⟩]) .ret) (.seq (.ops false [⟨⟨(some 50), (.mv (.tmp 0)), none⟩, none⟩, ⟨⟨(some 51), (.len (.tmp 50)), none⟩, none⟩, ⟨⟨(some 52), (.mv (.tmp 6)), none⟩, none⟩, ⟨⟨(some 53), (.bin .add (.tmp 52) (.c (.int .i64 (4)))), none⟩, none⟩, ⟨⟨(some 54), (.bin .gtr (.tmp 51) (.tmp 53)), none⟩, none⟩, ⟨⟨(some 49), (.mv (.tmp 54)), none⟩, none⟩]) (.cond (.tmp 49) (.seq (.ops false [⟨⟨(some 55), (.build [(.int .i64 (0)), (.int .i64 (0)), (.int .i64 (0)), (.isl true true .i64 [])] []), none⟩, none⟩, ⟨⟨none, (.st 4 (.tmp 2) (.tmp 55)), none⟩, none⟩, ⟨⟨(some 3), (.mv (.c (.int .i64 (5)))), none⟩, none⟩]) .ret) (.seq (.ops true [⟨⟨(some 57), (.mv (.tmp 0)), none⟩, none⟩, ⟨⟨(some 58), (.mv (.tmp 6)), none⟩, none⟩, ⟨⟨(some 59), (.slc 1 (.tmp 57) (some (.tmp 58)) none none), none⟩, none⟩, ⟨⟨(some 60), (.call (.func 53) [(.tmp 59)]), none⟩, none⟩, ⟨⟨(some 61), (.mv (.tmp 0)), none⟩, none⟩, ⟨⟨(some 62), (.mv (.tmp 6)), none⟩, none⟩, ⟨⟨(some 63), (.slc 1 (.tmp 61) none (some (.tmp 62)) none), none⟩, none⟩, ⟨⟨(some 64), (.call (.func 48) [(.tmp 63)]), none⟩, none⟩, ⟨⟨(some 65), (.cvtI .i64 (.tmp 64)), none⟩, none⟩, ⟨⟨(some 66), (.bin .neq (.tmp 60) (.tmp 65)), none⟩, none⟩, ⟨⟨(some 56), (.mv (.tmp 66)), none⟩, none⟩]) (.cond (.tmp 56) (.seq (.ops false [⟨⟨(some 67), (.build [(.int .i64 (0)), (.int .i64 (0)), (.int .i64 (0)), (.isl true true .i64 [])] []), none⟩, none⟩, ⟨⟨none, (.st 4 (.tmp 2) (.tmp 67)), none⟩, none⟩, ⟨⟨(some 3), (.mv (.c (.int .i64 (6)))), none⟩, none⟩]) .ret) .skip))))))))) (.seq (.seq (.ops false [⟨⟨(some 7), (.mv (.c (.int .i64 (8)))), none⟩, none⟩]) (.block 1 (.loop 0 [0, 2, 4, 6, 7] xb_frame_Decode_0))) (.seq (.seq (.ops false [⟨⟨(some 84), (.ld true 4 (.tmp 4)), none⟩, (some (.agg [(.int .i64), (.int .i64), (.int .i64), (.isl .i64)]))⟩, ⟨⟨(some 85), (.call (.func 26) [(.tmp 84)]), none⟩, none⟩, ⟨⟨(some 86), (.un .not (.tmp 85)), none⟩, none⟩]) (.cond (.tmp 86) (.seq (.ops false [⟨⟨(some 87), (.build [(.int .i64 (0)), (.int .i64 (0)), (.int .i64 (0)), (.isl true true .i64 [])] []), none⟩, none⟩, ⟨⟨none, (.st 4 (.tmp 2) (.tmp 87)), none⟩, none⟩, ⟨⟨(some 3), (.mv (.c (.int .i64 (3)))), none⟩, none⟩]) .ret) .skip)) (.seq (.ops false [⟨⟨(some 88), (.ld true 4 (.tmp 4)), none⟩, (some (.agg [(.int .i64), (.int .i64), (.int .i64), (.isl .i64)]))⟩, ⟨⟨none, (.st 4 (.tmp 2) (.tmp 88)), none⟩, none⟩, ⟨⟨(some 3), (.mv (.c (.int .i64 (0)))), none⟩, none⟩]) .ret)))))))))
def rs_frame_Decode : List ResultVar := [(.cell 2 24), (.tmp 3)]
theorem ir_frame_Decode : compCode Tryd.prog (Tryd.f27.body.getD .skip) [[0, 2, 4, 6, 7]] = some (xr_frame_Decode.erase, []) := by kernel_rfl
def gm_frame_Decode : Gam := (Gam.fn 53 as_frame_get ga_frame_get em_frame_get (Gam.fn 22 as_frame_Many ga_frame_Many em_frame_Many (Gam.fn 48 as_sum_Of ga_sum_Of em_sum_Of (Gam.fn 26 as_frame_Right ga_frame_Right em_frame_Right Gam.bot))))
theorem gk_frame_Decode : GamOk Tryd.prog GG gm_frame_Decode := (GamOk.fn at_frame_get (GamOk.fn at_frame_Many (GamOk.fn at_sum_Of (GamOk.fn at_frame_Right GamOk.bot))))
def st_frame_Decode_0 (b7 : Bool) (b8 : Bool) (l9 : List Int) (n10 : Int) (n11 : Int) (n12 : Int) (n13 : Int) (n14 : Int) (b15 : Bool) (b16 : Bool) (l17 : List Int) (n18 : Int) (n19 : Int) (n20 : Int) (b21 : Bool) (b22 : Bool) (l23 : List Int) : Option (((Bool × Bool × List Int × Int × Int × Int × Int × Int × Bool × Bool × List Int × Int × Int × Int × Bool × Bool × List Int)) ⊕ (((Int × Int × Int × Bool × Bool × List Int × Int × Int × Int × Bool × Bool × List Int)))) :=
  bif (decide (n11 < n10)) then
   bif (decide (0 ≤ n11)) then
    bif (decide (n11 ≤ (IntKind.wrap .i64 (n11 + 8)))) then
     bif (decide ((IntKind.wrap .i64 (n11 + 8)) ≤ (((List.length l9) : Nat) : Int))) then
      (go_frame_get b7 false (List.take (Int.toNat ((IntKind.wrap .i64 (n11 + 8)) - n11)) (List.drop (Int.toNat n11) l9))).bind fun r24 =>
      bif (decide ((((List.length l23) + 1) * 8) ≤ 140737488355328)) then
       bif (decide (((List.length l23) + 1) ≤ 4611686018427387904)) then
        some (Sum.inl (b7, b8, l9, n10, (IntKind.wrap .i64 (n11 + 8)), n12, n13, n14, b15, b16, l17, n18, n19, n20, (b21 && false), false, (l23 ++ [r24])))
       else none
      else none
     else none
    else none
   else none
  else
   some (Sum.inr (n12, n13, n14, b15, b16, l17, n18, n19, n20, b21, b22, l23))
def lp_frame_Decode_0 (b7 : Bool) (b8 : Bool) (l9 : List Int) (n10 : Int) (n11 : Int) (n12 : Int) (n13 : Int) (n14 : Int) (b15 : Bool) (b16 : Bool) (l17 : List Int) (n18 : Int) (n19 : Int) (n20 : Int) (b21 : Bool) (b22 : Bool) (l23 : List Int) : Option (((Int × Int × Int × Bool × Bool × List Int × Int × Int × Int × Bool × Bool × List Int))) := loopN (X := (Bool × Bool × List Int × Int × Int × Int × Int × Int × Bool × Bool × List Int × Int × Int × Int × Bool × Bool × List Int)) (fun x => st_frame_Decode_0 x.1 x.2.1 x.2.2.1 x.2.2.2.1 x.2.2.2.2.1 x.2.2.2.2.2.1 x.2.2.2.2.2.2.1 x.2.2.2.2.2.2.2.1 x.2.2.2.2.2.2.2.2.1 x.2.2.2.2.2.2.2.2.2.1 x.2.2.2.2.2.2.2.2.2.2.1 x.2.2.2.2.2.2.2.2.2.2.2.1 x.2.2.2.2.2.2.2.2.2.2.2.2.1 x.2.2.2.2.2.2.2.2.2.2.2.2.2.1 x.2.2.2.2.2.2.2.2.2.2.2.2.2.2.1 x.2.2.2.2.2.2.2.2.2.2.2.2.2.2.2.1 x.2.2.2.2.2.2.2.2.2.2.2.2.2.2.2.2) (b7, b8, l9, n10, n11, n12, n13, n14, b15, b16, l17, n18, n19, n20, b21, b22, l23)
def sh_frame_Decode_0 : StSh := ⟨89, [(0, (.p (.isl .u8))), (2, (.ptr 0 0)), (4, (.ptr 1 0)), (6, (.p (.int .i64))), (7, (.p (.int .i64)))], [(.box 24 [(.p (.int .i64)), (.p (.int .i64)), (.p (.int .i64)), (.p (.isl .i64))]), (.box 24 [(.p (.int .i64)), (.p (.int .i64)), (.p (.int .i64)), (.row 2)]), (.irow 3 .i64)]⟩
def sx_frame_Decode_0 (x : (Bool × Bool × List Int × Int × Int × Int × Int × Int × Bool × Bool × List Int × Int × Int × Int × Bool × Bool × List Int)) : St := ⟨slots 89 0 [(0, (.p (.isl x.1 x.2.1 .u8 x.2.2.1))), (2, (.ptr 0 0)), (4, (.ptr 1 0)), (6, (.p (.int .i64 x.2.2.2.1))), (7, (.p (.int .i64 x.2.2.2.2.1)))], [(.box 24 [(.p (.int .i64 x.2.2.2.2.2.1)), (.p (.int .i64 x.2.2.2.2.2.2.1)), (.p (.int .i64 x.2.2.2.2.2.2.2.1)), (.p (.isl x.2.2.2.2.2.2.2.2.1 x.2.2.2.2.2.2.2.2.2.1 .i64 x.2.2.2.2.2.2.2.2.2.2.1))]), (.box 24 [(.p (.int .i64 x.2.2.2.2.2.2.2.2.2.2.2.1)), (.p (.int .i64 x.2.2.2.2.2.2.2.2.2.2.2.2.1)), (.p (.int .i64 x.2.2.2.2.2.2.2.2.2.2.2.2.2.1)), (.row 2)]), (.irow 3 .i64 x.2.2.2.2.2.2.2.2.2.2.2.2.2.2.1 x.2.2.2.2.2.2.2.2.2.2.2.2.2.2.2.1 x.2.2.2.2.2.2.2.2.2.2.2.2.2.2.2.2)]⟩
def sa_frame_Decode_0 (S : St) : (Bool × Bool × List Int × Int × Int × Int × Int × Int × Bool × Bool × List Int × Int × Int × Int × Bool × Bool × List Int) := (((tls 0 S.t).headD .any).pv.nl, ((tls 0 S.t).headD .any).pv.ex, ((tls 0 S.t).headD .any).pv.ints, ((tls 6 S.t).headD .any).pv.num, ((tls 7 S.t).headD .any).pv.num, (((tls 0 S.own).headD .gone).subs.headD .any).pv.num, (((tls 0 S.own).headD .gone).subs.tail.headD .any).pv.num, (((tls 0 S.own).headD .gone).subs.tail.tail.headD .any).pv.num, (((tls 0 S.own).headD .gone).subs.tail.tail.tail.headD .any).pv.nl, (((tls 0 S.own).headD .gone).subs.tail.tail.tail.headD .any).pv.ex, (((tls 0 S.own).headD .gone).subs.tail.tail.tail.headD .any).pv.ints, (((tls 1 S.own).headD .gone).subs.headD .any).pv.num, (((tls 1 S.own).headD .gone).subs.tail.headD .any).pv.num, (((tls 1 S.own).headD .gone).subs.tail.tail.headD .any).pv.num, ((tls 2 S.own).headD .gone).pvD.nl, ((tls 2 S.own).headD .gone).pvD.ex, ((tls 2 S.own).headD .gone).pvD.ints)
def tz_frame_Decode_0_0 : StSh := ⟨89, [(2, (.ptr 0 0)), (4, (.ptr 1 0))], [(.box 24 [(.p (.int .i64)), (.p (.int .i64)), (.p (.int .i64)), (.p (.isl .i64))]), (.box 24 [(.p (.int .i64)), (.p (.int .i64)), (.p (.int .i64)), (.row 2)]), (.irow 3 .i64)]⟩
def tx_frame_Decode_0_0 (x : (Int × Int × Int × Bool × Bool × List Int × Int × Int × Int × Bool × Bool × List Int)) : St := ⟨slots 89 0 [(2, (.ptr 0 0)), (4, (.ptr 1 0))], [(.box 24 [(.p (.int .i64 x.1)), (.p (.int .i64 x.2.1)), (.p (.int .i64 x.2.2.1)), (.p (.isl x.2.2.2.1 x.2.2.2.2.1 .i64 x.2.2.2.2.2.1))]), (.box 24 [(.p (.int .i64 x.2.2.2.2.2.2.1)), (.p (.int .i64 x.2.2.2.2.2.2.2.1)), (.p (.int .i64 x.2.2.2.2.2.2.2.2.1)), (.row 2)]), (.irow 3 .i64 x.2.2.2.2.2.2.2.2.2.1 x.2.2.2.2.2.2.2.2.2.2.1 x.2.2.2.2.2.2.2.2.2.2.2)]⟩
def ta_frame_Decode_0_0 (S : St) : (Int × Int × Int × Bool × Bool × List Int × Int × Int × Int × Bool × Bool × List Int) := ((((tls 0 S.own).headD .gone).subs.headD .any).pv.num, (((tls 0 S.own).headD .gone).subs.tail.headD .any).pv.num, (((tls 0 S.own).headD .gone).subs.tail.tail.headD .any).pv.num, (((tls 0 S.own).headD .gone).subs.tail.tail.tail.headD .any).pv.nl, (((tls 0 S.own).headD .gone).subs.tail.tail.tail.headD .any).pv.ex, (((tls 0 S.own).headD .gone).subs.tail.tail.tail.headD .any).pv.ints, (((tls 1 S.own).headD .gone).subs.headD .any).pv.num, (((tls 1 S.own).headD .gone).subs.tail.headD .any).pv.num, (((tls 1 S.own).headD .gone).subs.tail.tail.headD .any).pv.num, ((tls 2 S.own).headD .gone).pvD.nl, ((tls 2 S.own).headD .gone).pvD.ex, ((tls 2 S.own).headD .gone).pvD.ints)
def kb_frame_Decode_0 : Exit → St → Tree (((Bool × Bool × List Int × Int × Int × Int × Int × Int × Bool × Bool × List Int × Int × Int × Int × Bool × Bool × List Int)) ⊕ (((Int × Int × Int × Bool × Bool × List Int × Int × Int × Int × Bool × Bool × List Int)))) := (exOne (.exit 1) [2, 4] tz_frame_Decode_0_0 ta_frame_Decode_0_0 (fun y => Sum.inr (y)) exNil)
def ky_frame_Decode_0 : Dec (((Int × Int × Int × Bool × Bool × List Int × Int × Int × Int × Bool × Bool × List Int))) := fun _ y ke => ke ((.exit 1) : EK).ex (tx_frame_Decode_0_0 y)
theorem kk_frame_Decode_0 : ExOk Sum.inr kb_frame_Decode_0 ky_frame_Decode_0 := (ExOk.one (acc := ta_frame_Decode_0_0) (bY := tx_frame_Decode_0_0) (inj1 := fun y => y) (fun S => by kernel_rfl) (fun y _ ke => .inr (by kernel_rfl)) ExOk.nil)
def lm_frame_Decode : Lam := fun _ j S kn ke => match j with
  | 0 => prepT [0, 2, 4, 6, 7] [(100403, 3)] S fun S => .chk (sh_frame_Decode_0.ok S) (.bind (loopN (fun x => st_frame_Decode_0 x.1 x.2.1 x.2.2.1 x.2.2.2.1 x.2.2.2.2.1 x.2.2.2.2.2.1 x.2.2.2.2.2.2.1 x.2.2.2.2.2.2.2.1 x.2.2.2.2.2.2.2.2.1 x.2.2.2.2.2.2.2.2.2.1 x.2.2.2.2.2.2.2.2.2.2.1 x.2.2.2.2.2.2.2.2.2.2.2.1 x.2.2.2.2.2.2.2.2.2.2.2.2.1 x.2.2.2.2.2.2.2.2.2.2.2.2.2.1 x.2.2.2.2.2.2.2.2.2.2.2.2.2.2.1 x.2.2.2.2.2.2.2.2.2.2.2.2.2.2.2.1 x.2.2.2.2.2.2.2.2.2.2.2.2.2.2.2.2) (sa_frame_Decode_0 S)) fun y => ky_frame_Decode_0 _ y ke)
  | _ => .fail
theorem sr_frame_Decode_0 (x : (Bool × Bool × List Int × Int × Int × Int × Int × Int × Bool × Bool × List Int × Int × Int × Int × Bool × Bool × List Int)) : (ev GG gm_frame_Decode lm_frame_Decode xb_frame_Decode_0 (sx_frame_Decode_0 x) (fun S => forgetT [0, 2, 4, 6, 7] S fun S => prepT [0, 2, 4, 6, 7] [(100403, 3)] S fun S => .chk (sh_frame_Decode_0.ok S) (.leaf (.inl (sa_frame_Decode_0 S)))) kb_frame_Decode_0).run = st_frame_Decode_0 x.1 x.2.1 x.2.2.1 x.2.2.2.1 x.2.2.2.2.1 x.2.2.2.2.2.1 x.2.2.2.2.2.2.1 x.2.2.2.2.2.2.2.1 x.2.2.2.2.2.2.2.2.1 x.2.2.2.2.2.2.2.2.2.1 x.2.2.2.2.2.2.2.2.2.2.1 x.2.2.2.2.2.2.2.2.2.2.2.1 x.2.2.2.2.2.2.2.2.2.2.2.2.1 x.2.2.2.2.2.2.2.2.2.2.2.2.2.1 x.2.2.2.2.2.2.2.2.2.2.2.2.2.2.1 x.2.2.2.2.2.2.2.2.2.2.2.2.2.2.2.1 x.2.2.2.2.2.2.2.2.2.2.2.2.2.2.2.2 := by kernel_rfl
theorem la_frame_Decode_0 : LamAt Tryd.prog GG lm_frame_Decode 0 (.loop [0, 2, 4, 6, 7] xb_frame_Decode_0.erase) := lam_loop (body := xb_frame_Decode_0) (Λ' := lm_frame_Decode) gk_frame_Decode (⟨⟨trivial, ⟨trivial, trivial⟩⟩, ⟨trivial, trivial⟩⟩) (fun S => (by kernel_rfl : sh_frame_Decode_0.build S = sx_frame_Decode_0 (sa_frame_Decode_0 S))) kk_frame_Decode_0 sr_frame_Decode_0 (fun _ _ _ => rfl)
def go_frame_Decode (b0 : Bool) (b1 : Bool) (l2 : List Int) : Option (Int × Int × Int × Bool × Bool × List Int × Int) :=
  bif (decide ((((List.length l2) : Nat) : Int) < 12)) then
   some (0, 0, 0, true, true, [], 2)
  else
   bif (decide (2 < (((List.length l2) : Nat) : Int))) then
    bif (decide (2 < (List.length l2))) then
     bif (decide (3 < (((List.length l2) : Nat) : Int))) then
      bif (decide (3 < (List.length l2))) then
       bif (decide (8 ≤ (((List.length l2) : Nat) : Int))) then
        (go_frame_get b0 false (List.take 4 (List.drop 4 l2))).bind fun r3 =>
        (go_frame_Many (IntKind.wrap .i64 (List.getD l2 2 0)) (IntKind.wrap .i64 (List.getD l2 3 0))).bind fun r4 =>
        bif (decide (2 ≤ (((List.length l2) : Nat) : Int))) then
         bif (List.all (List.take 2 (List.drop 0 l2)) (fun x27 => (decide ((0 ≤ x27) ∧ (x27 < 256))))) then
          bif (!((List.take 2 (List.drop 0 l2)) == [78, 86])) then
           some (0, 0, 0, true, true, [], 4)
          else
           bif (r4 == 0) then
            some (0, 0, 0, true, true, [], 4)
           else
            bif (decide ((((List.length l2) : Nat) : Int) < (IntKind.wrap .i64 ((IntKind.wrap .i64 (8 + (IntKind.wrap .i64 (8 * r4)))) + 4)))) then
             some (0, 0, 0, true, true, [], 2)
            else
             bif (decide ((((List.length l2) : Nat) : Int) > (IntKind.wrap .i64 ((IntKind.wrap .i64 (8 + (IntKind.wrap .i64 (8 * r4)))) + 4)))) then
              some (0, 0, 0, true, true, [], 5)
             else
              bif (decide (0 ≤ (IntKind.wrap .i64 (8 + (IntKind.wrap .i64 (8 * r4)))))) then
               bif (decide ((IntKind.wrap .i64 (8 + (IntKind.wrap .i64 (8 * r4)))) ≤ (((List.length l2) : Nat) : Int))) then
                bif (decide ((((List.length l2) : Nat) : Int) ≤ (((List.length l2) : Nat) : Int))) then
                 (go_frame_get b0 b1 (List.take (Int.toNat ((((List.length l2) : Nat) : Int) - (IntKind.wrap .i64 (8 + (IntKind.wrap .i64 (8 * r4)))))) (List.drop (Int.toNat (IntKind.wrap .i64 (8 + (IntKind.wrap .i64 (8 * r4))))) l2))).bind fun r5 =>
                 bif (decide (0 ≤ (IntKind.wrap .i64 (8 + (IntKind.wrap .i64 (8 * r4)))))) then
                  bif (decide ((IntKind.wrap .i64 (8 + (IntKind.wrap .i64 (8 * r4)))) ≤ (((List.length l2) : Nat) : Int))) then
                   (go_sum_Of b0 false (List.take (Int.toNat ((IntKind.wrap .i64 (8 + (IntKind.wrap .i64 (8 * r4)))) - 0)) (List.drop 0 l2))).bind fun r6 =>
                   bif (r5 != (IntKind.wrap .i64 r6)) then
                    some (0, 0, 0, true, true, [], 6)
                   else
                    (lp_frame_Decode_0 b0 b1 l2 (IntKind.wrap .i64 (8 + (IntKind.wrap .i64 (8 * r4)))) 8 0 0 0 true true [] (IntKind.wrap .i64 (List.getD l2 2 0)) r3 (IntKind.wrap .i64 (List.getD l2 3 0)) true true []).bind fun y25 =>
                    (go_frame_Right y25.2.2.2.2.2.2.1 y25.2.2.2.2.2.2.2.1 y25.2.2.2.2.2.2.2.2.1 y25.2.2.2.2.2.2.2.2.2.1 y25.2.2.2.2.2.2.2.2.2.2.1 y25.2.2.2.2.2.2.2.2.2.2.2).bind fun r26 =>
                    bif (!r26) then
                     some (0, 0, 0, true, true, [], 3)
                    else
                     some (y25.2.2.2.2.2.2.1, y25.2.2.2.2.2.2.2.1, y25.2.2.2.2.2.2.2.2.1, y25.2.2.2.2.2.2.2.2.2.1, y25.2.2.2.2.2.2.2.2.2.2.1, y25.2.2.2.2.2.2.2.2.2.2.2, 0)
                  else none
                 else none
                else none
               else none
              else none
         else none
        else none
       else none
      else none
     else none
    else none
   else none
def em_frame_Decode (r : (Int × Int × Int × Bool × Bool × List Int × Int)) : PV := (.tup [(.agg [(.int .i64 r.1), (.int .i64 r.2.1), (.int .i64 r.2.2.1), (.isl r.2.2.2.1 r.2.2.2.2.1 .i64 r.2.2.2.2.2.1)]), (.int .i64 r.2.2.2.2.2.2)])
def rh_frame_Decode : Shp := (.tup [(.agg [(.int .i64), (.int .i64), (.int .i64), (.isl .i64)]), (.int .i64)])
def ra_frame_Decode (v : PV) : (Int × Int × Int × Bool × Bool × List Int × Int) := (((v.subs.headD .nilSl).subs.headD .nilSl).num, ((v.subs.headD .nilSl).subs.tail.headD .nilSl).num, ((v.subs.headD .nilSl).subs.tail.tail.headD .nilSl).num, ((v.subs.headD .nilSl).subs.tail.tail.tail.headD .nilSl).nl, ((v.subs.headD .nilSl).subs.tail.tail.tail.headD .nilSl).ex, ((v.subs.headD .nilSl).subs.tail.tail.tail.headD .nilSl).ints, (v.subs.tail.headD .nilSl).num)
def kf_frame_Decode (v : PV) : Tree (Int × Int × Int × Bool × Bool × List Int × Int) := .chk (rh_frame_Decode.ok v) (.leaf (ra_frame_Decode v))
theorem rn_frame_Decode (b0 : Bool) (b1 : Bool) (l2 : List Int) : (ev GG gm_frame_Decode lm_frame_Decode xr_frame_Decode ⟨slots 89 0 [(0, .p (.isl b0 b1 .u8 l2))], []⟩ (fun S => finT Tryd.prog rs_frame_Decode S kf_frame_Decode) (retT Tryd.prog rs_frame_Decode kf_frame_Decode)).run = go_frame_Decode b0 b1 l2 := by kernel_rfl
theorem ok_frame_Decode (b0 : Bool) (b1 : Bool) (l2 : List Int) (r : (Int × Int × Int × Bool × Bool × List Int × Int)) (h : go_frame_Decode b0 b1 l2 = some r) : FunEq Tryd.prog GG 27 [(.isl b0 b1 .u8 l2)] (em_frame_Decode r) :=
  fun_of_ev (x := xr_frame_Decode) (Λ := lm_frame_Decode) gk_frame_Decode [[0, 2, 4, 6, 7]] Tryd.func27 rfl (by kernel_rfl) ir_frame_Decode (by kernel_rfl) (congrArg Array.toList Tryd.results27) Tryd.ntmps27 (⟨trivial, ⟨⟨trivial, ⟨⟨trivial, trivial⟩, trivial⟩⟩, ⟨trivial, ⟨trivial, ⟨trivial, ⟨⟨trivial, ⟨⟨trivial, trivial⟩, ⟨trivial, ⟨⟨trivial, trivial⟩, ⟨trivial, ⟨⟨trivial, trivial⟩, ⟨trivial, ⟨⟨trivial, trivial⟩, trivial⟩⟩⟩⟩⟩⟩⟩⟩, ⟨⟨trivial, la_frame_Decode_0⟩, ⟨⟨trivial, ⟨⟨trivial, trivial⟩, trivial⟩⟩, ⟨trivial, trivial⟩⟩⟩⟩⟩⟩⟩⟩⟩) (leaf_of fun v => (by kernel_rfl : rh_frame_Decode.build v = em_frame_Decode (ra_frame_Decode v))) (by kernel_rfl) ((rn_frame_Decode b0 b1 l2).trans h)
def xr_frame_Same : XR := (.seq (.ops false [⟨⟨(some 2), (.box 24 (.tmp 0)), none⟩, none⟩, ⟨⟨(some 3), (.box 24 (.tmp 1)), none⟩, none⟩, ⟨⟨(some 4), (.mv (.c (.bool false))), none⟩, none⟩]) (.seq (.ops false [⟨⟨(some 5), (.fldA 0 (.tmp 2)), none⟩, none⟩, ⟨⟨(some 6), (.ld false 1 (.tmp 5)), none⟩, (some (.int .i64))⟩, ⟨⟨(some 7), (.fldA 0 (.tmp 3)), none⟩, none⟩, ⟨⟨(some 8), (.ld false 1 (.tmp 7)), none⟩, (some (.int .i64))⟩, ⟨⟨(some 9), (.bin .eql (.tmp 6) (.tmp 8)), none⟩, none⟩, ⟨⟨(some 10), (.mv (.tmp 9)), none⟩, none⟩, ⟨⟨(some 11), (.fldA 1 (.tmp 2)), (some (10, true))⟩, none⟩, ⟨⟨(some 12), (.ld false 1 (.tmp 11)), (some (10, true))⟩, (some (.int .i64))⟩, ⟨⟨(some 13), (.fldA 1 (.tmp 3)), (some (10, true))⟩, none⟩, ⟨⟨(some 14), (.ld false 1 (.tmp 13)), (some (10, true))⟩, (some (.int .i64))⟩, ⟨⟨(some 15), (.bin .eql (.tmp 12) (.tmp 14)), (some (10, true))⟩, none⟩, ⟨⟨(some 16), (.pick (.tmp 10) (.tmp 15) (.c (.bool false))), none⟩, none⟩, ⟨⟨(some 17), (.mv (.tmp 16)), none⟩, none⟩, ⟨⟨(some 18), (.fldA 2 (.tmp 2)), (some (17, true))⟩, none⟩, ⟨⟨(some 19), (.ld false 1 (.tmp 18)), (some (17, true))⟩, (some (.int .i64))⟩, ⟨⟨(some 20), (.fldA 2 (.tmp 3)), (some (17, true))⟩, none⟩, ⟨⟨(some 21), (.ld false 1 (.tmp 20)), (some (17, true))⟩, (some (.int .i64))⟩, ⟨⟨(some 22), (.bin .eql (.tmp 19) (.tmp 21)), (some (17, true))⟩, none⟩, ⟨⟨(some 23), (.pick (.tmp 17) (.tmp 22) (.c (.bool false))), none⟩, none⟩, ⟨⟨(some 24), (.mv (.tmp 23)), none⟩, none⟩, ⟨⟨(some 25), (.fldA 3 (.tmp 2)), (some (24, true))⟩, none⟩, ⟨⟨(some 26), (.ld false 1 (.tmp 25)), (some (24, true))⟩, (some (.isl .i64))⟩, ⟨⟨(some 27), (.fldA 3 (.tmp 3)), (some (24, true))⟩, none⟩, ⟨⟨(some 28), (.ld false 1 (.tmp 27)), (some (24, true))⟩, (some (.isl .i64))⟩, ⟨⟨(some 29), (.call (.func 56) [(.tmp 26), (.tmp 28)]), (some (24, true))⟩, none⟩, ⟨⟨(some 30), (.pick (.tmp 24) (.tmp 29) (.c (.bool false))), none⟩, none⟩, ⟨⟨(some 4), (.mv (.tmp 30)), none⟩, none⟩]) .ret))
def rs_frame_Same : List ResultVar := [(.tmp 4)]
theorem ir_frame_Same : compCode Tryd.prog (Tryd.f29.body.getD .skip) [] = some (xr_frame_Same.erase, []) := by kernel_rfl
def gm_frame_Same : Gam := (Gam.fn 56 as_slices_Equal__int_int ga_slices_Equal__int_int em_slices_Equal__int_int Gam.bot)
theorem gk_frame_Same : GamOk Tryd.prog GG gm_frame_Same := (GamOk.fn at_slices_Equal__int_int GamOk.bot)
def lm_frame_Same : Lam := fun _ j S kn ke => match j with
  | _ => .fail
def go_frame_Same (n0 : Int) (n1 : Int) (n2 : Int) (b3 : Bool) (b4 : Bool) (l5 : List Int) (n6 : Int) (n7 : Int) (n8 : Int) (b9 : Bool) (b10 : Bool) (l11 : List Int) : Option Bool :=
  bif (n0 == n6) then
   bif (n1 == n7) then
    bif (n2 == n8) then
     (go_slices_Equal__int_int b3 b4 l5 b9 b10 l11).bind fun r12 =>
     some r12
    else
     some false
   else
    some false
  else
   some false
def em_frame_Same (r : Bool) : PV := (.bool r)
def rh_frame_Same : Shp := .bool
def ra_frame_Same (v : PV) : Bool := v.tru
def kf_frame_Same (v : PV) : Tree Bool := .chk (rh_frame_Same.ok v) (.leaf (ra_frame_Same v))
theorem rn_frame_Same (n0 : Int) (n1 : Int) (n2 : Int) (b3 : Bool) (b4 : Bool) (l5 : List Int) (n6 : Int) (n7 : Int) (n8 : Int) (b9 : Bool) (b10 : Bool) (l11 : List Int) : (ev GG gm_frame_Same lm_frame_Same xr_frame_Same ⟨slots 31 0 [(0, .p (.agg [(.int .i64 n0), (.int .i64 n1), (.int .i64 n2), (.isl b3 b4 .i64 l5)])), (1, .p (.agg [(.int .i64 n6), (.int .i64 n7), (.int .i64 n8), (.isl b9 b10 .i64 l11)]))], []⟩ (fun S => finT Tryd.prog rs_frame_Same S kf_frame_Same) (retT Tryd.prog rs_frame_Same kf_frame_Same)).run = go_frame_Same n0 n1 n2 b3 b4 l5 n6 n7 n8 b9 b10 l11 := by kernel_rfl
theorem ok_frame_Same (n0 : Int) (n1 : Int) (n2 : Int) (b3 : Bool) (b4 : Bool) (l5 : List Int) (n6 : Int) (n7 : Int) (n8 : Int) (b9 : Bool) (b10 : Bool) (l11 : List Int) (r : Bool) (h : go_frame_Same n0 n1 n2 b3 b4 l5 n6 n7 n8 b9 b10 l11 = some r) : FunEq Tryd.prog GG 29 [(.agg [(.int .i64 n0), (.int .i64 n1), (.int .i64 n2), (.isl b3 b4 .i64 l5)]), (.agg [(.int .i64 n6), (.int .i64 n7), (.int .i64 n8), (.isl b9 b10 .i64 l11)])] (em_frame_Same r) :=
  fun_of_ev (x := xr_frame_Same) (Λ := lm_frame_Same) gk_frame_Same [] Tryd.func29 rfl (by kernel_rfl) ir_frame_Same (by kernel_rfl) (congrArg Array.toList Tryd.results29) Tryd.ntmps29 (⟨trivial, ⟨trivial, trivial⟩⟩) (leaf_of fun v => (by kernel_rfl : rh_frame_Same.build v = em_frame_Same (ra_frame_Same v))) (by kernel_rfl) ((rn_frame_Same n0 n1 n2 b3 b4 l5 n6 n7 n8 b9 b10 l11).trans h)
def as_frame_Same : List Shp := [(.agg [(.int .i64), (.int .i64), (.int .i64), (.isl .i64)]), (.agg [(.int .i64), (.int .i64), (.int .i64), (.isl .i64)])]
def ga_frame_Same (vs : List PV) : Option Bool := go_frame_Same (((tls 0 vs).headD .nilSl).subs.headD .nilSl).num (((tls 0 vs).headD .nilSl).subs.tail.headD .nilSl).num (((tls 0 vs).headD .nilSl).subs.tail.tail.headD .nilSl).num (((tls 0 vs).headD .nilSl).subs.tail.tail.tail.headD .nilSl).nl (((tls 0 vs).headD .nilSl).subs.tail.tail.tail.headD .nilSl).ex (((tls 0 vs).headD .nilSl).subs.tail.tail.tail.headD .nilSl).ints (((tls 1 vs).headD .nilSl).subs.headD .nilSl).num (((tls 1 vs).headD .nilSl).subs.tail.headD .nilSl).num (((tls 1 vs).headD .nilSl).subs.tail.tail.headD .nilSl).num (((tls 1 vs).headD .nilSl).subs.tail.tail.tail.headD .nilSl).nl (((tls 1 vs).headD .nilSl).subs.tail.tail.tail.headD .nilSl).ex (((tls 1 vs).headD .nilSl).subs.tail.tail.tail.headD .nilSl).ints
theorem at_frame_Same : FnAt Tryd.prog GG 29 as_frame_Same ga_frame_Same em_frame_Same := fun vs h r hr => by
  have e : Shp.buildL as_frame_Same vs = [(.agg [(.int .i64 (((tls 0 vs).headD .nilSl).subs.headD .nilSl).num), (.int .i64 (((tls 0 vs).headD .nilSl).subs.tail.headD .nilSl).num), (.int .i64 (((tls 0 vs).headD .nilSl).subs.tail.tail.headD .nilSl).num), (.isl (((tls 0 vs).headD .nilSl).subs.tail.tail.tail.headD .nilSl).nl (((tls 0 vs).headD .nilSl).subs.tail.tail.tail.headD .nilSl).ex .i64 (((tls 0 vs).headD .nilSl).subs.tail.tail.tail.headD .nilSl).ints)]), (.agg [(.int .i64 (((tls 1 vs).headD .nilSl).subs.headD .nilSl).num), (.int .i64 (((tls 1 vs).headD .nilSl).subs.tail.headD .nilSl).num), (.int .i64 (((tls 1 vs).headD .nilSl).subs.tail.tail.headD .nilSl).num), (.isl (((tls 1 vs).headD .nilSl).subs.tail.tail.tail.headD .nilSl).nl (((tls 1 vs).headD .nilSl).subs.tail.tail.tail.headD .nilSl).ex .i64 (((tls 1 vs).headD .nilSl).subs.tail.tail.tail.headD .nilSl).ints)])] := by kernel_rfl
  rw [← Shp.buildL_eq _ h, e]
  exact .inl ⟨by decide, ok_frame_Same _ _ _ _ _ _ _ _ _ _ _ _ r hr⟩
def xr_coupletref12_Many : XR := (.seq (.ops false [⟨⟨(some 4), (.mv (.c (.int .i64 (0)))), none⟩, none⟩]) (.seq (.seq (.ops false [⟨⟨(some 5), (.mv (.tmp 1)), none⟩, none⟩, ⟨⟨(some 6), (.bin .lss (.tmp 5) (.c (.int .i64 (1)))), none⟩, none⟩, ⟨⟨(some 7), (.mv (.tmp 6)), none⟩, none⟩, ⟨⟨(some 8), (.mv (.tmp 1)), (some (7, false))⟩, none⟩, ⟨⟨(some 9), (.bin .gtr (.tmp 8) (.c (.int .i64 (4)))), (some (7, false))⟩, none⟩, ⟨⟨(some 10), (.pick (.tmp 7) (.c (.bool true)) (.tmp 9)), none⟩, none⟩, ⟨⟨(some 11), (.mv (.tmp 10)), none⟩, none⟩, ⟨⟨(some 12), (.mv (.tmp 0)), (some (11, false))⟩, none⟩, ⟨⟨(some 13), (.bin .lss (.tmp 12) (.c (.int .i64 (1)))), (some (11, false))⟩, none⟩, ⟨⟨(some 14), (.pick (.tmp 11) (.c (.bool true)) (.tmp 13)), none⟩, none⟩, ⟨⟨(some 15), (.mv (.tmp 14)), none⟩, none⟩, ⟨⟨(some 16), (.mv (.tmp 0)), (some (15, false))⟩, none⟩, ⟨⟨(some 17), (.bin .gtr (.tmp 16) (.c (.int .i64 (3)))), (some (15, false))⟩, none⟩, ⟨⟨(some 18), (.pick (.tmp 15) (.c (.bool true)) (.tmp 17)), none⟩, none⟩]) (.cond (.tmp 18) (.seq (.ops false [⟨⟨(some 4), (.mv (.c (.int .i64 (0)))), none⟩, none⟩]) .ret) .skip)) (.seq (.ops false [⟨⟨(some 19), (.mv (.tmp 1)), none⟩, none⟩, ⟨⟨(some 20), (.mv (.tmp 1)), none⟩, none⟩, ⟨⟨(some 21), (.mv (.tmp 1)), none⟩, none⟩, ⟨⟨(some 22), (.bin .mul (.tmp 20) (.tmp 21)), none⟩, none⟩, ⟨⟨(some 23), (.bin .add (.tmp 19) (.tmp 22)), none⟩, none⟩, ⟨⟨(some 24), (.mv (.tmp 1)), none⟩, none⟩, ⟨⟨(some 25), (.bin .mul (.c (.int .i64 (2))) (.tmp 24)), none⟩, none⟩, ⟨⟨(some 26), (.mv (.tmp 1)), none⟩, none⟩, ⟨⟨(some 27), (.bin .mul (.tmp 25) (.tmp 26)), none⟩, none⟩, ⟨⟨(some 28), (.mv (.tmp 1)), none⟩, none⟩, ⟨⟨(some 29), (.bin .add (.tmp 28) (.c (.int .i64 (2)))), none⟩, none⟩, ⟨⟨(some 30), (.bsl 3 (some .i64) 1 [(.tmp 23), (.tmp 27), (.tmp 29)]), none⟩, none⟩, ⟨⟨(some 31), (.mv (.tmp 0)), none⟩, none⟩, ⟨⟨(some 32), (.bin .sub (.tmp 31) (.c (.int .i64 (1)))), none⟩, none⟩, ⟨⟨(some 33), (.ixA 1 (.tmp 30) (.tmp 32)), none⟩, none⟩, ⟨⟨(some 34), (.ld false 1 (.tmp 33)), none⟩, (some (.int .i64))⟩, ⟨⟨(some 4), (.mv (.tmp 34)), none⟩, none⟩]) .ret)))
def rs_coupletref12_Many : List ResultVar := [(.tmp 4)]
theorem ir_coupletref12_Many : compCode Tryd.prog (Tryd.f23.body.getD .skip) [] = some (xr_coupletref12_Many.erase, []) := by kernel_rfl
def gm_coupletref12_Many : Gam := Gam.bot
theorem gk_coupletref12_Many : GamOk Tryd.prog GG gm_coupletref12_Many := GamOk.bot
def lm_coupletref12_Many : Lam := fun _ j S kn ke => match j with
  | _ => .fail
def go_coupletref12_Many (n0 : Int) (n1 : Int) : Option Int :=
  bif (decide (n1 < 1)) then
   some 0
  else
   bif (decide (n1 > 4)) then
    some 0
   else
    bif (decide (n0 < 1)) then
     some 0
    else
     bif (decide (n0 > 3)) then
      some 0
     else
      bif (decide (0 ≤ (IntKind.wrap .i64 (n0 - 1)))) then
       bif (decide ((IntKind.wrap .i64 (n0 - 1)) < ((3 : Nat) : Int))) then
        bif (decide ((Int.toNat (IntKind.wrap .i64 (n0 - 1))) < 3)) then
         some (List.getD [(IntKind.wrap .i64 (n1 + (IntKind.wrap .i64 (n1 * n1)))), (IntKind.wrap .i64 ((IntKind.wrap .i64 (2 * n1)) * n1)), (IntKind.wrap .i64 (n1 + 2))] (Int.toNat (IntKind.wrap .i64 (n0 - 1))) 0)
        else none
       else none
      else none
def em_coupletref12_Many (r : Int) : PV := (.int .i64 r)
def rh_coupletref12_Many : Shp := (.int .i64)
def ra_coupletref12_Many (v : PV) : Int := v.num
def kf_coupletref12_Many (v : PV) : Tree Int := .chk (rh_coupletref12_Many.ok v) (.leaf (ra_coupletref12_Many v))
theorem rn_coupletref12_Many (n0 : Int) (n1 : Int) : (ev GG gm_coupletref12_Many lm_coupletref12_Many xr_coupletref12_Many ⟨slots 35 0 [(0, .p (.int .i64 n0)), (1, .p (.int .i64 n1))], []⟩ (fun S => finT Tryd.prog rs_coupletref12_Many S kf_coupletref12_Many) (retT Tryd.prog rs_coupletref12_Many kf_coupletref12_Many)).run = go_coupletref12_Many n0 n1 := by kernel_rfl
theorem ok_coupletref12_Many (n0 : Int) (n1 : Int) (r : Int) (h : go_coupletref12_Many n0 n1 = some r) : FunEq Tryd.prog GG 23 [(.int .i64 n0), (.int .i64 n1)] (em_coupletref12_Many r) :=
  fun_of_ev (x := xr_coupletref12_Many) (Λ := lm_coupletref12_Many) gk_coupletref12_Many [] Tryd.func23 rfl (by kernel_rfl) ir_coupletref12_Many (by kernel_rfl) (congrArg Array.toList Tryd.results23) Tryd.ntmps23 (⟨trivial, ⟨⟨trivial, ⟨⟨trivial, trivial⟩, trivial⟩⟩, ⟨trivial, trivial⟩⟩⟩) (leaf_of fun v => (by kernel_rfl : rh_coupletref12_Many.build v = em_coupletref12_Many (ra_coupletref12_Many v))) (by kernel_rfl) ((rn_coupletref12_Many n0 n1).trans h)
def as_coupletref12_Many : List Shp := [(.int .i64), (.int .i64)]
def ga_coupletref12_Many (vs : List PV) : Option Int := go_coupletref12_Many ((tls 0 vs).headD .nilSl).num ((tls 1 vs).headD .nilSl).num
theorem at_coupletref12_Many : FnAt Tryd.prog GG 23 as_coupletref12_Many ga_coupletref12_Many em_coupletref12_Many := fun vs h r hr => by
  have e : Shp.buildL as_coupletref12_Many vs = [(.int .i64 ((tls 0 vs).headD .nilSl).num), (.int .i64 ((tls 1 vs).headD .nilSl).num)] := by kernel_rfl
  rw [← Shp.buildL_eq _ h, e]
  exact .inl ⟨by decide, ok_coupletref12_Many _ _ r hr⟩
def xr_coupletlaw12_Given : XR := (.seq (.ops false [⟨⟨(some 1), (.box 24 (.tmp 0)), none⟩, none⟩, ⟨⟨(some 2), (.alloc 32 [(.int .i64 (0)), (.int .i64 (0)), (.int .i64 (0)), (.isl true true .i64 [])]), none⟩, none⟩]) (.seq (.ops false [⟨⟨(some 3), (.fldA 0 (.tmp 1)), none⟩, none⟩, ⟨⟨(some 4), (.ld false 1 (.tmp 3)), none⟩, (some (.int .i64))⟩, ⟨⟨(some 5), (.fldA 1 (.tmp 1)), none⟩, none⟩, ⟨⟨(some 6), (.ld false 1 (.tmp 5)), none⟩, (some (.int .i64))⟩, ⟨⟨(some 7), (.fldA 2 (.tmp 1)), none⟩, none⟩, ⟨⟨(some 8), (.ld false 1 (.tmp 7)), none⟩, (some (.int .i64))⟩, ⟨⟨(some 9), (.fldA 3 (.tmp 1)), none⟩, none⟩, ⟨⟨(some 10), (.ld false 1 (.tmp 9)), none⟩, (some (.isl .i64))⟩, ⟨⟨(some 11), (.build [(.int .i64 (0)), (.int .i64 (0)), (.int .i64 (0)), (.isl true true .i64 [])] [(0, (1, (.tmp 4))), (1, (1, (.tmp 6))), (2, (1, (.tmp 8))), (3, (1, (.tmp 10)))]), none⟩, none⟩, ⟨⟨none, (.st 4 (.tmp 2) (.tmp 11)), none⟩, none⟩]) .ret))
def rs_coupletlaw12_Given : List ResultVar := [(.cell 2 32)]
theorem ir_coupletlaw12_Given : compCode Tryd.prog (Tryd.f25.body.getD .skip) [] = some (xr_coupletlaw12_Given.erase, []) := by kernel_rfl
def gm_coupletlaw12_Given : Gam := Gam.bot
theorem gk_coupletlaw12_Given : GamOk Tryd.prog GG gm_coupletlaw12_Given := GamOk.bot
def lm_coupletlaw12_Given : Lam := fun _ j S kn ke => match j with
  | _ => .fail
def go_coupletlaw12_Given (n0 : Int) (n1 : Int) (n2 : Int) (b3 : Bool) (b4 : Bool) (l5 : List Int) : Option (Int × Int × Int × Bool × Bool × List Int) :=
  some (n0, n1, n2, b3, b4, l5)
def em_coupletlaw12_Given (r : (Int × Int × Int × Bool × Bool × List Int)) : PV := (.agg [(.int .i64 r.1), (.int .i64 r.2.1), (.int .i64 r.2.2.1), (.isl r.2.2.2.1 r.2.2.2.2.1 .i64 r.2.2.2.2.2)])
def rh_coupletlaw12_Given : Shp := (.agg [(.int .i64), (.int .i64), (.int .i64), (.isl .i64)])
def ra_coupletlaw12_Given (v : PV) : (Int × Int × Int × Bool × Bool × List Int) := ((v.subs.headD .nilSl).num, (v.subs.tail.headD .nilSl).num, (v.subs.tail.tail.headD .nilSl).num, (v.subs.tail.tail.tail.headD .nilSl).nl, (v.subs.tail.tail.tail.headD .nilSl).ex, (v.subs.tail.tail.tail.headD .nilSl).ints)
def kf_coupletlaw12_Given (v : PV) : Tree (Int × Int × Int × Bool × Bool × List Int) := .chk (rh_coupletlaw12_Given.ok v) (.leaf (ra_coupletlaw12_Given v))
theorem rn_coupletlaw12_Given (n0 : Int) (n1 : Int) (n2 : Int) (b3 : Bool) (b4 : Bool) (l5 : List Int) : (ev GG gm_coupletlaw12_Given lm_coupletlaw12_Given xr_coupletlaw12_Given ⟨slots 12 0 [(0, .p (.agg [(.int .i64 n0), (.int .i64 n1), (.int .i64 n2), (.isl b3 b4 .i64 l5)]))], []⟩ (fun S => finT Tryd.prog rs_coupletlaw12_Given S kf_coupletlaw12_Given) (retT Tryd.prog rs_coupletlaw12_Given kf_coupletlaw12_Given)).run = go_coupletlaw12_Given n0 n1 n2 b3 b4 l5 := by kernel_rfl
theorem ok_coupletlaw12_Given (n0 : Int) (n1 : Int) (n2 : Int) (b3 : Bool) (b4 : Bool) (l5 : List Int) (r : (Int × Int × Int × Bool × Bool × List Int)) (h : go_coupletlaw12_Given n0 n1 n2 b3 b4 l5 = some r) : FunEq Tryd.prog GG 25 [(.agg [(.int .i64 n0), (.int .i64 n1), (.int .i64 n2), (.isl b3 b4 .i64 l5)])] (em_coupletlaw12_Given r) :=
  fun_of_ev (x := xr_coupletlaw12_Given) (Λ := lm_coupletlaw12_Given) gk_coupletlaw12_Given [] Tryd.func25 rfl (by kernel_rfl) ir_coupletlaw12_Given (by kernel_rfl) (congrArg Array.toList Tryd.results25) Tryd.ntmps25 (⟨trivial, ⟨trivial, trivial⟩⟩) (leaf_of fun v => (by kernel_rfl : rh_coupletlaw12_Given.build v = em_coupletlaw12_Given (ra_coupletlaw12_Given v))) (by kernel_rfl) ((rn_coupletlaw12_Given n0 n1 n2 b3 b4 l5).trans h)
def as_coupletlaw12_Given : List Shp := [(.agg [(.int .i64), (.int .i64), (.int .i64), (.isl .i64)])]
def ga_coupletlaw12_Given (vs : List PV) : Option (Int × Int × Int × Bool × Bool × List Int) := go_coupletlaw12_Given (((tls 0 vs).headD .nilSl).subs.headD .nilSl).num (((tls 0 vs).headD .nilSl).subs.tail.headD .nilSl).num (((tls 0 vs).headD .nilSl).subs.tail.tail.headD .nilSl).num (((tls 0 vs).headD .nilSl).subs.tail.tail.tail.headD .nilSl).nl (((tls 0 vs).headD .nilSl).subs.tail.tail.tail.headD .nilSl).ex (((tls 0 vs).headD .nilSl).subs.tail.tail.tail.headD .nilSl).ints
theorem at_coupletlaw12_Given : FnAt Tryd.prog GG 25 as_coupletlaw12_Given ga_coupletlaw12_Given em_coupletlaw12_Given := fun vs h r hr => by
  have e : Shp.buildL as_coupletlaw12_Given vs = [(.agg [(.int .i64 (((tls 0 vs).headD .nilSl).subs.headD .nilSl).num), (.int .i64 (((tls 0 vs).headD .nilSl).subs.tail.headD .nilSl).num), (.int .i64 (((tls 0 vs).headD .nilSl).subs.tail.tail.headD .nilSl).num), (.isl (((tls 0 vs).headD .nilSl).subs.tail.tail.tail.headD .nilSl).nl (((tls 0 vs).headD .nilSl).subs.tail.tail.tail.headD .nilSl).ex .i64 (((tls 0 vs).headD .nilSl).subs.tail.tail.tail.headD .nilSl).ints)])] := by kernel_rfl
  rw [← Shp.buildL_eq _ h, e]
  exact .inl ⟨by decide, ok_coupletlaw12_Given _ _ _ _ _ _ r hr⟩
def xb_coupletref12_Right_0 : XR := (.seq (.seq (.ops false [⟨⟨(some 31), (.mv (.tmp 3)), none⟩, none⟩, ⟨⟨(some 32), (.fldA 3 (.tmp 1)), none⟩, none⟩, ⟨⟨(some 33), (.ld false 1 (.tmp 32)), none⟩, (some (.isl .i64))⟩, ⟨⟨(some 34), (.len (.tmp 33)), none⟩, none⟩, ⟨⟨(some 35), (.bin .lss (.tmp 31) (.tmp 34)), none⟩, none⟩]) (.cond (.tmp 35) .skip (.exit 0))) (.seq (.block 1 (.seq (.ops false [⟨⟨(some 38), (.fldA 3 (.tmp 1)), none⟩, none⟩, ⟨⟨(some 39), (.ld false 1 (.tmp 38)), none⟩, (some (.isl .i64))⟩, ⟨⟨(some 40), (.mv (.tmp 3)), none⟩, none⟩, ⟨⟨(some 41), (.ixA 1 (.tmp 39) (.tmp 40)), none⟩, none⟩, ⟨⟨(some 42), (.ld false 1 (.tmp 41)), none⟩, (some (.int .i64))⟩, ⟨⟨(some 43), (.call (.func 49) [(.tmp 42)]), none⟩, none⟩, ⟨⟨(some 44), (.un .not (.tmp 43)), none⟩, none⟩]) (.cond (.tmp 44) (.seq (.ops false [⟨⟨(some 2), (.mv (.c (.bool false))), none⟩, none⟩]) .ret) .skip))) (.ops false [⟨⟨(some 36), (.mv (.tmp 3)), none⟩, none⟩, ⟨⟨(some 37), (.bin .add (.tmp 36) (.c (.int .i64 (1)))), none⟩, none⟩, ⟨⟨(some 3), (.mv (.tmp 37)), none⟩, none⟩])))
def xr_coupletref12_Right : XR := (.seq (.ops false [⟨⟨(some 1), (.box 32 (.tmp 0)), none⟩, none⟩, ⟨⟨(some 2), (.mv (.c (.bool false))), none⟩, none⟩]) (.seq (.seq (.ops true [⟨⟨(some 4), (.fldA 0 (.tmp 1)), none⟩, none⟩, ⟨⟨(some 5), (.ld false 1 (.tmp 4)), none⟩, (some (.int .i64))⟩, ⟨⟨(some 6), (.fldA 2 (.tmp 1)), none⟩, none⟩, ⟨⟨(some 7), (.ld false 1 (.tmp 6)), none⟩, (some (.int .i64))⟩, ⟨⟨(some 8), (.call (.func 23) [(.tmp 5), (.tmp 7)]), none⟩, none⟩, ⟨⟨(some 9), (.bin .eql (.tmp 8) (.c (.int .i64 (0)))), none⟩, none⟩, ⟨⟨(some 10), (.mv (.tmp 9)), none⟩, none⟩, ⟨⟨(some 11), (.fldA 0 (.tmp 1)), (some (10, false))⟩, none⟩, ⟨⟨(some 12), (.ld false 1 (.tmp 11)), (some (10, false))⟩, (some (.int .i64))⟩, ⟨⟨(some 13), (.fldA 2 (.tmp 1)), (some (10, false))⟩, none⟩, ⟨⟨(some 14), (.ld false 1 (.tmp 13)), (some (10, false))⟩, (some (.int .i64))⟩, ⟨⟨(some 15), (.call (.func 23) [(.tmp 12), (.tmp 14)]), (some (10, false))⟩, none⟩, ⟨⟨(some 16), (.fldA 3 (.tmp 1)), (some (10, false))⟩, none⟩, ⟨⟨(some 17), (.ld false 1 (.tmp 16)), (some (10, false))⟩, (some (.isl .i64))⟩, ⟨⟨(some 18), (.len (.tmp 17)), (some (10, false))⟩, none⟩, ⟨⟨(some 19), (.bin .neq (.tmp 15) (.tmp 18)), (some (10, false))⟩, none⟩, ⟨⟨(some 20), (.pick (.tmp 10) (.c (.bool true)) (.tmp 19)), none⟩, none⟩, ⟨⟨(some 21), (.mv (.tmp 20)), none⟩, none⟩, ⟨⟨(some 22), (.fldA 1 (.tmp 1)), (some (21, false))⟩, none⟩, ⟨⟨(some 23), (.ld false 1 (.tmp 22)), (some (21, false))⟩, (some (.int .i64))⟩, ⟨⟨(some 24), (.bin .lss (.tmp 23) (.c (.int .i64 (0)))), (some (21, false))⟩, none⟩, ⟨⟨(some 25), (.pick (.tmp 21) (.c (.bool true)) (.tmp 24)), none⟩, none⟩, ⟨⟨(some 26), (.mv (.tmp 25)), none⟩, none⟩, ⟨⟨(some 27), (.fldA 1 (.tmp 1)), (some (26, false))⟩, none⟩, ⟨⟨(some 28), (.ld false 1 (.tmp 27)), (some (26, false))⟩, (some (.int .i64))⟩, ⟨⟨(some 29), (.bin .gtr (.tmp 28) (.c (.int .i64 (4294967295)))), (some (26, false))⟩, none⟩, ⟨⟨(some 30), (.pick (.tmp 26) (.c (.bool true)) (.tmp 29)), none⟩, none⟩]) (.cond (.tmp 30) (.seq (.ops false [⟨⟨(some 2), (.mv (.c (.bool false))), none⟩, none⟩]) .ret) .skip)) (.seq (.seq (.ops false [⟨⟨(some 3), (.mv (.c (.int .i64 (0)))), none⟩, none⟩]) (.block 0 (.loop 0 [1, 3] xb_coupletref12_Right_0))) (.seq (.ops false [⟨⟨(some 2), (.mv (.c (.bool true))), none⟩, none⟩]) .ret))))
def rs_coupletref12_Right : List ResultVar := [(.tmp 2)]
theorem ir_coupletref12_Right : compCode Tryd.prog (Tryd.f24.body.getD .skip) [[1, 3]] = some (xr_coupletref12_Right.erase, []) := by kernel_rfl
def gm_coupletref12_Right : Gam := (Gam.fn 23 as_coupletref12_Many ga_coupletref12_Many em_coupletref12_Many (Gam.fn 49 as_coupletref02_Right ga_coupletref02_Right em_coupletref02_Right Gam.bot))
theorem gk_coupletref12_Right : GamOk Tryd.prog GG gm_coupletref12_Right := (GamOk.fn at_coupletref12_Many (GamOk.fn at_coupletref02_Right GamOk.bot))
def st_coupletref12_Right_0 (n8 : Int) (n9 : Int) (n10 : Int) (n11 : Int) (b12 : Bool) (b13 : Bool) (l14 : List Int) : Option (((Int × Int × Int × Int × Bool × Bool × List Int)) ⊕ ((Unit) ⊕ (Bool))) :=
  bif (decide (n8 < (((List.length l14) : Nat) : Int))) then
   bif (decide (0 ≤ n8)) then
    bif (decide (n8 < (((List.length l14) : Nat) : Int))) then
     bif (decide ((Int.toNat n8) < (List.length l14))) then
      (go_coupletref02_Right (List.getD l14 (Int.toNat n8) 0)).bind fun r15 =>
      bif (!r15) then
       some (Sum.inr (Sum.inr false))
      else
       some (Sum.inl ((IntKind.wrap .i64 (n8 + 1)), n9, n10, n11, b12, b13, l14))
     else none
    else none
   else none
  else
   some (Sum.inr (Sum.inl ()))
def lp_coupletref12_Right_0 (n8 : Int) (n9 : Int) (n10 : Int) (n11 : Int) (b12 : Bool) (b13 : Bool) (l14 : List Int) : Option ((Unit) ⊕ (Bool)) := loopN (X := (Int × Int × Int × Int × Bool × Bool × List Int)) (fun x => st_coupletref12_Right_0 x.1 x.2.1 x.2.2.1 x.2.2.2.1 x.2.2.2.2.1 x.2.2.2.2.2.1 x.2.2.2.2.2.2) (n8, n9, n10, n11, b12, b13, l14)
def sh_coupletref12_Right_0 : StSh := ⟨45, [(1, (.ptr 0 0)), (3, (.p (.int .i64)))], [(.box 32 [(.p (.int .i64)), (.p (.int .i64)), (.p (.int .i64)), (.p (.isl .i64))])]⟩
def sx_coupletref12_Right_0 (x : (Int × Int × Int × Int × Bool × Bool × List Int)) : St := ⟨slots 45 0 [(1, (.ptr 0 0)), (3, (.p (.int .i64 x.1)))], [(.box 32 [(.p (.int .i64 x.2.1)), (.p (.int .i64 x.2.2.1)), (.p (.int .i64 x.2.2.2.1)), (.p (.isl x.2.2.2.2.1 x.2.2.2.2.2.1 .i64 x.2.2.2.2.2.2))])]⟩
def sa_coupletref12_Right_0 (S : St) : (Int × Int × Int × Int × Bool × Bool × List Int) := (((tls 3 S.t).headD .any).pv.num, (((tls 0 S.own).headD .gone).subs.headD .any).pv.num, (((tls 0 S.own).headD .gone).subs.tail.headD .any).pv.num, (((tls 0 S.own).headD .gone).subs.tail.tail.headD .any).pv.num, (((tls 0 S.own).headD .gone).subs.tail.tail.tail.headD .any).pv.nl, (((tls 0 S.own).headD .gone).subs.tail.tail.tail.headD .any).pv.ex, (((tls 0 S.own).headD .gone).subs.tail.tail.tail.headD .any).pv.ints)
def tz_coupletref12_Right_0_1 : StSh := ⟨45, [(2, (.p .bool))], []⟩
def tx_coupletref12_Right_0_1 (x : Bool) : St := ⟨slots 45 0 [(2, (.p (.bool x)))], []⟩
def ta_coupletref12_Right_0_1 (S : St) : Bool := ((tls 2 S.t).headD .any).pv.tru
def tz_coupletref12_Right_0_0 : StSh := ⟨45, [], []⟩
def tx_coupletref12_Right_0_0 (x : Unit) : St := ⟨slots 45 0 [], []⟩
def ta_coupletref12_Right_0_0 (S : St) : Unit := ()
def kb_coupletref12_Right_0 : Exit → St → Tree (((Int × Int × Int × Int × Bool × Bool × List Int)) ⊕ ((Unit) ⊕ (Bool))) := (exOne (.exit 0) [] tz_coupletref12_Right_0_0 ta_coupletref12_Right_0_0 (fun y => Sum.inr ((Sum.inl y))) (exOne .ret [2] tz_coupletref12_Right_0_1 ta_coupletref12_Right_0_1 (fun y => Sum.inr ((Sum.inr y))) exNil))
def ky_coupletref12_Right_0 : Dec ((Unit) ⊕ (Bool)) := fun _ y ke => .sum y (fun a => ke ((.exit 0) : EK).ex (tx_coupletref12_Right_0_0 a)) (fun y' => ke (.ret : EK).ex (tx_coupletref12_Right_0_1 y'))
theorem kk_coupletref12_Right_0 : ExOk Sum.inr kb_coupletref12_Right_0 ky_coupletref12_Right_0 := (ExOk.one (acc := ta_coupletref12_Right_0_0) (bY := tx_coupletref12_Right_0_0) (inj1 := fun y => (Sum.inl y)) (fun S => by kernel_rfl) (fun y _ ke => .inr (by kernel_rfl)) (ExOk.one (acc := ta_coupletref12_Right_0_1) (bY := tx_coupletref12_Right_0_1) (inj1 := fun y => (Sum.inr y)) (fun S => by kernel_rfl) (fun y _ ke => .inr (by kernel_rfl)) ExOk.nil))
def lm_coupletref12_Right : Lam := fun _ j S kn ke => match j with
  | 0 => prepT [1, 3] [] S fun S => .chk (sh_coupletref12_Right_0.ok S) (.bind (loopN (fun x => st_coupletref12_Right_0 x.1 x.2.1 x.2.2.1 x.2.2.2.1 x.2.2.2.2.1 x.2.2.2.2.2.1 x.2.2.2.2.2.2) (sa_coupletref12_Right_0 S)) fun y => ky_coupletref12_Right_0 _ y ke)
  | _ => .fail
theorem sr_coupletref12_Right_0 (x : (Int × Int × Int × Int × Bool × Bool × List Int)) : (ev GG gm_coupletref12_Right lm_coupletref12_Right xb_coupletref12_Right_0 (sx_coupletref12_Right_0 x) (fun S => forgetT [1, 3] S fun S => prepT [1, 3] [] S fun S => .chk (sh_coupletref12_Right_0.ok S) (.leaf (.inl (sa_coupletref12_Right_0 S)))) kb_coupletref12_Right_0).run = st_coupletref12_Right_0 x.1 x.2.1 x.2.2.1 x.2.2.2.1 x.2.2.2.2.1 x.2.2.2.2.2.1 x.2.2.2.2.2.2 := by kernel_rfl
theorem la_coupletref12_Right_0 : LamAt Tryd.prog GG lm_coupletref12_Right 0 (.loop [1, 3] xb_coupletref12_Right_0.erase) := lam_loop (body := xb_coupletref12_Right_0) (Λ' := lm_coupletref12_Right) gk_coupletref12_Right (⟨⟨trivial, ⟨trivial, trivial⟩⟩, ⟨⟨trivial, ⟨⟨trivial, trivial⟩, trivial⟩⟩, trivial⟩⟩) (fun S => (by kernel_rfl : sh_coupletref12_Right_0.build S = sx_coupletref12_Right_0 (sa_coupletref12_Right_0 S))) kk_coupletref12_Right_0 sr_coupletref12_Right_0 (fun _ _ _ => rfl)
def go_coupletref12_Right (n0 : Int) (n1 : Int) (n2 : Int) (b3 : Bool) (b4 : Bool) (l5 : List Int) : Option Bool :=
  (go_coupletref12_Many n0 n2).bind fun r6 =>
  bif (r6 == 0) then
   some false
  else
   (go_coupletref12_Many n0 n2).bind fun r7 =>
   bif (r7 != (((List.length l5) : Nat) : Int)) then
    some false
   else
    bif (decide (n1 < 0)) then
     some false
    else
     bif (decide (n1 > 4294967295)) then
      some false
     else
      (lp_coupletref12_Right_0 0 n0 n1 n2 b3 b4 l5).bind fun y16 =>
      Sum.elim (fun z17 =>
       some true) (fun z18 =>
       some z18) y16
def em_coupletref12_Right (r : Bool) : PV := (.bool r)
def rh_coupletref12_Right : Shp := .bool
def ra_coupletref12_Right (v : PV) : Bool := v.tru
def kf_coupletref12_Right (v : PV) : Tree Bool := .chk (rh_coupletref12_Right.ok v) (.leaf (ra_coupletref12_Right v))
theorem rn_coupletref12_Right (n0 : Int) (n1 : Int) (n2 : Int) (b3 : Bool) (b4 : Bool) (l5 : List Int) : (ev GG gm_coupletref12_Right lm_coupletref12_Right xr_coupletref12_Right ⟨slots 45 0 [(0, .p (.agg [(.int .i64 n0), (.int .i64 n1), (.int .i64 n2), (.isl b3 b4 .i64 l5)]))], []⟩ (fun S => finT Tryd.prog rs_coupletref12_Right S kf_coupletref12_Right) (retT Tryd.prog rs_coupletref12_Right kf_coupletref12_Right)).run = go_coupletref12_Right n0 n1 n2 b3 b4 l5 := by kernel_rfl
theorem ok_coupletref12_Right (n0 : Int) (n1 : Int) (n2 : Int) (b3 : Bool) (b4 : Bool) (l5 : List Int) (r : Bool) (h : go_coupletref12_Right n0 n1 n2 b3 b4 l5 = some r) : FunEq Tryd.prog GG 24 [(.agg [(.int .i64 n0), (.int .i64 n1), (.int .i64 n2), (.isl b3 b4 .i64 l5)])] (em_coupletref12_Right r) :=
  fun_of_ev (x := xr_coupletref12_Right) (Λ := lm_coupletref12_Right) gk_coupletref12_Right [[1, 3]] Tryd.func24 rfl (by kernel_rfl) ir_coupletref12_Right (by kernel_rfl) (congrArg Array.toList Tryd.results24) Tryd.ntmps24 (⟨trivial, ⟨⟨trivial, ⟨⟨trivial, trivial⟩, trivial⟩⟩, ⟨⟨trivial, la_coupletref12_Right_0⟩, ⟨trivial, trivial⟩⟩⟩⟩) (leaf_of fun v => (by kernel_rfl : rh_coupletref12_Right.build v = em_coupletref12_Right (ra_coupletref12_Right v))) (by kernel_rfl) ((rn_coupletref12_Right n0 n1 n2 b3 b4 l5).trans h)
def as_coupletref12_Right : List Shp := [(.agg [(.int .i64), (.int .i64), (.int .i64), (.isl .i64)])]
def ga_coupletref12_Right (vs : List PV) : Option Bool := go_coupletref12_Right (((tls 0 vs).headD .nilSl).subs.headD .nilSl).num (((tls 0 vs).headD .nilSl).subs.tail.headD .nilSl).num (((tls 0 vs).headD .nilSl).subs.tail.tail.headD .nilSl).num (((tls 0 vs).headD .nilSl).subs.tail.tail.tail.headD .nilSl).nl (((tls 0 vs).headD .nilSl).subs.tail.tail.tail.headD .nilSl).ex (((tls 0 vs).headD .nilSl).subs.tail.tail.tail.headD .nilSl).ints
theorem at_coupletref12_Right : FnAt Tryd.prog GG 24 as_coupletref12_Right ga_coupletref12_Right em_coupletref12_Right := fun vs h r hr => by
  have e : Shp.buildL as_coupletref12_Right vs = [(.agg [(.int .i64 (((tls 0 vs).headD .nilSl).subs.headD .nilSl).num), (.int .i64 (((tls 0 vs).headD .nilSl).subs.tail.headD .nilSl).num), (.int .i64 (((tls 0 vs).headD .nilSl).subs.tail.tail.headD .nilSl).num), (.isl (((tls 0 vs).headD .nilSl).subs.tail.tail.tail.headD .nilSl).nl (((tls 0 vs).headD .nilSl).subs.tail.tail.tail.headD .nilSl).ex .i64 (((tls 0 vs).headD .nilSl).subs.tail.tail.tail.headD .nilSl).ints)])] := by kernel_rfl
  rw [← Shp.buildL_eq _ h, e]
  exact .inl ⟨by decide, ok_coupletref12_Right _ _ _ _ _ _ r hr⟩
def xb_coupletref12_bytes_0 : XR := (.seq (.seq (.ops false [⟨⟨(some 7), (.mv (.tmp 6)), none⟩, none⟩, ⟨⟨(some 8), (.mv (.tmp 1)), none⟩, none⟩, ⟨⟨(some 9), (.bin .lss (.tmp 7) (.tmp 8)), none⟩, none⟩]) (.cond (.tmp 9) .skip (.exit 0))) (.seq (.block 1 (.seq (.ops false [⟨⟨(some 12), (.mv (.tmp 5)), none⟩, none⟩, ⟨⟨(some 13), (.mv (.tmp 0)), none⟩, none⟩, ⟨⟨(some 14), (.bin .rem (.tmp 13) (.c (.int .u64 (256)))), none⟩, none⟩, ⟨⟨(some 15), (.cvtI .u8 (.tmp 14)), none⟩, none⟩, ⟨⟨(some 16), (.bsl 5 (some .u8) 1 [(.tmp 15)]), none⟩, none⟩, ⟨⟨(some 17), (.app 5 (some .u8) 1 1 (.tmp 12) (.tmp 16)), none⟩, none⟩, ⟨⟨(some 5), (.mv (.tmp 17)), none⟩, none⟩]) (.ops false [⟨⟨(some 18), (.mv (.tmp 0)), none⟩, none⟩, ⟨⟨(some 19), (.bin .quo (.tmp 18) (.c (.int .u64 (256)))), none⟩, none⟩, ⟨⟨(some 0), (.mv (.tmp 19)), none⟩, none⟩]))) (.ops false [⟨⟨(some 10), (.mv (.tmp 6)), none⟩, none⟩, ⟨⟨(some 11), (.bin .add (.tmp 10) (.c (.int .i64 (1)))), none⟩, none⟩, ⟨⟨(some 6), (.mv (.tmp 11)), none⟩, none⟩])))
def xr_coupletref12_bytes : XR := (.seq (.ops false [⟨⟨(some 4), (.mv (.c (.isl true true .u8 []))), none⟩, none⟩]) (.seq (.ops false [⟨⟨(some 5), (.mv (.c (.isl true true .u8 []))), none⟩, none⟩]) (.seq (.seq (.ops false [⟨⟨(some 6), (.mv (.c (.int .i64 (0)))), none⟩, none⟩]) (.block 0 (.loop 0 [0, 1, 5, 6] xb_coupletref12_bytes_0))) (.seq (.ops false [⟨⟨(some 20), (.mv (.tmp 5)), none⟩, none⟩, ⟨⟨(some 4), (.mv (.tmp 20)), none⟩, none⟩]) .ret))))
def rs_coupletref12_bytes : List ResultVar := [(.tmp 4)]
theorem ir_coupletref12_bytes : compCode Tryd.prog (Tryd.f54.body.getD .skip) [[0, 1, 5, 6]] = some (xr_coupletref12_bytes.erase, []) := by kernel_rfl
def gm_coupletref12_bytes : Gam := Gam.bot
theorem gk_coupletref12_bytes : GamOk Tryd.prog GG gm_coupletref12_bytes := GamOk.bot
def st_coupletref12_bytes_0 (n2 : Int) (n3 : Int) (n4 : Int) (b5 : Bool) (b6 : Bool) (l7 : List Int) : Option (((Int × Int × Int × Bool × Bool × List Int)) ⊕ (((Bool × Bool × List Int)))) :=
  bif (decide (n4 < n3)) then
   bif (decide ((((List.length l7) + 1) * 1) ≤ 140737488355328)) then
    bif (decide (((List.length l7) + 1) ≤ 4611686018427387904)) then
     some (Sum.inl ((IntKind.wrap .u64 (Int.tdiv n2 256)), n3, (IntKind.wrap .i64 (n4 + 1)), (b5 && false), false, (l7 ++ [(IntKind.wrap .u8 (Int.tmod n2 256))])))
    else none
   else none
  else
   some (Sum.inr (b5, b6, l7))
def lp_coupletref12_bytes_0 (n2 : Int) (n3 : Int) (n4 : Int) (b5 : Bool) (b6 : Bool) (l7 : List Int) : Option (((Bool × Bool × List Int))) := loopN (X := (Int × Int × Int × Bool × Bool × List Int)) (fun x => st_coupletref12_bytes_0 x.1 x.2.1 x.2.2.1 x.2.2.2.1 x.2.2.2.2.1 x.2.2.2.2.2) (n2, n3, n4, b5, b6, l7)
def sh_coupletref12_bytes_0 : StSh := ⟨21, [(0, (.p (.int .u64))), (1, (.p (.int .i64))), (5, (.row 0)), (6, (.p (.int .i64)))], [(.irow 5 .u8)]⟩
def sx_coupletref12_bytes_0 (x : (Int × Int × Int × Bool × Bool × List Int)) : St := ⟨slots 21 0 [(0, (.p (.int .u64 x.1))), (1, (.p (.int .i64 x.2.1))), (5, (.row 0)), (6, (.p (.int .i64 x.2.2.1)))], [(.irow 5 .u8 x.2.2.2.1 x.2.2.2.2.1 x.2.2.2.2.2)]⟩
def sa_coupletref12_bytes_0 (S : St) : (Int × Int × Int × Bool × Bool × List Int) := (((tls 0 S.t).headD .any).pv.num, ((tls 1 S.t).headD .any).pv.num, ((tls 6 S.t).headD .any).pv.num, ((tls 0 S.own).headD .gone).pvD.nl, ((tls 0 S.own).headD .gone).pvD.ex, ((tls 0 S.own).headD .gone).pvD.ints)
def tz_coupletref12_bytes_0_0 : StSh := ⟨21, [(5, (.row 0))], [(.irow 5 .u8)]⟩
def tx_coupletref12_bytes_0_0 (x : (Bool × Bool × List Int)) : St := ⟨slots 21 0 [(5, (.row 0))], [(.irow 5 .u8 x.1 x.2.1 x.2.2)]⟩
def ta_coupletref12_bytes_0_0 (S : St) : (Bool × Bool × List Int) := (((tls 0 S.own).headD .gone).pvD.nl, ((tls 0 S.own).headD .gone).pvD.ex, ((tls 0 S.own).headD .gone).pvD.ints)
def kb_coupletref12_bytes_0 : Exit → St → Tree (((Int × Int × Int × Bool × Bool × List Int)) ⊕ (((Bool × Bool × List Int)))) := (exOne (.exit 0) [5] tz_coupletref12_bytes_0_0 ta_coupletref12_bytes_0_0 (fun y => Sum.inr (y)) exNil)
def ky_coupletref12_bytes_0 : Dec (((Bool × Bool × List Int))) := fun _ y ke => ke ((.exit 0) : EK).ex (tx_coupletref12_bytes_0_0 y)
theorem kk_coupletref12_bytes_0 : ExOk Sum.inr kb_coupletref12_bytes_0 ky_coupletref12_bytes_0 := (ExOk.one (acc := ta_coupletref12_bytes_0_0) (bY := tx_coupletref12_bytes_0_0) (inj1 := fun y => y) (fun S => by kernel_rfl) (fun y _ ke => .inr (by kernel_rfl)) ExOk.nil)
def lm_coupletref12_bytes : Lam := fun _ j S kn ke => match j with
  | 0 => prepT [0, 1, 5, 6] [(5, 5)] S fun S => .chk (sh_coupletref12_bytes_0.ok S) (.bind (loopN (fun x => st_coupletref12_bytes_0 x.1 x.2.1 x.2.2.1 x.2.2.2.1 x.2.2.2.2.1 x.2.2.2.2.2) (sa_coupletref12_bytes_0 S)) fun y => ky_coupletref12_bytes_0 _ y ke)
  | _ => .fail
theorem sr_coupletref12_bytes_0 (x : (Int × Int × Int × Bool × Bool × List Int)) : (ev GG gm_coupletref12_bytes lm_coupletref12_bytes xb_coupletref12_bytes_0 (sx_coupletref12_bytes_0 x) (fun S => forgetT [0, 1, 5, 6] S fun S => prepT [0, 1, 5, 6] [(5, 5)] S fun S => .chk (sh_coupletref12_bytes_0.ok S) (.leaf (.inl (sa_coupletref12_bytes_0 S)))) kb_coupletref12_bytes_0).run = st_coupletref12_bytes_0 x.1 x.2.1 x.2.2.1 x.2.2.2.1 x.2.2.2.2.1 x.2.2.2.2.2 := by kernel_rfl
theorem la_coupletref12_bytes_0 : LamAt Tryd.prog GG lm_coupletref12_bytes 0 (.loop [0, 1, 5, 6] xb_coupletref12_bytes_0.erase) := lam_loop (body := xb_coupletref12_bytes_0) (Λ' := lm_coupletref12_bytes) gk_coupletref12_bytes (⟨⟨trivial, ⟨trivial, trivial⟩⟩, ⟨⟨trivial, trivial⟩, trivial⟩⟩) (fun S => (by kernel_rfl : sh_coupletref12_bytes_0.build S = sx_coupletref12_bytes_0 (sa_coupletref12_bytes_0 S))) kk_coupletref12_bytes_0 sr_coupletref12_bytes_0 (fun _ _ _ => rfl)
def go_coupletref12_bytes (n0 : Int) (n1 : Int) : Option (Bool × Bool × List Int) :=
  (lp_coupletref12_bytes_0 n0 n1 0 true true []).bind fun y8 =>
  some (y8.1, y8.2.1, y8.2.2)
def em_coupletref12_bytes (r : (Bool × Bool × List Int)) : PV := (.isl r.1 r.2.1 .u8 r.2.2)
def rh_coupletref12_bytes : Shp := (.isl .u8)
def ra_coupletref12_bytes (v : PV) : (Bool × Bool × List Int) := (v.nl, v.ex, v.ints)
def kf_coupletref12_bytes (v : PV) : Tree (Bool × Bool × List Int) := .chk (rh_coupletref12_bytes.ok v) (.leaf (ra_coupletref12_bytes v))
theorem rn_coupletref12_bytes (n0 : Int) (n1 : Int) : (ev GG gm_coupletref12_bytes lm_coupletref12_bytes xr_coupletref12_bytes ⟨slots 21 0 [(0, .p (.int .u64 n0)), (1, .p (.int .i64 n1))], []⟩ (fun S => finT Tryd.prog rs_coupletref12_bytes S kf_coupletref12_bytes) (retT Tryd.prog rs_coupletref12_bytes kf_coupletref12_bytes)).run = go_coupletref12_bytes n0 n1 := by kernel_rfl
theorem ok_coupletref12_bytes (n0 : Int) (n1 : Int) (r : (Bool × Bool × List Int)) (h : go_coupletref12_bytes n0 n1 = some r) : FunEq Tryd.prog GG 54 [(.int .u64 n0), (.int .i64 n1)] (em_coupletref12_bytes r) :=
  fun_of_ev (x := xr_coupletref12_bytes) (Λ := lm_coupletref12_bytes) gk_coupletref12_bytes [[0, 1, 5, 6]] Tryd.func54 rfl (by kernel_rfl) ir_coupletref12_bytes (by kernel_rfl) (congrArg Array.toList Tryd.results54) Tryd.ntmps54 (⟨trivial, ⟨trivial, ⟨⟨trivial, la_coupletref12_bytes_0⟩, ⟨trivial, trivial⟩⟩⟩⟩) (leaf_of fun v => (by kernel_rfl : rh_coupletref12_bytes.build v = em_coupletref12_bytes (ra_coupletref12_bytes v))) (by kernel_rfl) ((rn_coupletref12_bytes n0 n1).trans h)
def as_coupletref12_bytes : List Shp := [(.int .u64), (.int .i64)]
def ga_coupletref12_bytes (vs : List PV) : Option (Bool × Bool × List Int) := go_coupletref12_bytes ((tls 0 vs).headD .nilSl).num ((tls 1 vs).headD .nilSl).num
theorem at_coupletref12_bytes : FnAt Tryd.prog GG 54 as_coupletref12_bytes ga_coupletref12_bytes em_coupletref12_bytes := fun vs h r hr => by
  have e : Shp.buildL as_coupletref12_bytes vs = [(.int .u64 ((tls 0 vs).headD .nilSl).num), (.int .i64 ((tls 1 vs).headD .nilSl).num)] := by kernel_rfl
  rw [← Shp.buildL_eq _ h, e]
  exact .inl ⟨by decide, ok_coupletref12_bytes _ _ r hr⟩
def xb_coupletref12_Encode_0 : XR := (.seq (.seq (.ops false [⟨⟨(some 18), (.mv (.tmp 4)), none⟩, none⟩, ⟨⟨(some 19), (.fldA 3 (.tmp 1)), none⟩, none⟩, ⟨⟨(some 20), (.ld false 1 (.tmp 19)), none⟩, (some (.isl .i64))⟩, ⟨⟨(some 21), (.len (.tmp 20)), none⟩, none⟩, ⟨⟨(some 22), (.bin .lss (.tmp 18) (.tmp 21)), none⟩, none⟩]) (.cond (.tmp 22) .skip (.exit 0))) (.seq (.block 1 (.ops false [⟨⟨(some 25), (.mv (.tmp 3)), none⟩, none⟩, ⟨⟨(some 26), (.fldA 3 (.tmp 1)), none⟩, none⟩, ⟨⟨(some 27), (.ld false 1 (.tmp 26)), none⟩, (some (.isl .i64))⟩, ⟨⟨(some 28), (.mv (.tmp 4)), none⟩, none⟩, ⟨⟨(some 29), (.ixA 1 (.tmp 27) (.tmp 28)), none⟩, none⟩, ⟨⟨(some 30), (.ld false 1 (.tmp 29)), none⟩, (some (.int .i64))⟩, ⟨⟨(some 31), (.cvtI .u64 (.tmp 30)), none⟩, none⟩, ⟨⟨(some 32), (.call (.func 54) [(.tmp 31), (.c (.int .i64 (8)))]), none⟩, none⟩, ⟨⟨(some 33), (.app 5 (some .u8) 1 1 (.tmp 25) (.tmp 32)), none⟩, none⟩, ⟨⟨(some 3), (.mv (.tmp 33)), none⟩, none⟩])) (.ops false [⟨⟨(some 23), (.mv (.tmp 4)), none⟩, none⟩, ⟨⟨(some 24), (.bin .add (.tmp 23) (.c (.int .i64 (1)))), none⟩, none⟩, ⟨⟨(some 4), (.mv (.tmp 24)), none⟩, none⟩])))
def xr_coupletref12_Encode : XR := (.seq (.ops false [⟨⟨(some 1), (.box 32 (.tmp 0)), none⟩, none⟩, ⟨⟨(some 2), (.mv (.c (.isl true true .u8 []))), none⟩, none⟩]) (.seq (.ops false [⟨⟨(some 5), (.fldA 0 (.tmp 1)), none⟩, none⟩, ⟨⟨(some 6), (.ld false 1 (.tmp 5)), none⟩, (some (.int .i64))⟩, ⟨⟨(some 7), (.cvtI .u8 (.tmp 6)), none⟩, none⟩, ⟨⟨(some 8), (.fldA 2 (.tmp 1)), none⟩, none⟩, ⟨⟨(some 9), (.ld false 1 (.tmp 8)), none⟩, (some (.int .i64))⟩, ⟨⟨(some 10), (.cvtI .u8 (.tmp 9)), none⟩, none⟩, ⟨⟨(some 11), (.bsl 5 (some .u8) 1 [(.c (.int .u8 (78))), (.c (.int .u8 (86))), (.tmp 7), (.tmp 10)]), none⟩, none⟩, ⟨⟨(some 3), (.mv (.tmp 11)), none⟩, none⟩]) (.seq (.ops false [⟨⟨(some 12), (.mv (.tmp 3)), none⟩, none⟩, ⟨⟨(some 13), (.fldA 1 (.tmp 1)), none⟩, none⟩, ⟨⟨(some 14), (.ld false 1 (.tmp 13)), none⟩, (some (.int .i64))⟩, ⟨⟨(some 15), (.cvtI .u64 (.tmp 14)), none⟩, none⟩, ⟨⟨(some 16), (.call (.func 54) [(.tmp 15), (.c (.int .i64 (4)))]), none⟩, none⟩, ⟨⟨(some 17), (.app 5 (some .u8) 1 1 (.tmp 12) (.tmp 16)), none⟩, none⟩, ⟨⟨(some 3), (.mv (.tmp 17)), none⟩, none⟩]) (.seq (.seq (.ops false [⟨⟨(some 4), (.mv (.c (.int .i64 (0)))), none⟩, none⟩]) (.block 0 (.loop 0 [1, 3, 4] xb_coupletref12_Encode_0))) (.seq (.ops false [⟨⟨(some 34), (.mv (.tmp 3)), none⟩, none⟩, ⟨⟨(some 35), (.mv (.tmp 3)), none⟩, none⟩, ⟨⟨(some 36), (.call (.func 55) [(.tmp 35)]), none⟩, none⟩, ⟨⟨(some 37), (.cvtI .u64 (.tmp 36)), none⟩, none⟩, ⟨⟨(some 38), (.call (.func 54) [(.tmp 37), (.c (.int .i64 (4)))]), none⟩, none⟩, ⟨⟨(some 39), (.app 5 (some .u8) 1 1 (.tmp 34) (.tmp 38)), none⟩, none⟩, ⟨⟨(some 2), (.mv (.tmp 39)), none⟩, none⟩]) .ret)))))
def rs_coupletref12_Encode : List ResultVar := [(.tmp 2)]
theorem ir_coupletref12_Encode : compCode Tryd.prog (Tryd.f28.body.getD .skip) [[1, 3, 4]] = some (xr_coupletref12_Encode.erase, []) := by kernel_rfl
def gm_coupletref12_Encode : Gam := (Gam.fn 54 as_coupletref12_bytes ga_coupletref12_bytes em_coupletref12_bytes (Gam.fn 55 as_coupletref11_Of ga_coupletref11_Of em_coupletref11_Of Gam.bot))
theorem gk_coupletref12_Encode : GamOk Tryd.prog GG gm_coupletref12_Encode := (GamOk.fn at_coupletref12_bytes (GamOk.fn at_coupletref11_Of GamOk.bot))
def st_coupletref12_Encode_0 (n7 : Int) (n8 : Int) (n9 : Int) (n10 : Int) (b11 : Bool) (b12 : Bool) (l13 : List Int) (b14 : Bool) (b15 : Bool) (l16 : List Int) : Option (((Int × Int × Int × Int × Bool × Bool × List Int × Bool × Bool × List Int)) ⊕ (((Bool × Bool × List Int)))) :=
  bif (decide (n7 < (((List.length l13) : Nat) : Int))) then
   bif (decide (0 ≤ n7)) then
    bif (decide (n7 < (((List.length l13) : Nat) : Int))) then
     bif (decide ((Int.toNat n7) < (List.length l13))) then
      (go_coupletref12_bytes (IntKind.wrap .u64 (List.getD l13 (Int.toNat n7) 0)) 8).bind fun r17 =>
      bif (decide ((((List.length l16) + (List.length r17.2.2)) * 1) ≤ 140737488355328)) then
       bif (decide (((List.length l16) + (List.length r17.2.2)) ≤ 4611686018427387904)) then
        some (Sum.inl ((IntKind.wrap .i64 (n7 + 1)), n8, n9, n10, b11, b12, l13, (b14 && (List.isEmpty r17.2.2)), false, (l16 ++ r17.2.2)))
       else none
      else none
     else none
    else none
   else none
  else
   some (Sum.inr (b14, b15, l16))
def lp_coupletref12_Encode_0 (n7 : Int) (n8 : Int) (n9 : Int) (n10 : Int) (b11 : Bool) (b12 : Bool) (l13 : List Int) (b14 : Bool) (b15 : Bool) (l16 : List Int) : Option (((Bool × Bool × List Int))) := loopN (X := (Int × Int × Int × Int × Bool × Bool × List Int × Bool × Bool × List Int)) (fun x => st_coupletref12_Encode_0 x.1 x.2.1 x.2.2.1 x.2.2.2.1 x.2.2.2.2.1 x.2.2.2.2.2.1 x.2.2.2.2.2.2.1 x.2.2.2.2.2.2.2.1 x.2.2.2.2.2.2.2.2.1 x.2.2.2.2.2.2.2.2.2) (n7, n8, n9, n10, b11, b12, l13, b14, b15, l16)
def sh_coupletref12_Encode_0 : StSh := ⟨40, [(1, (.ptr 0 0)), (3, (.row 1)), (4, (.p (.int .i64)))], [(.box 32 [(.p (.int .i64)), (.p (.int .i64)), (.p (.int .i64)), (.p (.isl .i64))]), (.irow 5 .u8)]⟩
def sx_coupletref12_Encode_0 (x : (Int × Int × Int × Int × Bool × Bool × List Int × Bool × Bool × List Int)) : St := ⟨slots 40 0 [(1, (.ptr 0 0)), (3, (.row 1)), (4, (.p (.int .i64 x.1)))], [(.box 32 [(.p (.int .i64 x.2.1)), (.p (.int .i64 x.2.2.1)), (.p (.int .i64 x.2.2.2.1)), (.p (.isl x.2.2.2.2.1 x.2.2.2.2.2.1 .i64 x.2.2.2.2.2.2.1))]), (.irow 5 .u8 x.2.2.2.2.2.2.2.1 x.2.2.2.2.2.2.2.2.1 x.2.2.2.2.2.2.2.2.2)]⟩
def sa_coupletref12_Encode_0 (S : St) : (Int × Int × Int × Int × Bool × Bool × List Int × Bool × Bool × List Int) := (((tls 4 S.t).headD .any).pv.num, (((tls 0 S.own).headD .gone).subs.headD .any).pv.num, (((tls 0 S.own).headD .gone).subs.tail.headD .any).pv.num, (((tls 0 S.own).headD .gone).subs.tail.tail.headD .any).pv.num, (((tls 0 S.own).headD .gone).subs.tail.tail.tail.headD .any).pv.nl, (((tls 0 S.own).headD .gone).subs.tail.tail.tail.headD .any).pv.ex, (((tls 0 S.own).headD .gone).subs.tail.tail.tail.headD .any).pv.ints, ((tls 1 S.own).headD .gone).pvD.nl, ((tls 1 S.own).headD .gone).pvD.ex, ((tls 1 S.own).headD .gone).pvD.ints)
def tz_coupletref12_Encode_0_0 : StSh := ⟨40, [(3, (.row 0))], [(.irow 5 .u8)]⟩
def tx_coupletref12_Encode_0_0 (x : (Bool × Bool × List Int)) : St := ⟨slots 40 0 [(3, (.row 0))], [(.irow 5 .u8 x.1 x.2.1 x.2.2)]⟩
def ta_coupletref12_Encode_0_0 (S : St) : (Bool × Bool × List Int) := (((tls 0 S.own).headD .gone).pvD.nl, ((tls 0 S.own).headD .gone).pvD.ex, ((tls 0 S.own).headD .gone).pvD.ints)
def kb_coupletref12_Encode_0 : Exit → St → Tree (((Int × Int × Int × Int × Bool × Bool × List Int × Bool × Bool × List Int)) ⊕ (((Bool × Bool × List Int)))) := (exOne (.exit 0) [3] tz_coupletref12_Encode_0_0 ta_coupletref12_Encode_0_0 (fun y => Sum.inr (y)) exNil)
def ky_coupletref12_Encode_0 : Dec (((Bool × Bool × List Int))) := fun _ y ke => ke ((.exit 0) : EK).ex (tx_coupletref12_Encode_0_0 y)
theorem kk_coupletref12_Encode_0 : ExOk Sum.inr kb_coupletref12_Encode_0 ky_coupletref12_Encode_0 := (ExOk.one (acc := ta_coupletref12_Encode_0_0) (bY := tx_coupletref12_Encode_0_0) (inj1 := fun y => y) (fun S => by kernel_rfl) (fun y _ ke => .inr (by kernel_rfl)) ExOk.nil)
def lm_coupletref12_Encode : Lam := fun _ j S kn ke => match j with
  | 0 => prepT [1, 3, 4] [] S fun S => .chk (sh_coupletref12_Encode_0.ok S) (.bind (loopN (fun x => st_coupletref12_Encode_0 x.1 x.2.1 x.2.2.1 x.2.2.2.1 x.2.2.2.2.1 x.2.2.2.2.2.1 x.2.2.2.2.2.2.1 x.2.2.2.2.2.2.2.1 x.2.2.2.2.2.2.2.2.1 x.2.2.2.2.2.2.2.2.2) (sa_coupletref12_Encode_0 S)) fun y => ky_coupletref12_Encode_0 _ y ke)
  | _ => .fail
theorem sr_coupletref12_Encode_0 (x : (Int × Int × Int × Int × Bool × Bool × List Int × Bool × Bool × List Int)) : (ev GG gm_coupletref12_Encode lm_coupletref12_Encode xb_coupletref12_Encode_0 (sx_coupletref12_Encode_0 x) (fun S => forgetT [1, 3, 4] S fun S => prepT [1, 3, 4] [] S fun S => .chk (sh_coupletref12_Encode_0.ok S) (.leaf (.inl (sa_coupletref12_Encode_0 S)))) kb_coupletref12_Encode_0).run = st_coupletref12_Encode_0 x.1 x.2.1 x.2.2.1 x.2.2.2.1 x.2.2.2.2.1 x.2.2.2.2.2.1 x.2.2.2.2.2.2.1 x.2.2.2.2.2.2.2.1 x.2.2.2.2.2.2.2.2.1 x.2.2.2.2.2.2.2.2.2 := by kernel_rfl
theorem la_coupletref12_Encode_0 : LamAt Tryd.prog GG lm_coupletref12_Encode 0 (.loop [1, 3, 4] xb_coupletref12_Encode_0.erase) := lam_loop (body := xb_coupletref12_Encode_0) (Λ' := lm_coupletref12_Encode) gk_coupletref12_Encode (⟨⟨trivial, ⟨trivial, trivial⟩⟩, ⟨trivial, trivial⟩⟩) (fun S => (by kernel_rfl : sh_coupletref12_Encode_0.build S = sx_coupletref12_Encode_0 (sa_coupletref12_Encode_0 S))) kk_coupletref12_Encode_0 sr_coupletref12_Encode_0 (fun _ _ _ => rfl)
def go_coupletref12_Encode (n0 : Int) (n1 : Int) (n2 : Int) (b3 : Bool) (b4 : Bool) (l5 : List Int) : Option (Bool × Bool × List Int) :=
  (go_coupletref12_bytes (IntKind.wrap .u64 n1) 4).bind fun r6 =>
  bif (decide (((4 + (List.length r6.2.2)) * 1) ≤ 140737488355328)) then
   bif (decide ((4 + (List.length r6.2.2)) ≤ 4611686018427387904)) then
    (lp_coupletref12_Encode_0 0 n0 n1 n2 b3 b4 l5 (false && (List.isEmpty r6.2.2)) false (78 :: 86 :: (IntKind.wrap .u8 n0) :: (IntKind.wrap .u8 n2) :: r6.2.2)).bind fun y18 =>
    (go_coupletref11_Of y18.1 y18.2.1 y18.2.2).bind fun r19 =>
    (go_coupletref12_bytes (IntKind.wrap .u64 r19) 4).bind fun r20 =>
    bif (decide ((((List.length y18.2.2) + (List.length r20.2.2)) * 1) ≤ 140737488355328)) then
     bif (decide (((List.length y18.2.2) + (List.length r20.2.2)) ≤ 4611686018427387904)) then
      some ((y18.1 && (List.isEmpty r20.2.2)), false, (y18.2.2 ++ r20.2.2))
     else none
    else none
   else none
  else none
def em_coupletref12_Encode (r : (Bool × Bool × List Int)) : PV := (.isl r.1 r.2.1 .u8 r.2.2)
def rh_coupletref12_Encode : Shp := (.isl .u8)
def ra_coupletref12_Encode (v : PV) : (Bool × Bool × List Int) := (v.nl, v.ex, v.ints)
def kf_coupletref12_Encode (v : PV) : Tree (Bool × Bool × List Int) := .chk (rh_coupletref12_Encode.ok v) (.leaf (ra_coupletref12_Encode v))
theorem rn_coupletref12_Encode (n0 : Int) (n1 : Int) (n2 : Int) (b3 : Bool) (b4 : Bool) (l5 : List Int) : (ev GG gm_coupletref12_Encode lm_coupletref12_Encode xr_coupletref12_Encode ⟨slots 40 0 [(0, .p (.agg [(.int .i64 n0), (.int .i64 n1), (.int .i64 n2), (.isl b3 b4 .i64 l5)]))], []⟩ (fun S => finT Tryd.prog rs_coupletref12_Encode S kf_coupletref12_Encode) (retT Tryd.prog rs_coupletref12_Encode kf_coupletref12_Encode)).run = go_coupletref12_Encode n0 n1 n2 b3 b4 l5 := by kernel_rfl
theorem ok_coupletref12_Encode (n0 : Int) (n1 : Int) (n2 : Int) (b3 : Bool) (b4 : Bool) (l5 : List Int) (r : (Bool × Bool × List Int)) (h : go_coupletref12_Encode n0 n1 n2 b3 b4 l5 = some r) : FunEq Tryd.prog GG 28 [(.agg [(.int .i64 n0), (.int .i64 n1), (.int .i64 n2), (.isl b3 b4 .i64 l5)])] (em_coupletref12_Encode r) :=
  fun_of_ev (x := xr_coupletref12_Encode) (Λ := lm_coupletref12_Encode) gk_coupletref12_Encode [[1, 3, 4]] Tryd.func28 rfl (by kernel_rfl) ir_coupletref12_Encode (by kernel_rfl) (congrArg Array.toList Tryd.results28) Tryd.ntmps28 (⟨trivial, ⟨trivial, ⟨trivial, ⟨⟨trivial, la_coupletref12_Encode_0⟩, ⟨trivial, trivial⟩⟩⟩⟩⟩) (leaf_of fun v => (by kernel_rfl : rh_coupletref12_Encode.build v = em_coupletref12_Encode (ra_coupletref12_Encode v))) (by kernel_rfl) ((rn_coupletref12_Encode n0 n1 n2 b3 b4 l5).trans h)
def as_coupletref12_Encode : List Shp := [(.agg [(.int .i64), (.int .i64), (.int .i64), (.isl .i64)])]
def ga_coupletref12_Encode (vs : List PV) : Option (Bool × Bool × List Int) := go_coupletref12_Encode (((tls 0 vs).headD .nilSl).subs.headD .nilSl).num (((tls 0 vs).headD .nilSl).subs.tail.headD .nilSl).num (((tls 0 vs).headD .nilSl).subs.tail.tail.headD .nilSl).num (((tls 0 vs).headD .nilSl).subs.tail.tail.tail.headD .nilSl).nl (((tls 0 vs).headD .nilSl).subs.tail.tail.tail.headD .nilSl).ex (((tls 0 vs).headD .nilSl).subs.tail.tail.tail.headD .nilSl).ints
theorem at_coupletref12_Encode : FnAt Tryd.prog GG 28 as_coupletref12_Encode ga_coupletref12_Encode em_coupletref12_Encode := fun vs h r hr => by
  have e : Shp.buildL as_coupletref12_Encode vs = [(.agg [(.int .i64 (((tls 0 vs).headD .nilSl).subs.headD .nilSl).num), (.int .i64 (((tls 0 vs).headD .nilSl).subs.tail.headD .nilSl).num), (.int .i64 (((tls 0 vs).headD .nilSl).subs.tail.tail.headD .nilSl).num), (.isl (((tls 0 vs).headD .nilSl).subs.tail.tail.tail.headD .nilSl).nl (((tls 0 vs).headD .nilSl).subs.tail.tail.tail.headD .nilSl).ex .i64 (((tls 0 vs).headD .nilSl).subs.tail.tail.tail.headD .nilSl).ints)])] := by kernel_rfl
  rw [← Shp.buildL_eq _ h, e]
  exact .inl ⟨by decide, ok_coupletref12_Encode _ _ _ _ _ _ r hr⟩
def xr_coupletref12_Why : XR := (.seq (.ops false [⟨⟨(some 2), (.mv (.c (.int .i64 (0)))), none⟩, none⟩]) (.seq (.seq (.ops false [⟨⟨(some 5), (.mv (.tmp 0)), none⟩, none⟩, ⟨⟨(some 6), (.len (.tmp 5)), none⟩, none⟩, ⟨⟨(some 7), (.bin .lss (.tmp 6) (.c (.int .i64 (12)))), none⟩, none⟩]) (.cond (.tmp 7) (.seq (.ops false [⟨⟨(some 2), (.mv (.c (.int .i64 (2)))), none⟩, none⟩]) .ret) .skip)) (.seq (.ops true [⟨⟨(some 8), (.mv (.tmp 0)), none⟩, none⟩, ⟨⟨(some 9), (.ixA 1 (.tmp 8) (.c (.int .i64 (2)))), none⟩, none⟩, ⟨⟨(some 10), (.ld false 1 (.tmp 9)), none⟩, (some (.int .u8))⟩, ⟨⟨(some 11), (.cvtI .i64 (.tmp 10)), none⟩, none⟩, ⟨⟨(some 12), (.mv (.tmp 0)), none⟩, none⟩, ⟨⟨(some 13), (.ixA 1 (.tmp 12) (.c (.int .i64 (3)))), none⟩, none⟩, ⟨⟨(some 14), (.ld false 1 (.tmp 13)), none⟩, (some (.int .u8))⟩, ⟨⟨(some 15), (.cvtI .i64 (.tmp 14)), none⟩, none⟩, ⟨⟨(some 16), (.call (.func 23) [(.tmp 11), (.tmp 15)]), none⟩, none⟩, ⟨⟨(some 3), (.mv (.tmp 16)), none⟩, none⟩]) (.seq (.seq (.ops false [⟨⟨(some 17), (.mv (.tmp 0)), none⟩, none⟩, ⟨⟨(some 18), (.ixA 1 (.tmp 17) (.c (.int .i64 (0)))), none⟩, none⟩, ⟨⟨(some 19), (.ld false 1 (.tmp 18)), none⟩, (some (.int .u8))⟩, ⟨⟨(some 20), (.bin .neq (.tmp 19) (.c (.int .u8 (78)))), none⟩, none⟩, ⟨⟨(some 21), (.mv (.tmp 20)), none⟩, none⟩, ⟨⟨(some 22), (.mv (.tmp 0)), (some (21, false))⟩, none⟩, ⟨⟨(some 23), (.ixA 1 (.tmp 22) (.c (.int .i64 (1)))), (some (21, false))⟩, none⟩, ⟨⟨(some 24), (.ld false 1 (.tmp 23)), (some (21, false))⟩, (some (.int .u8))⟩, ⟨⟨(some 25), (.bin .neq (.tmp 24) (.c (.int .u8 (86)))), (some (21, false))⟩, none⟩, ⟨⟨(some 26), (.pick (.tmp 21) (.c (.bool true)) (.tmp 25)), none⟩, none⟩, ⟨⟨(some 27), (.mv (.tmp 26)), none⟩, none⟩, ⟨⟨(some 28), (.mv (.tmp 3)), (some (27, false))⟩, none⟩, ⟨⟨(some 29), (.bin .eql (.tmp 28) (.c (.int .i64 (0)))), (some (27, false))⟩, none⟩, ⟨⟨(some 30), (.pick (.tmp 27) (.c (.bool true)) (.tmp 29)), none⟩, none⟩]) (.cond (.tmp 30) (.seq (.ops false [⟨⟨(some 2), (.mv (.c (.int .i64 (4)))), none⟩, none⟩]) .ret) .skip)) (.seq (.seq (.ops false [⟨⟨(some 31), (.mv (.tmp 0)), none⟩, none⟩, ⟨⟨(some 32), (.len (.tmp 31)), none⟩, none⟩, ⟨⟨(some 33), (.mv (.tmp 3)), none⟩, none⟩, ⟨⟨(some 34), (.bin .mul (.c (.int .i64 (8))) (.tmp 33)), none⟩, none⟩, ⟨⟨(some 35), (.bin .add (.c (.int .i64 (12))) (.tmp 34)), none⟩, none⟩, ⟨⟨(some 36), (.bin .lss (.tmp 32) (.tmp 35)), none⟩, none⟩]) (.cond (.tmp 36) (.seq (.ops false [⟨⟨(some 2), (.mv (.c (.int .i64 (2)))), none⟩, none⟩]) .ret) .skip)) (.seq (.seq (.ops false [⟨⟨(some 37), (.mv (.tmp 0)), none⟩, none⟩, ⟨⟨(some 38), (.len (.tmp 37)), none⟩, none⟩, ⟨⟨(some 39), (.mv (.tmp 3)), none⟩, none⟩, ⟨⟨(some 40), (.bin .mul (.c (.int .i64 (8))) (.tmp 39)), none⟩, none⟩, ⟨⟨(some 41), (.bin .add (.c (.int .i64 (12))) (.tmp 40)), none⟩, none⟩, ⟨⟨(some 42), (.bin .gtr (.tmp 38) (.tmp 41)), none⟩, none⟩]) (.cond (.tmp 42) (.seq (.ops false [⟨⟨(some 2), (.mv (.c (.int .i64 (5)))), none⟩, none⟩]) .ret) .skip)) (.seq (.ops false [⟨⟨(some 43), (.mv (.tmp 0)), none⟩, none⟩, ⟨⟨(some 44), (.len (.tmp 43)), none⟩, none⟩, ⟨⟨(some 45), (.bin .sub (.tmp 44) (.c (.int .i64 (4)))), none⟩, none⟩, ⟨⟨(some 4), (.mv (.tmp 45)), none⟩, none⟩]) (.seq (.seq (.ops true [⟨⟨(some 46), (.mv (.tmp 0)), none⟩, none⟩, ⟨⟨(some 47), (.mv (.tmp 4)), none⟩, none⟩, ⟨⟨(some 48), (.slc 1 (.tmp 46) none (some (.tmp 47)) none), none⟩, none⟩, ⟨⟨(some 49), (.call (.func 55) [(.tmp 48)]), none⟩, none⟩, ⟨⟨(some 50), (.cvtI .u64 (.tmp 49)), none⟩, none⟩, ⟨⟨(some 51), (.call (.func 54) [(.tmp 50), (.c (.int .i64 (4)))]), none⟩, none⟩, ⟨⟨(some 52), (.cvtBS (.tmp 51)), none⟩, none⟩, ⟨⟨(some 53), (.mv (.tmp 0)), none⟩, none⟩, ⟨⟨(some 54), (.mv (.tmp 4)), none⟩, none⟩, ⟨⟨(some 55), (.slc 1 (.tmp 53) (some (.tmp 54)) none none), none⟩, none⟩, ⟨⟨(some 56), (.cvtBS (.tmp 55)), none⟩, none⟩, ⟨⟨(some 57), (.binS .neq (.tmp 52) (.tmp 56)), none⟩, none⟩]) (.cond (.tmp 57) (.seq (.ops false [⟨⟨(some 2), (.mv (.c (.int .i64 (6)))), none⟩, none⟩]) .ret) .skip)) (.seq (.ops false [⟨⟨(some 2), (.mv (.c (.int .i64 (0)))), none⟩, none⟩]) .ret)))))))))
def rs_coupletref12_Why : List ResultVar := [(.tmp 2)]
theorem ir_coupletref12_Why : compCode Tryd.prog (Tryd.f30.body.getD .skip) [] = some (xr_coupletref12_Why.erase, []) := by kernel_rfl
def gm_coupletref12_Why : Gam := (Gam.fn 23 as_coupletref12_Many ga_coupletref12_Many em_coupletref12_Many (Gam.fn 55 as_coupletref11_Of ga_coupletref11_Of em_coupletref11_Of (Gam.fn 54 as_coupletref12_bytes ga_coupletref12_bytes em_coupletref12_bytes Gam.bot)))
theorem gk_coupletref12_Why : GamOk Tryd.prog GG gm_coupletref12_Why := (GamOk.fn at_coupletref12_Many (GamOk.fn at_coupletref11_Of (GamOk.fn at_coupletref12_bytes GamOk.bot)))
def lm_coupletref12_Why : Lam := fun _ j S kn ke => match j with
  | _ => .fail
def go_coupletref12_Why (b0 : Bool) (b1 : Bool) (l2 : List Int) : Option Int :=
  bif (decide ((((List.length l2) : Nat) : Int) < 12)) then
   some 2
  else
   bif (decide (2 < (((List.length l2) : Nat) : Int))) then
    bif (decide (2 < (List.length l2))) then
     bif (decide (3 < (((List.length l2) : Nat) : Int))) then
      bif (decide (3 < (List.length l2))) then
       (go_coupletref12_Many (IntKind.wrap .i64 (List.getD l2 2 0)) (IntKind.wrap .i64 (List.getD l2 3 0))).bind fun r3 =>
       bif (decide (0 < (((List.length l2) : Nat) : Int))) then
        bif (decide (0 < (List.length l2))) then
         bif ((List.getD l2 0 0) != 78) then
          some 4
         else
          bif (decide (1 < (((List.length l2) : Nat) : Int))) then
           bif (decide (1 < (List.length l2))) then
            bif ((List.getD l2 1 0) != 86) then
             some 4
            else
             bif (r3 == 0) then
              some 4
             else
              bif (decide ((((List.length l2) : Nat) : Int) < (IntKind.wrap .i64 (12 + (IntKind.wrap .i64 (8 * r3)))))) then
               some 2
              else
               bif (decide ((((List.length l2) : Nat) : Int) > (IntKind.wrap .i64 (12 + (IntKind.wrap .i64 (8 * r3)))))) then
                some 5
               else
                bif (decide (0 ≤ (IntKind.wrap .i64 ((((List.length l2) : Nat) : Int) - 4)))) then
                 bif (decide ((IntKind.wrap .i64 ((((List.length l2) : Nat) : Int) - 4)) ≤ (((List.length l2) : Nat) : Int))) then
                  (go_coupletref11_Of b0 false (List.take (Int.toNat ((IntKind.wrap .i64 ((((List.length l2) : Nat) : Int) - 4)) - 0)) (List.drop 0 l2))).bind fun r4 =>
                  (go_coupletref12_bytes (IntKind.wrap .u64 r4) 4).bind fun r5 =>
                  bif (List.all r5.2.2 (fun x6 => (decide ((0 ≤ x6) ∧ (x6 < 256))))) then
                   bif (decide (0 ≤ (IntKind.wrap .i64 ((((List.length l2) : Nat) : Int) - 4)))) then
                    bif (decide ((IntKind.wrap .i64 ((((List.length l2) : Nat) : Int) - 4)) ≤ (((List.length l2) : Nat) : Int))) then
                     bif (decide ((((List.length l2) : Nat) : Int) ≤ (((List.length l2) : Nat) : Int))) then
                      bif (List.all (List.take (Int.toNat ((((List.length l2) : Nat) : Int) - (IntKind.wrap .i64 ((((List.length l2) : Nat) : Int) - 4)))) (List.drop (Int.toNat (IntKind.wrap .i64 ((((List.length l2) : Nat) : Int) - 4))) l2)) (fun x7 => (decide ((0 ≤ x7) ∧ (x7 < 256))))) then
                       bif (!(r5.2.2 == (List.take (Int.toNat ((((List.length l2) : Nat) : Int) - (IntKind.wrap .i64 ((((List.length l2) : Nat) : Int) - 4)))) (List.drop (Int.toNat (IntKind.wrap .i64 ((((List.length l2) : Nat) : Int) - 4))) l2)))) then
                        some 6
                       else
                        some 0
                      else none
                     else none
                    else none
                   else none
                  else none
                 else none
                else none
           else none
          else none
        else none
       else none
      else none
     else none
    else none
   else none
def em_coupletref12_Why (r : Int) : PV := (.int .i64 r)
def rh_coupletref12_Why : Shp := (.int .i64)
def ra_coupletref12_Why (v : PV) : Int := v.num
def kf_coupletref12_Why (v : PV) : Tree Int := .chk (rh_coupletref12_Why.ok v) (.leaf (ra_coupletref12_Why v))
theorem rn_coupletref12_Why (b0 : Bool) (b1 : Bool) (l2 : List Int) : (ev GG gm_coupletref12_Why lm_coupletref12_Why xr_coupletref12_Why ⟨slots 58 0 [(0, .p (.isl b0 b1 .u8 l2))], []⟩ (fun S => finT Tryd.prog rs_coupletref12_Why S kf_coupletref12_Why) (retT Tryd.prog rs_coupletref12_Why kf_coupletref12_Why)).run = go_coupletref12_Why b0 b1 l2 := by kernel_rfl
theorem ok_coupletref12_Why (b0 : Bool) (b1 : Bool) (l2 : List Int) (r : Int) (h : go_coupletref12_Why b0 b1 l2 = some r) : FunEq Tryd.prog GG 30 [(.isl b0 b1 .u8 l2)] (em_coupletref12_Why r) :=
  fun_of_ev (x := xr_coupletref12_Why) (Λ := lm_coupletref12_Why) gk_coupletref12_Why [] Tryd.func30 rfl (by kernel_rfl) ir_coupletref12_Why (by kernel_rfl) (congrArg Array.toList Tryd.results30) Tryd.ntmps30 (⟨trivial, ⟨⟨trivial, ⟨⟨trivial, trivial⟩, trivial⟩⟩, ⟨trivial, ⟨⟨trivial, ⟨⟨trivial, trivial⟩, trivial⟩⟩, ⟨⟨trivial, ⟨⟨trivial, trivial⟩, trivial⟩⟩, ⟨⟨trivial, ⟨⟨trivial, trivial⟩, trivial⟩⟩, ⟨trivial, ⟨⟨trivial, ⟨⟨trivial, trivial⟩, trivial⟩⟩, ⟨trivial, trivial⟩⟩⟩⟩⟩⟩⟩⟩⟩) (leaf_of fun v => (by kernel_rfl : rh_coupletref12_Why.build v = em_coupletref12_Why (ra_coupletref12_Why v))) (by kernel_rfl) ((rn_coupletref12_Why b0 b1 l2).trans h)
def as_coupletref12_Why : List Shp := [(.isl .u8)]
def ga_coupletref12_Why (vs : List PV) : Option Int := go_coupletref12_Why ((tls 0 vs).headD .nilSl).nl ((tls 0 vs).headD .nilSl).ex ((tls 0 vs).headD .nilSl).ints
theorem at_coupletref12_Why : FnAt Tryd.prog GG 30 as_coupletref12_Why ga_coupletref12_Why em_coupletref12_Why := fun vs h r hr => by
  have e : Shp.buildL as_coupletref12_Why vs = [(.isl ((tls 0 vs).headD .nilSl).nl ((tls 0 vs).headD .nilSl).ex .u8 ((tls 0 vs).headD .nilSl).ints)] := by kernel_rfl
  rw [← Shp.buildL_eq _ h, e]
  exact .inl ⟨by decide, ok_coupletref12_Why _ _ _ r hr⟩
end Go.Proofs
end
