import Derived.Test.YtjpfdipoijehcaaFxFin
import Derived.Test.YtjpfdipoijehcaaChecked
set_option linter.unusedVariables false
set_option maxRecDepth 100000
namespace Go.Proofs
open Go Go.Fx
def GG : Glob := fun _ => none

def xr_frame_Many : XR := (.seq (.ops false [⟨⟨(some 4), (.mv (.c (.int .i64 (0)))), none⟩, none⟩]) (.seq (.seq (.ops false [⟨⟨(some 5), (.mv (.tmp 1)), none⟩, none⟩, ⟨⟨(some 6), (.bin .lss (.tmp 5) (.c (.int .i64 (1)))), none⟩, none⟩, ⟨⟨(some 7), (.mv (.tmp 6)), none⟩, none⟩, ⟨⟨(some 8), (.mv (.tmp 1)), (some (7, false))⟩, none⟩, ⟨⟨(some 9), (.bin .gtr (.tmp 8) (.c (.int .i64 (4)))), (some (7, false))⟩, none⟩, ⟨⟨(some 10), (.pick (.tmp 7) (.c (.bool true)) (.tmp 9)), none⟩, none⟩]) (.cond (.tmp 10) (.seq (.ops false [⟨⟨(some 4), (.mv (.c (.int .i64 (0)))), none⟩, none⟩]) .ret) .skip)) (.seq (.seq (.ops false [⟨⟨(some 11), (.mv (.tmp 0)), none⟩, none⟩]) (.block 0 (.seq (.ops false [⟨⟨(some 13), (.bin .eql (.tmp 11) (.c (.int .i64 (1)))), none⟩, none⟩, ⟨⟨(some 12), (.mv (.tmp 13)), none⟩, none⟩]) (.cond (.tmp 12) (.seq (.ops false [⟨⟨(some 14), (.mv (.tmp 1)), none⟩, none⟩, ⟨⟨(some 15), (.mv (.tmp 1)), none⟩, none⟩, ⟨⟨(some 16), (.mv (.tmp 1)), none⟩, none⟩, ⟨⟨(some 17), (.bin .mul (.tmp 15) (.tmp 16)), none⟩, none⟩, ⟨⟨(some 18), (.bin .add (.tmp 14) (.tmp 17)), none⟩, none⟩, ⟨⟨(some 4), (.mv (.tmp 18)), none⟩, none⟩]) .ret) (.seq (.ops false [⟨⟨(some 20), (.bin .eql (.tmp 11) (.c (.int .i64 (2)))), none⟩, none⟩, ⟨⟨(some 19), (.mv (.tmp 20)), none⟩, none⟩]) (.cond (.tmp 19) (.seq (.ops false [⟨⟨(some 21), (.mv (.tmp 1)), none⟩, none⟩, ⟨⟨(some 22), (.bin .mul (.c (.int .i64 (2))) (.tmp 21)), none⟩, none⟩, ⟨⟨(some 23), (.mv (.tmp 1)), none⟩, none⟩, ⟨⟨(some 24), (.bin .mul (.tmp 22) (.tmp 23)), none⟩, none⟩, ⟨⟨(some 4), (.mv (.tmp 24)), none⟩, none⟩]) .ret) (.seq (.ops false [⟨⟨(some 26), (.bin .eql (.tmp 11) (.c (.int .i64 (3)))), none⟩, none⟩, ⟨⟨(some 25), (.mv (.tmp 26)), none⟩, none⟩]) (.cond (.tmp 25) (.seq (.ops false [⟨⟨(some 27), (.mv (.tmp 1)), none⟩, none⟩, ⟨⟨(some 28), (.bin .add (.tmp 27) (.c (.int .i64 (2)))), none⟩, none⟩, ⟨⟨(some 4), (.mv (.tmp 28)), none⟩, none⟩]) .ret) .skip)))))))) (.seq (.ops false [⟨⟨(some 4), (.mv (.c (.int .i64 (0)))), none⟩, none⟩]) .ret))))
def rs_frame_Many : List ResultVar := [(.tmp 4)]
theorem ir_frame_Many : compCode Try.prog (Try.f27.body.getD .skip) [] = some (xr_frame_Many.erase, []) := by kernel_rfl
/-! frame_Many -/
def gm_frame_Many : Gam := Gam.bot
theorem gk_frame_Many : GamOk Try.prog GG gm_frame_Many := GamOk.bot
def lm_frame_Many : Lam := fun _ j S kn ke => match j with
  | _ => .fail
/-- frame_Many -/
def go_frame_Many (n0 : Int) (n1 : Int) : Option Int :=
  bif (decide (n1 < 1)) then
   some 0
  else
   bif (decide (n1 > 4)) then
    some 0
   else
    bif (n0 == 1) then
     some (IntKind.wrap .i64 (n1 + (IntKind.wrap .i64 (n1 * n1))))
    else
     bif (n0 == 2) then
      some (IntKind.wrap .i64 ((IntKind.wrap .i64 (2 * n1)) * n1))
     else
      bif (n0 == 3) then
       some (IntKind.wrap .i64 (n1 + 2))
      else
       some 0
def em_frame_Many (r : Int) : PV := (.int .i64 r)
def rh_frame_Many : Shp := (.int .i64)
def ra_frame_Many (v : PV) : Int := v.num
def kf_frame_Many (v : PV) : Tree Int := .chk (rh_frame_Many.ok v) (.leaf (ra_frame_Many v))
theorem rn_frame_Many (n0 : Int) (n1 : Int) : (ev GG gm_frame_Many lm_frame_Many xr_frame_Many ⟨slots 29 0 [(0, .p (.int .i64 n0)), (1, .p (.int .i64 n1))], []⟩ (fun S => finT Try.prog rs_frame_Many S kf_frame_Many) (retT Try.prog rs_frame_Many kf_frame_Many)).run = go_frame_Many n0 n1 := by kernel_rfl
theorem ok_frame_Many (n0 : Int) (n1 : Int) (r : Int) (h : go_frame_Many n0 n1 = some r) : FunEq Try.prog GG 27 [(.int .i64 n0), (.int .i64 n1)] (em_frame_Many r) :=
  fun_of_ev (x := xr_frame_Many) (Λ := lm_frame_Many) gk_frame_Many [] Try.func27 rfl (by kernel_rfl) ir_frame_Many (by kernel_rfl) (congrArg Array.toList Try.results27) Try.ntmps27 (⟨trivial, ⟨⟨trivial, ⟨⟨trivial, trivial⟩, trivial⟩⟩, ⟨⟨trivial, ⟨trivial, ⟨⟨trivial, trivial⟩, ⟨trivial, ⟨⟨trivial, trivial⟩, ⟨trivial, ⟨⟨trivial, trivial⟩, trivial⟩⟩⟩⟩⟩⟩⟩, ⟨trivial, trivial⟩⟩⟩⟩) (leaf_of fun v => (by kernel_rfl : rh_frame_Many.build v = em_frame_Many (ra_frame_Many v))) (by kernel_rfl) ((rn_frame_Many n0 n1).trans h)
def as_frame_Many : List Shp := [(.int .i64), (.int .i64)]
def ga_frame_Many (vs : List PV) : Option Int := go_frame_Many ((tls 0 vs).headD .nilSl).num ((tls 1 vs).headD .nilSl).num
theorem at_frame_Many : FnAt Try.prog GG 27 as_frame_Many ga_frame_Many em_frame_Many := fun vs h r hr => by
  have e : Shp.buildL as_frame_Many vs = [(.int .i64 ((tls 0 vs).headD .nilSl).num), (.int .i64 ((tls 1 vs).headD .nilSl).num)] := by kernel_rfl
  rw [← Shp.buildL_eq _ h, e]
  exact ok_frame_Many _ _ r hr

def xr_fx_Right : XR := (.seq (.ops false [⟨⟨(some 2), (.mv (.c (.bool false))), none⟩, none⟩]) (.seq (.ops false [⟨⟨(some 3), (.mv (.tmp 0)), none⟩, none⟩, ⟨⟨(some 4), (.bin .geq (.tmp 3) (.c (.int .i64 (-1125899906842624)))), none⟩, none⟩, ⟨⟨(some 5), (.mv (.tmp 4)), none⟩, none⟩, ⟨⟨(some 6), (.mv (.tmp 0)), (some (5, true))⟩, none⟩, ⟨⟨(some 7), (.bin .leq (.tmp 6) (.c (.int .i64 (1125899906842624)))), (some (5, true))⟩, none⟩, ⟨⟨(some 8), (.pick (.tmp 5) (.tmp 7) (.c (.bool false))), none⟩, none⟩, ⟨⟨(some 2), (.mv (.tmp 8)), none⟩, none⟩]) .ret))
def rs_fx_Right : List ResultVar := [(.tmp 2)]
theorem ir_fx_Right : compCode Try.prog (Try.f26.body.getD .skip) [] = some (xr_fx_Right.erase, []) := by kernel_rfl
/-! fx_Right -/
def gm_fx_Right : Gam := Gam.bot
theorem gk_fx_Right : GamOk Try.prog GG gm_fx_Right := GamOk.bot
def lm_fx_Right : Lam := fun _ j S kn ke => match j with
  | _ => .fail
/-- fx_Right -/
def go_fx_Right (n0 : Int) : Option Bool :=
  bif (decide (n0 ≥ (-1125899906842624))) then
   some (decide (n0 ≤ 1125899906842624))
  else
   some false
def em_fx_Right (r : Bool) : PV := (.bool r)
def rh_fx_Right : Shp := .bool
def ra_fx_Right (v : PV) : Bool := v.tru
def kf_fx_Right (v : PV) : Tree Bool := .chk (rh_fx_Right.ok v) (.leaf (ra_fx_Right v))
theorem rn_fx_Right (n0 : Int) : (ev GG gm_fx_Right lm_fx_Right xr_fx_Right ⟨slots 9 0 [(0, .p (.int .i64 n0))], []⟩ (fun S => finT Try.prog rs_fx_Right S kf_fx_Right) (retT Try.prog rs_fx_Right kf_fx_Right)).run = go_fx_Right n0 := by kernel_rfl
theorem ok_fx_Right (n0 : Int) (r : Bool) (h : go_fx_Right n0 = some r) : FunEq Try.prog GG 26 [(.int .i64 n0)] (em_fx_Right r) :=
  fun_of_ev (x := xr_fx_Right) (Λ := lm_fx_Right) gk_fx_Right [] Try.func26 rfl (by kernel_rfl) ir_fx_Right (by kernel_rfl) (congrArg Array.toList Try.results26) Try.ntmps26 (⟨trivial, ⟨trivial, trivial⟩⟩) (leaf_of fun v => (by kernel_rfl : rh_fx_Right.build v = em_fx_Right (ra_fx_Right v))) (by kernel_rfl) ((rn_fx_Right n0).trans h)
def as_fx_Right : List Shp := [(.int .i64)]
def ga_fx_Right (vs : List PV) : Option Bool := go_fx_Right ((tls 0 vs).headD .nilSl).num
theorem at_fx_Right : FnAt Try.prog GG 26 as_fx_Right ga_fx_Right em_fx_Right := fun vs h r hr => by
  have e : Shp.buildL as_fx_Right vs = [(.int .i64 ((tls 0 vs).headD .nilSl).num)] := by kernel_rfl
  rw [← Shp.buildL_eq _ h, e]
  exact ok_fx_Right _ r hr

def xr_frame_Right_1 : XR := (.seq (.ops false [⟨⟨(some 2), (.mv (.c (.bool false))), none⟩, none⟩]) (.seq (.ops false [⟨⟨(some 3), (.mv (.tmp 0)), none⟩, none⟩, ⟨⟨(some 4), (.call (.func 26) [(.tmp 3)]), none⟩, none⟩, ⟨⟨(some 5), (.un .not (.tmp 4)), none⟩, none⟩, ⟨⟨(some 2), (.mv (.tmp 5)), none⟩, none⟩]) .ret))
def rs_frame_Right_1 : List ResultVar := [(.tmp 2)]
theorem ir_frame_Right_1 : compCode Try.prog (Try.f25.body.getD .skip) [] = some (xr_frame_Right_1.erase, []) := by kernel_rfl
/-! frame_Right_1 -/
def gm_frame_Right_1 : Gam := (Gam.fn 26 as_fx_Right ga_fx_Right em_fx_Right Gam.bot)
theorem gk_frame_Right_1 : GamOk Try.prog GG gm_frame_Right_1 := (GamOk.fn at_fx_Right GamOk.bot)
def lm_frame_Right_1 : Lam := fun _ j S kn ke => match j with
  | _ => .fail
/-- frame_Right_1 -/
def go_frame_Right_1 (n0 : Int) : Option Bool :=
  (go_fx_Right n0).bind fun r1 =>
  some (!r1)
def em_frame_Right_1 (r : Bool) : PV := (.bool r)
def rh_frame_Right_1 : Shp := .bool
def ra_frame_Right_1 (v : PV) : Bool := v.tru
def kf_frame_Right_1 (v : PV) : Tree Bool := .chk (rh_frame_Right_1.ok v) (.leaf (ra_frame_Right_1 v))
theorem rn_frame_Right_1 (n0 : Int) : (ev GG gm_frame_Right_1 lm_frame_Right_1 xr_frame_Right_1 ⟨slots 6 0 [(0, .p (.int .i64 n0))], []⟩ (fun S => finT Try.prog rs_frame_Right_1 S kf_frame_Right_1) (retT Try.prog rs_frame_Right_1 kf_frame_Right_1)).run = go_frame_Right_1 n0 := by kernel_rfl
theorem ok_frame_Right_1 (n0 : Int) (r : Bool) (h : go_frame_Right_1 n0 = some r) : FunEq Try.prog GG 25 [(.int .i64 n0)] (em_frame_Right_1 r) :=
  fun_of_ev (x := xr_frame_Right_1) (Λ := lm_frame_Right_1) gk_frame_Right_1 [] Try.func25 rfl (by kernel_rfl) ir_frame_Right_1 (by kernel_rfl) (congrArg Array.toList Try.results25) Try.ntmps25 (⟨trivial, ⟨trivial, trivial⟩⟩) (leaf_of fun v => (by kernel_rfl : rh_frame_Right_1.build v = em_frame_Right_1 (ra_frame_Right_1 v))) (by kernel_rfl) ((rn_frame_Right_1 n0).trans h)
def as_frame_Right_1 : List Shp := [(.int .i64)]
def ga_frame_Right_1 (vs : List PV) : Option Bool := go_frame_Right_1 ((tls 0 vs).headD .nilSl).num
theorem at_frame_Right_1 : FnAt Try.prog GG 25 as_frame_Right_1 ga_frame_Right_1 em_frame_Right_1 := fun vs h r hr => by
  have e : Shp.buildL as_frame_Right_1 vs = [(.int .i64 ((tls 0 vs).headD .nilSl).num)] := by kernel_rfl
  rw [← Shp.buildL_eq _ h, e]
  exact ok_frame_Right_1 _ r hr

def xb_slices_IndexFunc__int_int_0 : XR := (.seq (.ops false [⟨⟨(some 9), (.bin .lss (.tmp 8) (.tmp 7)), none⟩, none⟩]) (.seq (.cond (.tmp 9) .skip (.exit 0)) (.seq (.block 1 (.seq (.ops false [⟨⟨(some 10), (.mv (.tmp 8)), none⟩, none⟩, ⟨⟨(some 5), (.mv (.tmp 10)), none⟩, none⟩]) (.seq (.ops false [⟨⟨(some 11), (.mv (.tmp 1)), none⟩, none⟩, ⟨⟨(some 12), (.mv (.tmp 0)), none⟩, none⟩, ⟨⟨(some 13), (.mv (.tmp 5)), none⟩, none⟩, ⟨⟨(some 14), (.ixA 1 (.tmp 12) (.tmp 13)), none⟩, none⟩, ⟨⟨(some 15), (.ld false 1 (.tmp 14)), none⟩, (some (.int .i64))⟩, ⟨⟨(some 16), (.call (.tmp 11) [(.tmp 15)]), none⟩, none⟩]) (.cond (.tmp 16) (.seq (.ops false [⟨⟨(some 17), (.mv (.tmp 5)), none⟩, none⟩, ⟨⟨(some 4), (.mv (.tmp 17)), none⟩, none⟩]) .ret) .skip)))) (.ops false [⟨⟨(some 18), (.bin .add (.tmp 8) (.c (.int .i64 (1)))), none⟩, none⟩, ⟨⟨(some 8), (.mv (.tmp 18)), none⟩, none⟩]))))
def xr_slices_IndexFunc__int_int : XR := (.seq (.ops false [⟨⟨(some 4), (.mv (.c (.int .i64 (0)))), none⟩, none⟩]) (.seq (.seq (.ops false [⟨⟨(some 6), (.mv (.tmp 0)), none⟩, none⟩, ⟨⟨(some 7), (.len (.tmp 6)), none⟩, none⟩, ⟨⟨(some 8), (.mv (.c (.int .i64 (0)))), none⟩, none⟩]) (.block 0 (.loop 0 [0, 1, 7, 8] xb_slices_IndexFunc__int_int_0))) (.seq (.ops false [⟨⟨(some 4), (.mv (.c (.int .i64 (-1)))), none⟩, none⟩]) .ret)))
def rs_slices_IndexFunc__int_int : List ResultVar := [(.tmp 4)]
theorem ir_slices_IndexFunc__int_int : compCode Try.prog (Try.f24.body.getD .skip) [[0, 1, 7, 8]] = some (xr_slices_IndexFunc__int_int.erase, []) := by kernel_rfl
/-! slices_IndexFunc__int_int -/
def gm_slices_IndexFunc__int_int : Gam := (Gam.fn 25 as_frame_Right_1 ga_frame_Right_1 em_frame_Right_1 Gam.bot)
theorem gk_slices_IndexFunc__int_int : GamOk Try.prog GG gm_slices_IndexFunc__int_int := (GamOk.fn at_frame_Right_1 GamOk.bot)
def st_slices_IndexFunc__int_int_0 (b3 : Bool) (b4 : Bool) (l5 : List Int) (n6 : Int) (n7 : Int) : Option (((Bool × Bool × List Int × Int × Int)) ⊕ ((Unit) ⊕ (Int))) :=
  bif (decide (n7 < n6)) then
   bif (decide (0 ≤ n7)) then
    bif (decide (n7 < (((List.length l5) : Nat) : Int))) then
     bif (decide ((Int.toNat n7) < (List.length l5))) then
      (go_frame_Right_1 (List.getD l5 (Int.toNat n7) 0)).bind fun r8 =>
      bif r8 then
       some (Sum.inr (Sum.inr n7))
      else
       some (Sum.inl (b3, b4, l5, n6, (IntKind.wrap .i64 (n7 + 1))))
     else none
    else none
   else none
  else
   some (Sum.inr (Sum.inl ()))
def lp_slices_IndexFunc__int_int_0 (b3 : Bool) (b4 : Bool) (l5 : List Int) (n6 : Int) (n7 : Int) : Option ((Unit) ⊕ (Int)) := loopN (X := (Bool × Bool × List Int × Int × Int)) (fun x => st_slices_IndexFunc__int_int_0 x.1 x.2.1 x.2.2.1 x.2.2.2.1 x.2.2.2.2) (b3, b4, l5, n6, n7)
def sh_slices_IndexFunc__int_int_0 : StSh := ⟨19, [(0, (.p (.isl .i64))), (1, (.p (.fn 25 []))), (7, (.p (.int .i64))), (8, (.p (.int .i64)))], []⟩
def sx_slices_IndexFunc__int_int_0 (x : (Bool × Bool × List Int × Int × Int)) : St := ⟨slots 19 0 [(0, (.p (.isl x.1 x.2.1 .i64 x.2.2.1))), (1, (.p (.fn 25 []))), (7, (.p (.int .i64 x.2.2.2.1))), (8, (.p (.int .i64 x.2.2.2.2)))], []⟩
def sa_slices_IndexFunc__int_int_0 (S : St) : (Bool × Bool × List Int × Int × Int) := (((tls 0 S.t).headD .any).pv.nl, ((tls 0 S.t).headD .any).pv.ex, ((tls 0 S.t).headD .any).pv.ints, ((tls 7 S.t).headD .any).pv.num, ((tls 8 S.t).headD .any).pv.num)
def tz_slices_IndexFunc__int_int_0_1 : StSh := ⟨19, [(4, (.p (.int .i64)))], []⟩
def tx_slices_IndexFunc__int_int_0_1 (x : Int) : St := ⟨slots 19 0 [(4, (.p (.int .i64 x)))], []⟩
def ta_slices_IndexFunc__int_int_0_1 (S : St) : Int := ((tls 4 S.t).headD .any).pv.num
def tz_slices_IndexFunc__int_int_0_0 : StSh := ⟨19, [], []⟩
def tx_slices_IndexFunc__int_int_0_0 (x : Unit) : St := ⟨slots 19 0 [], []⟩
def ta_slices_IndexFunc__int_int_0_0 (S : St) : Unit := ()
def kb_slices_IndexFunc__int_int_0 : Exit → St → Tree (((Bool × Bool × List Int × Int × Int)) ⊕ ((Unit) ⊕ (Int))) := (exOne (.exit 0) [] tz_slices_IndexFunc__int_int_0_0 ta_slices_IndexFunc__int_int_0_0 (fun y => Sum.inr ((Sum.inl y))) (exOne .ret [4] tz_slices_IndexFunc__int_int_0_1 ta_slices_IndexFunc__int_int_0_1 (fun y => Sum.inr ((Sum.inr y))) exNil))
def ky_slices_IndexFunc__int_int_0 : Dec ((Unit) ⊕ (Int)) := fun _ y ke => .sum y (fun a => ke ((.exit 0) : EK).ex (tx_slices_IndexFunc__int_int_0_0 a)) (fun y' => ke (.ret : EK).ex (tx_slices_IndexFunc__int_int_0_1 y'))
theorem kk_slices_IndexFunc__int_int_0 : ExOk Sum.inr kb_slices_IndexFunc__int_int_0 ky_slices_IndexFunc__int_int_0 := (ExOk.one (acc := ta_slices_IndexFunc__int_int_0_0) (bY := tx_slices_IndexFunc__int_int_0_0) (inj1 := fun y => (Sum.inl y)) (fun S => by kernel_rfl) (fun y _ ke => .inr (by kernel_rfl)) (ExOk.one (acc := ta_slices_IndexFunc__int_int_0_1) (bY := tx_slices_IndexFunc__int_int_0_1) (inj1 := fun y => (Sum.inr y)) (fun S => by kernel_rfl) (fun y _ ke => .inr (by kernel_rfl)) ExOk.nil))
def lm_slices_IndexFunc__int_int : Lam := fun _ j S kn ke => match j with
  | 0 => prepT [0, 1, 7, 8] [] S fun S => .chk (sh_slices_IndexFunc__int_int_0.ok S) (.bind (loopN (fun x => st_slices_IndexFunc__int_int_0 x.1 x.2.1 x.2.2.1 x.2.2.2.1 x.2.2.2.2) (sa_slices_IndexFunc__int_int_0 S)) fun y => ky_slices_IndexFunc__int_int_0 _ y ke)
  | _ => .fail
theorem sr_slices_IndexFunc__int_int_0 (x : (Bool × Bool × List Int × Int × Int)) : (ev GG gm_slices_IndexFunc__int_int lm_slices_IndexFunc__int_int xb_slices_IndexFunc__int_int_0 (sx_slices_IndexFunc__int_int_0 x) (fun S => forgetT [0, 1, 7, 8] S fun S => prepT [0, 1, 7, 8] [] S fun S => .chk (sh_slices_IndexFunc__int_int_0.ok S) (.leaf (.inl (sa_slices_IndexFunc__int_int_0 S)))) kb_slices_IndexFunc__int_int_0).run = st_slices_IndexFunc__int_int_0 x.1 x.2.1 x.2.2.1 x.2.2.2.1 x.2.2.2.2 := by kernel_rfl
theorem la_slices_IndexFunc__int_int_0 : LamAt Try.prog GG lm_slices_IndexFunc__int_int 0 (.loop [0, 1, 7, 8] xb_slices_IndexFunc__int_int_0.erase) := lam_loop (body := xb_slices_IndexFunc__int_int_0) (Λ' := lm_slices_IndexFunc__int_int) gk_slices_IndexFunc__int_int (⟨trivial, ⟨⟨trivial, trivial⟩, ⟨⟨trivial, ⟨trivial, ⟨⟨trivial, trivial⟩, trivial⟩⟩⟩, trivial⟩⟩⟩) (fun S => (by kernel_rfl : sh_slices_IndexFunc__int_int_0.build S = sx_slices_IndexFunc__int_int_0 (sa_slices_IndexFunc__int_int_0 S))) kk_slices_IndexFunc__int_int_0 sr_slices_IndexFunc__int_int_0 (fun _ _ _ => rfl)
/-- slices_IndexFunc__int_int -/
def go_slices_IndexFunc__int_int (b0 : Bool) (b1 : Bool) (l2 : List Int) : Option Int :=
  (lp_slices_IndexFunc__int_int_0 b0 b1 l2 (((List.length l2) : Nat) : Int) 0).bind fun y9 =>
  Sum.elim (fun z10 =>
   some (-1)) (fun z11 =>
   some z11) y9
def em_slices_IndexFunc__int_int (r : Int) : PV := (.int .i64 r)
def rh_slices_IndexFunc__int_int : Shp := (.int .i64)
def ra_slices_IndexFunc__int_int (v : PV) : Int := v.num
def kf_slices_IndexFunc__int_int (v : PV) : Tree Int := .chk (rh_slices_IndexFunc__int_int.ok v) (.leaf (ra_slices_IndexFunc__int_int v))
theorem rn_slices_IndexFunc__int_int (b0 : Bool) (b1 : Bool) (l2 : List Int) : (ev GG gm_slices_IndexFunc__int_int lm_slices_IndexFunc__int_int xr_slices_IndexFunc__int_int ⟨slots 19 0 [(0, .p (.isl b0 b1 .i64 l2)), (1, .p (.fn 25 []))], []⟩ (fun S => finT Try.prog rs_slices_IndexFunc__int_int S kf_slices_IndexFunc__int_int) (retT Try.prog rs_slices_IndexFunc__int_int kf_slices_IndexFunc__int_int)).run = go_slices_IndexFunc__int_int b0 b1 l2 := by kernel_rfl
theorem ok_slices_IndexFunc__int_int (b0 : Bool) (b1 : Bool) (l2 : List Int) (r : Int) (h : go_slices_IndexFunc__int_int b0 b1 l2 = some r) : FunEq Try.prog GG 24 [(.isl b0 b1 .i64 l2), (.fn 25 [])] (em_slices_IndexFunc__int_int r) :=
  fun_of_ev (x := xr_slices_IndexFunc__int_int) (Λ := lm_slices_IndexFunc__int_int) gk_slices_IndexFunc__int_int [[0, 1, 7, 8]] Try.func24 rfl (by kernel_rfl) ir_slices_IndexFunc__int_int (by kernel_rfl) (congrArg Array.toList Try.results24) Try.ntmps24 (⟨trivial, ⟨⟨trivial, la_slices_IndexFunc__int_int_0⟩, ⟨trivial, trivial⟩⟩⟩) (leaf_of fun v => (by kernel_rfl : rh_slices_IndexFunc__int_int.build v = em_slices_IndexFunc__int_int (ra_slices_IndexFunc__int_int v))) (by kernel_rfl) ((rn_slices_IndexFunc__int_int b0 b1 l2).trans h)
def as_slices_IndexFunc__int_int : List Shp := [(.isl .i64), (.fn 25 [])]
def ga_slices_IndexFunc__int_int (vs : List PV) : Option Int := go_slices_IndexFunc__int_int ((tls 0 vs).headD .nilSl).nl ((tls 0 vs).headD .nilSl).ex ((tls 0 vs).headD .nilSl).ints
theorem at_slices_IndexFunc__int_int : FnAt Try.prog GG 24 as_slices_IndexFunc__int_int ga_slices_IndexFunc__int_int em_slices_IndexFunc__int_int := fun vs h r hr => by
  have e : Shp.buildL as_slices_IndexFunc__int_int vs = [(.isl ((tls 0 vs).headD .nilSl).nl ((tls 0 vs).headD .nilSl).ex .i64 ((tls 0 vs).headD .nilSl).ints), (.fn 25 [])] := by kernel_rfl
  rw [← Shp.buildL_eq _ h, e]
  exact ok_slices_IndexFunc__int_int _ _ _ r hr

def xr_slices_ContainsFunc__int_int : XR := (.seq (.ops false [⟨⟨(some 4), (.mv (.c (.bool false))), none⟩, none⟩]) (.seq (.ops false [⟨⟨(some 5), (.mv (.tmp 0)), none⟩, none⟩, ⟨⟨(some 6), (.mv (.tmp 1)), none⟩, none⟩, ⟨⟨(some 7), (.call (.func 24) [(.tmp 5), (.tmp 6)]), none⟩, none⟩, ⟨⟨(some 8), (.bin .geq (.tmp 7) (.c (.int .i64 (0)))), none⟩, none⟩, ⟨⟨(some 4), (.mv (.tmp 8)), none⟩, none⟩]) .ret))
def rs_slices_ContainsFunc__int_int : List ResultVar := [(.tmp 4)]
theorem ir_slices_ContainsFunc__int_int : compCode Try.prog (Try.f19.body.getD .skip) [] = some (xr_slices_ContainsFunc__int_int.erase, []) := by kernel_rfl
/-! slices_ContainsFunc__int_int -/
def gm_slices_ContainsFunc__int_int : Gam := (Gam.fn 24 as_slices_IndexFunc__int_int ga_slices_IndexFunc__int_int em_slices_IndexFunc__int_int Gam.bot)
theorem gk_slices_ContainsFunc__int_int : GamOk Try.prog GG gm_slices_ContainsFunc__int_int := (GamOk.fn at_slices_IndexFunc__int_int GamOk.bot)
def lm_slices_ContainsFunc__int_int : Lam := fun _ j S kn ke => match j with
  | _ => .fail
/-- slices_ContainsFunc__int_int -/
def go_slices_ContainsFunc__int_int (b0 : Bool) (b1 : Bool) (l2 : List Int) : Option Bool :=
  (go_slices_IndexFunc__int_int b0 b1 l2).bind fun r3 =>
  some (decide (r3 ≥ 0))
def em_slices_ContainsFunc__int_int (r : Bool) : PV := (.bool r)
def rh_slices_ContainsFunc__int_int : Shp := .bool
def ra_slices_ContainsFunc__int_int (v : PV) : Bool := v.tru
def kf_slices_ContainsFunc__int_int (v : PV) : Tree Bool := .chk (rh_slices_ContainsFunc__int_int.ok v) (.leaf (ra_slices_ContainsFunc__int_int v))
theorem rn_slices_ContainsFunc__int_int (b0 : Bool) (b1 : Bool) (l2 : List Int) : (ev GG gm_slices_ContainsFunc__int_int lm_slices_ContainsFunc__int_int xr_slices_ContainsFunc__int_int ⟨slots 9 0 [(0, .p (.isl b0 b1 .i64 l2)), (1, .p (.fn 25 []))], []⟩ (fun S => finT Try.prog rs_slices_ContainsFunc__int_int S kf_slices_ContainsFunc__int_int) (retT Try.prog rs_slices_ContainsFunc__int_int kf_slices_ContainsFunc__int_int)).run = go_slices_ContainsFunc__int_int b0 b1 l2 := by kernel_rfl
theorem ok_slices_ContainsFunc__int_int (b0 : Bool) (b1 : Bool) (l2 : List Int) (r : Bool) (h : go_slices_ContainsFunc__int_int b0 b1 l2 = some r) : FunEq Try.prog GG 19 [(.isl b0 b1 .i64 l2), (.fn 25 [])] (em_slices_ContainsFunc__int_int r) :=
  fun_of_ev (x := xr_slices_ContainsFunc__int_int) (Λ := lm_slices_ContainsFunc__int_int) gk_slices_ContainsFunc__int_int [] Try.func19 rfl (by kernel_rfl) ir_slices_ContainsFunc__int_int (by kernel_rfl) (congrArg Array.toList Try.results19) Try.ntmps19 (⟨trivial, ⟨trivial, trivial⟩⟩) (leaf_of fun v => (by kernel_rfl : rh_slices_ContainsFunc__int_int.build v = em_slices_ContainsFunc__int_int (ra_slices_ContainsFunc__int_int v))) (by kernel_rfl) ((rn_slices_ContainsFunc__int_int b0 b1 l2).trans h)
def as_slices_ContainsFunc__int_int : List Shp := [(.isl .i64), (.fn 25 [])]
def ga_slices_ContainsFunc__int_int (vs : List PV) : Option Bool := go_slices_ContainsFunc__int_int ((tls 0 vs).headD .nilSl).nl ((tls 0 vs).headD .nilSl).ex ((tls 0 vs).headD .nilSl).ints
theorem at_slices_ContainsFunc__int_int : FnAt Try.prog GG 19 as_slices_ContainsFunc__int_int ga_slices_ContainsFunc__int_int em_slices_ContainsFunc__int_int := fun vs h r hr => by
  have e : Shp.buildL as_slices_ContainsFunc__int_int vs = [(.isl ((tls 0 vs).headD .nilSl).nl ((tls 0 vs).headD .nilSl).ex .i64 ((tls 0 vs).headD .nilSl).ints), (.fn 25 [])] := by kernel_rfl
  rw [← Shp.buildL_eq _ h, e]
  exact ok_slices_ContainsFunc__int_int _ _ _ r hr

def xr_frame_Right : XR := (.seq (.ops false [⟨⟨(some 1), (.box 24 (.tmp 0)), none⟩, none⟩, ⟨⟨(some 2), (.mv (.c (.bool false))), none⟩, none⟩]) (.seq (.ops false [⟨⟨(some 3), (.mv (.func 25)), none⟩, none⟩]) (.seq (.ops false [⟨⟨(some 5), (.fldA 0 (.tmp 1)), none⟩, none⟩, ⟨⟨(some 6), (.ld false 1 (.tmp 5)), none⟩, (some (.int .i64))⟩, ⟨⟨(some 7), (.fldA 2 (.tmp 1)), none⟩, none⟩, ⟨⟨(some 8), (.ld false 1 (.tmp 7)), none⟩, (some (.int .i64))⟩, ⟨⟨(some 9), (.call (.func 27) [(.tmp 6), (.tmp 8)]), none⟩, none⟩, ⟨⟨(some 4), (.mv (.tmp 9)), none⟩, none⟩]) (.seq (.ops false [⟨⟨(some 10), (.mv (.tmp 4)), none⟩, none⟩, ⟨⟨(some 11), (.bin .gtr (.tmp 10) (.c (.int .i64 (0)))), none⟩, none⟩, ⟨⟨(some 12), (.mv (.tmp 11)), none⟩, none⟩, ⟨⟨(some 13), (.fldA 3 (.tmp 1)), (some (12, true))⟩, none⟩, ⟨⟨(some 14), (.ld false 1 (.tmp 13)), (some (12, true))⟩, (some (.isl .i64))⟩, ⟨⟨(some 15), (.len (.tmp 14)), (some (12, true))⟩, none⟩, ⟨⟨(some 16), (.mv (.tmp 4)), (some (12, true))⟩, none⟩, ⟨⟨(some 17), (.bin .eql (.tmp 15) (.tmp 16)), (some (12, true))⟩, none⟩, ⟨⟨(some 18), (.pick (.tmp 12) (.tmp 17) (.c (.bool false))), none⟩, none⟩, ⟨⟨(some 19), (.mv (.tmp 18)), none⟩, none⟩, ⟨⟨(some 20), (.fldA 1 (.tmp 1)), (some (19, true))⟩, none⟩, ⟨⟨(some 21), (.ld false 1 (.tmp 20)), (some (19, true))⟩, (some (.int .i64))⟩, ⟨⟨(some 22), (.bin .geq (.tmp 21) (.c (.int .i64 (0)))), (some (19, true))⟩, none⟩, ⟨⟨(some 23), (.pick (.tmp 19) (.tmp 22) (.c (.bool false))), none⟩, none⟩, ⟨⟨(some 24), (.mv (.tmp 23)), none⟩, none⟩, ⟨⟨(some 25), (.fldA 1 (.tmp 1)), (some (24, true))⟩, none⟩, ⟨⟨(some 26), (.ld false 1 (.tmp 25)), (some (24, true))⟩, (some (.int .i64))⟩, ⟨⟨(some 27), (.bin .leq (.tmp 26) (.c (.int .i64 (4294967295)))), (some (24, true))⟩, none⟩, ⟨⟨(some 28), (.pick (.tmp 24) (.tmp 27) (.c (.bool false))), none⟩, none⟩, ⟨⟨(some 29), (.mv (.tmp 28)), none⟩, none⟩, ⟨⟨(some 30), (.fldA 3 (.tmp 1)), (some (29, true))⟩, none⟩, ⟨⟨(some 31), (.ld false 1 (.tmp 30)), (some (29, true))⟩, (some (.isl .i64))⟩, ⟨⟨(some 32), (.mv (.tmp 3)), (some (29, true))⟩, none⟩, ⟨⟨(some 33), (.call (.func 19) [(.tmp 31), (.tmp 32)]), (some (29, true))⟩, none⟩, ⟨⟨(some 34), (.un .not (.tmp 33)), (some (29, true))⟩, none⟩, ⟨⟨(some 35), (.pick (.tmp 29) (.tmp 34) (.c (.bool false))), none⟩, none⟩, ⟨⟨(some 2), (.mv (.tmp 35)), none⟩, none⟩]) .ret))))
def rs_frame_Right : List ResultVar := [(.tmp 2)]
theorem ir_frame_Right : compCode Try.prog (Try.f20.body.getD .skip) [] = some (xr_frame_Right.erase, []) := by kernel_rfl
/-! frame_Right -/
def gm_frame_Right : Gam := (Gam.fn 27 as_frame_Many ga_frame_Many em_frame_Many (Gam.fn 19 as_slices_ContainsFunc__int_int ga_slices_ContainsFunc__int_int em_slices_ContainsFunc__int_int Gam.bot))
theorem gk_frame_Right : GamOk Try.prog GG gm_frame_Right := (GamOk.fn at_frame_Many (GamOk.fn at_slices_ContainsFunc__int_int GamOk.bot))
def lm_frame_Right : Lam := fun _ j S kn ke => match j with
  | _ => .fail
/-- frame_Right -/
def go_frame_Right (n0 : Int) (n1 : Int) (n2 : Int) (b3 : Bool) (b4 : Bool) (l5 : List Int) : Option Bool :=
  (go_frame_Many n0 n2).bind fun r6 =>
  bif (decide (r6 > 0)) then
   bif ((((List.length l5) : Nat) : Int) == r6) then
    bif (decide (n1 ≥ 0)) then
     bif (decide (n1 ≤ 4294967295)) then
      (go_slices_ContainsFunc__int_int b3 b4 l5).bind fun r7 =>
      some (!r7)
     else
      some false
    else
     some false
   else
    some false
  else
   some false
def em_frame_Right (r : Bool) : PV := (.bool r)
def rh_frame_Right : Shp := .bool
def ra_frame_Right (v : PV) : Bool := v.tru
def kf_frame_Right (v : PV) : Tree Bool := .chk (rh_frame_Right.ok v) (.leaf (ra_frame_Right v))
theorem rn_frame_Right (n0 : Int) (n1 : Int) (n2 : Int) (b3 : Bool) (b4 : Bool) (l5 : List Int) : (ev GG gm_frame_Right lm_frame_Right xr_frame_Right ⟨slots 36 0 [(0, .p (.agg [(.int .i64 n0), (.int .i64 n1), (.int .i64 n2), (.isl b3 b4 .i64 l5)]))], []⟩ (fun S => finT Try.prog rs_frame_Right S kf_frame_Right) (retT Try.prog rs_frame_Right kf_frame_Right)).run = go_frame_Right n0 n1 n2 b3 b4 l5 := by kernel_rfl
theorem ok_frame_Right (n0 : Int) (n1 : Int) (n2 : Int) (b3 : Bool) (b4 : Bool) (l5 : List Int) (r : Bool) (h : go_frame_Right n0 n1 n2 b3 b4 l5 = some r) : FunEq Try.prog GG 20 [(.agg [(.int .i64 n0), (.int .i64 n1), (.int .i64 n2), (.isl b3 b4 .i64 l5)])] (em_frame_Right r) :=
  fun_of_ev (x := xr_frame_Right) (Λ := lm_frame_Right) gk_frame_Right [] Try.func20 rfl (by kernel_rfl) ir_frame_Right (by kernel_rfl) (congrArg Array.toList Try.results20) Try.ntmps20 (⟨trivial, ⟨trivial, ⟨trivial, ⟨trivial, trivial⟩⟩⟩⟩) (leaf_of fun v => (by kernel_rfl : rh_frame_Right.build v = em_frame_Right (ra_frame_Right v))) (by kernel_rfl) ((rn_frame_Right n0 n1 n2 b3 b4 l5).trans h)
def as_frame_Right : List Shp := [(.agg [(.int .i64), (.int .i64), (.int .i64), (.isl .i64)])]
def ga_frame_Right (vs : List PV) : Option Bool := go_frame_Right (((tls 0 vs).headD .nilSl).subs.headD .nilSl).num (((tls 0 vs).headD .nilSl).subs.tail.headD .nilSl).num (((tls 0 vs).headD .nilSl).subs.tail.tail.headD .nilSl).num (((tls 0 vs).headD .nilSl).subs.tail.tail.tail.headD .nilSl).nl (((tls 0 vs).headD .nilSl).subs.tail.tail.tail.headD .nilSl).ex (((tls 0 vs).headD .nilSl).subs.tail.tail.tail.headD .nilSl).ints
theorem at_frame_Right : FnAt Try.prog GG 20 as_frame_Right ga_frame_Right em_frame_Right := fun vs h r hr => by
  have e : Shp.buildL as_frame_Right vs = [(.agg [(.int .i64 (((tls 0 vs).headD .nilSl).subs.headD .nilSl).num), (.int .i64 (((tls 0 vs).headD .nilSl).subs.tail.headD .nilSl).num), (.int .i64 (((tls 0 vs).headD .nilSl).subs.tail.tail.headD .nilSl).num), (.isl (((tls 0 vs).headD .nilSl).subs.tail.tail.tail.headD .nilSl).nl (((tls 0 vs).headD .nilSl).subs.tail.tail.tail.headD .nilSl).ex .i64 (((tls 0 vs).headD .nilSl).subs.tail.tail.tail.headD .nilSl).ints)])] := by kernel_rfl
  rw [← Shp.buildL_eq _ h, e]
  exact ok_frame_Right _ _ _ _ _ _ r hr

def xr_slices_Clone__int_int : XR := (.seq (.ops false [⟨⟨(some 2), (.mv (.c (.isl true true .i64 []))), none⟩, none⟩]) (.seq (.seq (.ops false [⟨⟨(some 3), (.mv (.tmp 0)), none⟩, none⟩, ⟨⟨(some 4), (.eqNil false (.tmp 3) (.c (.isl true true .i64 []))), none⟩, none⟩]) (.cond (.tmp 4) (.seq (.ops false [⟨⟨(some 2), (.mv (.c (.isl true true .i64 []))), none⟩, none⟩]) .ret) .skip)) (.seq (.ops false [⟨⟨(some 5), (.bsl 3 (some .i64) 1 []), none⟩, none⟩, ⟨⟨(some 6), (.mv (.tmp 0)), none⟩, none⟩, ⟨⟨(some 7), (.app 3 (some .i64) 1 8 (.tmp 5) (.tmp 6)), none⟩, none⟩, ⟨⟨(some 2), (.mv (.tmp 7)), none⟩, none⟩]) .ret)))
def rs_slices_Clone__int_int : List ResultVar := [(.tmp 2)]
theorem ir_slices_Clone__int_int : compCode Try.prog (Try.f21.body.getD .skip) [] = some (xr_slices_Clone__int_int.erase, []) := by kernel_rfl
/-! slices_Clone__int_int -/
def gm_slices_Clone__int_int : Gam := Gam.bot
theorem gk_slices_Clone__int_int : GamOk Try.prog GG gm_slices_Clone__int_int := GamOk.bot
def lm_slices_Clone__int_int : Lam := fun _ j S kn ke => match j with
  | _ => .fail
/-- slices_Clone__int_int -/
def go_slices_Clone__int_int (b0 : Bool) (b1 : Bool) (l2 : List Int) : Option (Bool × Bool × List Int) :=
  bif (b0 || true) then
   bif (b0 == true) then
    some (true, true, [])
   else
    bif (decide (((0 + (List.length l2)) * 8) ≤ 140737488355328)) then
     bif (decide ((0 + (List.length l2)) ≤ 4611686018427387904)) then
      some ((false && (List.isEmpty l2)), false, ([] ++ l2))
     else none
    else none
  else none
def em_slices_Clone__int_int (r : (Bool × Bool × List Int)) : PV := (.isl r.1 r.2.1 .i64 r.2.2)
def rh_slices_Clone__int_int : Shp := (.isl .i64)
def ra_slices_Clone__int_int (v : PV) : (Bool × Bool × List Int) := (v.nl, v.ex, v.ints)
def kf_slices_Clone__int_int (v : PV) : Tree (Bool × Bool × List Int) := .chk (rh_slices_Clone__int_int.ok v) (.leaf (ra_slices_Clone__int_int v))
theorem rn_slices_Clone__int_int (b0 : Bool) (b1 : Bool) (l2 : List Int) : (ev GG gm_slices_Clone__int_int lm_slices_Clone__int_int xr_slices_Clone__int_int ⟨slots 8 0 [(0, .p (.isl b0 b1 .i64 l2))], []⟩ (fun S => finT Try.prog rs_slices_Clone__int_int S kf_slices_Clone__int_int) (retT Try.prog rs_slices_Clone__int_int kf_slices_Clone__int_int)).run = go_slices_Clone__int_int b0 b1 l2 := by kernel_rfl
theorem ok_slices_Clone__int_int (b0 : Bool) (b1 : Bool) (l2 : List Int) (r : (Bool × Bool × List Int)) (h : go_slices_Clone__int_int b0 b1 l2 = some r) : FunEq Try.prog GG 21 [(.isl b0 b1 .i64 l2)] (em_slices_Clone__int_int r) :=
  fun_of_ev (x := xr_slices_Clone__int_int) (Λ := lm_slices_Clone__int_int) gk_slices_Clone__int_int [] Try.func21 rfl (by kernel_rfl) ir_slices_Clone__int_int (by kernel_rfl) (congrArg Array.toList Try.results21) Try.ntmps21 (⟨trivial, ⟨⟨trivial, ⟨⟨trivial, trivial⟩, trivial⟩⟩, ⟨trivial, trivial⟩⟩⟩) (leaf_of fun v => (by kernel_rfl : rh_slices_Clone__int_int.build v = em_slices_Clone__int_int (ra_slices_Clone__int_int v))) (by kernel_rfl) ((rn_slices_Clone__int_int b0 b1 l2).trans h)
def as_slices_Clone__int_int : List Shp := [(.isl .i64)]
def ga_slices_Clone__int_int (vs : List PV) : Option (Bool × Bool × List Int) := go_slices_Clone__int_int ((tls 0 vs).headD .nilSl).nl ((tls 0 vs).headD .nilSl).ex ((tls 0 vs).headD .nilSl).ints
theorem at_slices_Clone__int_int : FnAt Try.prog GG 21 as_slices_Clone__int_int ga_slices_Clone__int_int em_slices_Clone__int_int := fun vs h r hr => by
  have e : Shp.buildL as_slices_Clone__int_int vs = [(.isl ((tls 0 vs).headD .nilSl).nl ((tls 0 vs).headD .nilSl).ex .i64 ((tls 0 vs).headD .nilSl).ints)] := by kernel_rfl
  rw [← Shp.buildL_eq _ h, e]
  exact ok_slices_Clone__int_int _ _ _ r hr

def xb_check_Parts_0 : XR := (.seq (.ops false [⟨⟨(some 39), (.bin .lss (.tmp 38) (.tmp 37)), none⟩, none⟩]) (.seq (.cond (.tmp 39) .skip (.exit 0)) (.seq (.block 1 (.seq (.ops false [⟨⟨(some 40), (.ixA 1 (.tmp 36) (.tmp 38)), none⟩, none⟩, ⟨⟨(some 41), (.ld false 1 (.tmp 40)), none⟩, (some (.int .i64))⟩, ⟨⟨(some 7), (.mv (.tmp 41)), none⟩, none⟩]) (.seq (.ops false [⟨⟨(some 42), (.mv (.tmp 4)), none⟩, none⟩, ⟨⟨(some 43), (.fldA 3 (.tmp 1)), none⟩, none⟩, ⟨⟨(some 44), (.ld false 1 (.tmp 43)), none⟩, (some (.isl .i64))⟩, ⟨⟨(some 45), (.mv (.tmp 5)), none⟩, none⟩, ⟨⟨(some 46), (.mv (.tmp 7)), none⟩, none⟩, ⟨⟨(some 47), (.slc 1 (.tmp 44) (some (.tmp 45)) (some (.tmp 46)) none), none⟩, none⟩, ⟨⟨(some 48), (.call (.func 21) [(.tmp 47)]), none⟩, none⟩, ⟨⟨(some 49), (.bsl 22 none 1 [(.tmp 48)]), none⟩, none⟩, ⟨⟨(some 50), (.app 22 none 1 24 (.tmp 42) (.tmp 49)), none⟩, none⟩, ⟨⟨(some 4), (.mv (.tmp 50)), none⟩, none⟩]) (.ops false [⟨⟨(some 51), (.mv (.tmp 7)), none⟩, none⟩, ⟨⟨(some 5), (.mv (.tmp 51)), none⟩, none⟩])))) (.ops false [⟨⟨(some 52), (.bin .add (.tmp 38) (.c (.int .i64 (1)))), none⟩, none⟩, ⟨⟨(some 38), (.mv (.tmp 52)), none⟩, none⟩]))))
def xr_check_Parts : XR := (.seq (.ops false [⟨⟨(some 1), (.box 24 (.tmp 0)), none⟩, none⟩, ⟨⟨(some 2), (.mv (.c (.sl true true 1 []))), none⟩, none⟩]) (.seq (.seq (.ops false [⟨⟨(some 8), (.ld true 4 (.tmp 1)), none⟩, (some (.agg [(.int .i64), (.int .i64), (.int .i64), (.isl .i64)]))⟩, ⟨⟨(some 9), (.call (.func 20) [(.tmp 8)]), none⟩, none⟩, ⟨⟨(some 10), (.un .not (.tmp 9)), none⟩, none⟩]) (.cond (.tmp 10) (.seq (.ops false [⟨⟨(some 2), (.mv (.c (.sl true true 1 []))), none⟩, none⟩]) .ret) .skip)) (.seq (.ops false [⟨⟨(some 11), .mkMap, none⟩, none⟩, ⟨⟨(some 12), (.fldA 2 (.tmp 1)), none⟩, none⟩, ⟨⟨(some 13), (.ld false 1 (.tmp 12)), none⟩, (some (.int .i64))⟩, ⟨⟨(some 14), (.bsl 3 (some .i64) 1 [(.tmp 13)]), none⟩, none⟩, ⟨⟨none, (.ins (.tmp 11) (.c (.int .i64 (1))) (.tmp 14)), none⟩, none⟩, ⟨⟨(some 15), (.fldA 2 (.tmp 1)), none⟩, none⟩, ⟨⟨(some 16), (.ld false 1 (.tmp 15)), none⟩, (some (.int .i64))⟩, ⟨⟨(some 17), (.fldA 2 (.tmp 1)), none⟩, none⟩, ⟨⟨(some 18), (.ld false 1 (.tmp 17)), none⟩, (some (.int .i64))⟩, ⟨⟨(some 19), (.bin .mul (.tmp 16) (.tmp 18)), none⟩, none⟩, ⟨⟨(some 20), (.bsl 3 (some .i64) 1 [(.tmp 19)]), none⟩, none⟩, ⟨⟨none, (.ins (.tmp 11) (.c (.int .i64 (2))) (.tmp 20)), none⟩, none⟩, ⟨⟨(some 21), (.fldA 2 (.tmp 1)), none⟩, none⟩, ⟨⟨(some 22), (.ld false 1 (.tmp 21)), none⟩, (some (.int .i64))⟩, ⟨⟨(some 23), (.fldA 2 (.tmp 1)), none⟩, none⟩, ⟨⟨(some 24), (.ld false 1 (.tmp 23)), none⟩, (some (.int .i64))⟩, ⟨⟨(some 25), (.bin .add (.tmp 24) (.c (.int .i64 (1)))), none⟩, none⟩, ⟨⟨(some 26), (.bsl 3 (some .i64) 1 [(.tmp 22), (.tmp 25)]), none⟩, none⟩, ⟨⟨none, (.ins (.tmp 11) (.c (.int .i64 (3))) (.tmp 26)), none⟩, none⟩, ⟨⟨(some 27), (.mv (.tmp 11)), none⟩, none⟩, ⟨⟨(some 28), (.fldA 0 (.tmp 1)), none⟩, none⟩, ⟨⟨(some 29), (.ld false 1 (.tmp 28)), none⟩, (some (.int .i64))⟩, ⟨⟨(some 30), (.look (.isl true true .i64 []) (.tmp 27) (.tmp 29)), none⟩, none⟩, ⟨⟨(some 3), (.mv (.tmp 30)), none⟩, none⟩]) (.seq (.ops false [⟨⟨(some 4), (.mv (.c (.sl true true 1 []))), none⟩, none⟩]) (.seq (.ops false [⟨⟨(some 5), (.mv (.c (.int .i64 (0)))), none⟩, none⟩]) (.seq (.seq (.ops false [⟨⟨(some 31), (.mv (.tmp 3)), none⟩, none⟩, ⟨⟨(some 32), (.fldA 3 (.tmp 1)), none⟩, none⟩, ⟨⟨(some 33), (.ld false 1 (.tmp 32)), none⟩, (some (.isl .i64))⟩, ⟨⟨(some 34), (.len (.tmp 33)), none⟩, none⟩, ⟨⟨(some 35), (.bsl 3 (some .i64) 1 [(.tmp 34)]), none⟩, none⟩, ⟨⟨(some 36), (.app 3 (some .i64) 1 8 (.tmp 31) (.tmp 35)), none⟩, none⟩, ⟨⟨(some 37), (.len (.tmp 36)), none⟩, none⟩, ⟨⟨(some 38), (.mv (.c (.int .i64 (0)))), none⟩, none⟩]) (.block 0 (.loop 0 [1, 4, 5, 36, 37, 38] xb_check_Parts_0))) (.seq (.ops false [⟨⟨(some 53), (.mv (.tmp 4)), none⟩, none⟩, ⟨⟨(some 2), (.mv (.tmp 53)), none⟩, none⟩]) .ret)))))))
def rs_check_Parts : List ResultVar := [(.tmp 2)]
theorem ir_check_Parts : compCode Try.prog (Try.f13.body.getD .skip) [[1, 4, 5, 36, 37, 38]] = some (xr_check_Parts.erase, []) := by kernel_rfl
/-! check_Parts -/
def gm_check_Parts : Gam := (Gam.fn 20 as_frame_Right ga_frame_Right em_frame_Right (Gam.fn 21 as_slices_Clone__int_int ga_slices_Clone__int_int em_slices_Clone__int_int Gam.bot))
theorem gk_check_Parts : GamOk Try.prog GG gm_check_Parts := (GamOk.fn at_frame_Right (GamOk.fn at_slices_Clone__int_int GamOk.bot))
def st_check_Parts_0 (n7 : Int) (n8 : Int) (n9 : Int) (n10 : Int) (n11 : Int) (n12 : Int) (b13 : Bool) (b14 : Bool) (l15 : List Int) (b16 : Bool) (b17 : Bool) (es18 : List PV) (b19 : Bool) (b20 : Bool) (l21 : List Int) : Option (((Int × Int × Int × Int × Int × Int × Bool × Bool × List Int × Bool × Bool × List PV × Bool × Bool × List Int)) ⊕ (((Bool × Bool × List PV)))) :=
  bif (decide (n9 < n8)) then
   bif (decide (0 ≤ n9)) then
    bif (decide (n9 < (((List.length l21) : Nat) : Int))) then
     bif (decide ((Int.toNat n9) < (List.length l21))) then
      bif (decide (0 ≤ n7)) then
       bif (decide (n7 ≤ (List.getD l21 (Int.toNat n9) 0))) then
        bif (decide ((List.getD l21 (Int.toNat n9) 0) ≤ (((List.length l15) : Nat) : Int))) then
         (go_slices_Clone__int_int b13 false (List.take (Int.toNat ((List.getD l21 (Int.toNat n9) 0) - n7)) (List.drop (Int.toNat n7) l15))).bind fun r22 =>
         bif (decide ((((List.length es18) + 1) * 24) ≤ 140737488355328)) then
          bif (decide (((List.length es18) + 1) ≤ 4611686018427387904)) then
           some (Sum.inl ((List.getD l21 (Int.toNat n9) 0), n8, (IntKind.wrap .i64 (n9 + 1)), n10, n11, n12, b13, b14, l15, (b16 && false), false, (es18 ++ [(.isl r22.1 r22.2.1 .i64 r22.2.2)]), b19, b20, l21))
          else none
         else none
        else none
       else none
      else none
     else none
    else none
   else none
  else
   some (Sum.inr (b16, b17, es18))
def lp_check_Parts_0 (n7 : Int) (n8 : Int) (n9 : Int) (n10 : Int) (n11 : Int) (n12 : Int) (b13 : Bool) (b14 : Bool) (l15 : List Int) (b16 : Bool) (b17 : Bool) (es18 : List PV) (b19 : Bool) (b20 : Bool) (l21 : List Int) : Option (((Bool × Bool × List PV))) := loopN (X := (Int × Int × Int × Int × Int × Int × Bool × Bool × List Int × Bool × Bool × List PV × Bool × Bool × List Int)) (fun x => st_check_Parts_0 x.1 x.2.1 x.2.2.1 x.2.2.2.1 x.2.2.2.2.1 x.2.2.2.2.2.1 x.2.2.2.2.2.2.1 x.2.2.2.2.2.2.2.1 x.2.2.2.2.2.2.2.2.1 x.2.2.2.2.2.2.2.2.2.1 x.2.2.2.2.2.2.2.2.2.2.1 x.2.2.2.2.2.2.2.2.2.2.2.1 x.2.2.2.2.2.2.2.2.2.2.2.2.1 x.2.2.2.2.2.2.2.2.2.2.2.2.2.1 x.2.2.2.2.2.2.2.2.2.2.2.2.2.2) (n7, n8, n9, n10, n11, n12, b13, b14, l15, b16, b17, es18, b19, b20, l21)
def sh_check_Parts_0 : StSh := ⟨54, [(1, (.ptr 0 0)), (4, (.row 1)), (5, (.p (.int .i64))), (36, (.row 2)), (37, (.p (.int .i64))), (38, (.p (.int .i64)))], [(.box 24 [(.p (.int .i64)), (.p (.int .i64)), (.p (.int .i64)), (.p (.isl .i64))]), (.row 22 1), (.irow 3 .i64)]⟩
def sx_check_Parts_0 (x : (Int × Int × Int × Int × Int × Int × Bool × Bool × List Int × Bool × Bool × List PV × Bool × Bool × List Int)) : St := ⟨slots 54 0 [(1, (.ptr 0 0)), (4, (.row 1)), (5, (.p (.int .i64 x.1))), (36, (.row 2)), (37, (.p (.int .i64 x.2.1))), (38, (.p (.int .i64 x.2.2.1)))], [(.box 24 [(.p (.int .i64 x.2.2.2.1)), (.p (.int .i64 x.2.2.2.2.1)), (.p (.int .i64 x.2.2.2.2.2.1)), (.p (.isl x.2.2.2.2.2.2.1 x.2.2.2.2.2.2.2.1 .i64 x.2.2.2.2.2.2.2.2.1))]), (.row 22 1 x.2.2.2.2.2.2.2.2.2.1 x.2.2.2.2.2.2.2.2.2.2.1 x.2.2.2.2.2.2.2.2.2.2.2.1), (.irow 3 .i64 x.2.2.2.2.2.2.2.2.2.2.2.2.1 x.2.2.2.2.2.2.2.2.2.2.2.2.2.1 x.2.2.2.2.2.2.2.2.2.2.2.2.2.2)]⟩
def sa_check_Parts_0 (S : St) : (Int × Int × Int × Int × Int × Int × Bool × Bool × List Int × Bool × Bool × List PV × Bool × Bool × List Int) := (((tls 5 S.t).headD .any).pv.num, ((tls 37 S.t).headD .any).pv.num, ((tls 38 S.t).headD .any).pv.num, (((tls 0 S.own).headD .gone).subs.headD .any).pv.num, (((tls 0 S.own).headD .gone).subs.tail.headD .any).pv.num, (((tls 0 S.own).headD .gone).subs.tail.tail.headD .any).pv.num, (((tls 0 S.own).headD .gone).subs.tail.tail.tail.headD .any).pv.nl, (((tls 0 S.own).headD .gone).subs.tail.tail.tail.headD .any).pv.ex, (((tls 0 S.own).headD .gone).subs.tail.tail.tail.headD .any).pv.ints, ((tls 1 S.own).headD .gone).pvD.nl, ((tls 1 S.own).headD .gone).pvD.ex, ((tls 1 S.own).headD .gone).pvD.elts, ((tls 2 S.own).headD .gone).pvD.nl, ((tls 2 S.own).headD .gone).pvD.ex, ((tls 2 S.own).headD .gone).pvD.ints)
def tz_check_Parts_0_0 : StSh := ⟨54, [(4, (.row 0))], [(.row 22 1)]⟩
def tx_check_Parts_0_0 (x : (Bool × Bool × List PV)) : St := ⟨slots 54 0 [(4, (.row 0))], [(.row 22 1 x.1 x.2.1 x.2.2)]⟩
def ta_check_Parts_0_0 (S : St) : (Bool × Bool × List PV) := (((tls 0 S.own).headD .gone).pvD.nl, ((tls 0 S.own).headD .gone).pvD.ex, ((tls 0 S.own).headD .gone).pvD.elts)
def kb_check_Parts_0 : Exit → St → Tree (((Int × Int × Int × Int × Int × Int × Bool × Bool × List Int × Bool × Bool × List PV × Bool × Bool × List Int)) ⊕ (((Bool × Bool × List PV)))) := (exOne (.exit 0) [4] tz_check_Parts_0_0 ta_check_Parts_0_0 (fun y => Sum.inr (y)) exNil)
def ky_check_Parts_0 : Dec (((Bool × Bool × List PV))) := fun _ y ke => ke ((.exit 0) : EK).ex (tx_check_Parts_0_0 y)
theorem kk_check_Parts_0 : ExOk Sum.inr kb_check_Parts_0 ky_check_Parts_0 := (ExOk.one (acc := ta_check_Parts_0_0) (bY := tx_check_Parts_0_0) (inj1 := fun y => y) (fun S => by kernel_rfl) (fun y _ ke => .inr (by kernel_rfl)) ExOk.nil)
def lm_check_Parts : Lam := fun _ j S kn ke => match j with
  | 0 => prepT [1, 4, 5, 36, 37, 38] [(4, 22)] S fun S => .chk (sh_check_Parts_0.ok S) (.bind (loopN (fun x => st_check_Parts_0 x.1 x.2.1 x.2.2.1 x.2.2.2.1 x.2.2.2.2.1 x.2.2.2.2.2.1 x.2.2.2.2.2.2.1 x.2.2.2.2.2.2.2.1 x.2.2.2.2.2.2.2.2.1 x.2.2.2.2.2.2.2.2.2.1 x.2.2.2.2.2.2.2.2.2.2.1 x.2.2.2.2.2.2.2.2.2.2.2.1 x.2.2.2.2.2.2.2.2.2.2.2.2.1 x.2.2.2.2.2.2.2.2.2.2.2.2.2.1 x.2.2.2.2.2.2.2.2.2.2.2.2.2.2) (sa_check_Parts_0 S)) fun y => ky_check_Parts_0 _ y ke)
  | _ => .fail
theorem sr_check_Parts_0 (x : (Int × Int × Int × Int × Int × Int × Bool × Bool × List Int × Bool × Bool × List PV × Bool × Bool × List Int)) : (ev GG gm_check_Parts lm_check_Parts xb_check_Parts_0 (sx_check_Parts_0 x) (fun S => forgetT [1, 4, 5, 36, 37, 38] S fun S => prepT [1, 4, 5, 36, 37, 38] [(4, 22)] S fun S => .chk (sh_check_Parts_0.ok S) (.leaf (.inl (sa_check_Parts_0 S)))) kb_check_Parts_0).run = st_check_Parts_0 x.1 x.2.1 x.2.2.1 x.2.2.2.1 x.2.2.2.2.1 x.2.2.2.2.2.1 x.2.2.2.2.2.2.1 x.2.2.2.2.2.2.2.1 x.2.2.2.2.2.2.2.2.1 x.2.2.2.2.2.2.2.2.2.1 x.2.2.2.2.2.2.2.2.2.2.1 x.2.2.2.2.2.2.2.2.2.2.2.1 x.2.2.2.2.2.2.2.2.2.2.2.2.1 x.2.2.2.2.2.2.2.2.2.2.2.2.2.1 x.2.2.2.2.2.2.2.2.2.2.2.2.2.2 := by kernel_rfl
theorem la_check_Parts_0 : LamAt Try.prog GG lm_check_Parts 0 (.loop [1, 4, 5, 36, 37, 38] xb_check_Parts_0.erase) := lam_loop (body := xb_check_Parts_0) (Λ' := lm_check_Parts) gk_check_Parts (⟨trivial, ⟨⟨trivial, trivial⟩, ⟨⟨trivial, ⟨trivial, trivial⟩⟩, trivial⟩⟩⟩) (fun S => (by kernel_rfl : sh_check_Parts_0.build S = sx_check_Parts_0 (sa_check_Parts_0 S))) kk_check_Parts_0 sr_check_Parts_0 (fun _ _ _ => rfl)
/-- check_Parts -/
def go_check_Parts (n0 : Int) (n1 : Int) (n2 : Int) (b3 : Bool) (b4 : Bool) (l5 : List Int) : Option (Bool × Bool × List PV) :=
  (go_frame_Right n0 n1 n2 b3 b4 l5).bind fun r6 =>
  bif (!r6) then
   some (true, true, [])
  else
   bif (n0 == 1) then
    (lp_check_Parts_0 0 ((2 : Nat) : Int) 0 n0 n1 n2 b3 b4 l5 true true [] (false && false) false [n2, (((List.length l5) : Nat) : Int)]).bind fun y23 =>
    some (y23.1, y23.2.1, y23.2.2)
   else
    bif (n0 == 2) then
     (lp_check_Parts_0 0 ((2 : Nat) : Int) 0 n0 n1 n2 b3 b4 l5 true true [] (false && false) false [(IntKind.wrap .i64 (n2 * n2)), (((List.length l5) : Nat) : Int)]).bind fun y24 =>
     some (y24.1, y24.2.1, y24.2.2)
    else
     bif (n0 == 3) then
      (lp_check_Parts_0 0 ((3 : Nat) : Int) 0 n0 n1 n2 b3 b4 l5 true true [] (false && false) false [n2, (IntKind.wrap .i64 (n2 + 1)), (((List.length l5) : Nat) : Int)]).bind fun y25 =>
      some (y25.1, y25.2.1, y25.2.2)
     else
      (lp_check_Parts_0 0 ((1 : Nat) : Int) 0 n0 n1 n2 b3 b4 l5 true true [] false false [(((List.length l5) : Nat) : Int)]).bind fun y26 =>
      some (y26.1, y26.2.1, y26.2.2)
def em_check_Parts (r : (Bool × Bool × List PV)) : PV := (.sl r.1 r.2.1 1 r.2.2)
def rh_check_Parts : Shp := (.sl 1)
def ra_check_Parts (v : PV) : (Bool × Bool × List PV) := (v.nl, v.ex, v.elts)
def kf_check_Parts (v : PV) : Tree (Bool × Bool × List PV) := .chk (rh_check_Parts.ok v) (.leaf (ra_check_Parts v))
theorem rn_check_Parts (n0 : Int) (n1 : Int) (n2 : Int) (b3 : Bool) (b4 : Bool) (l5 : List Int) : (ev GG gm_check_Parts lm_check_Parts xr_check_Parts ⟨slots 54 0 [(0, .p (.agg [(.int .i64 n0), (.int .i64 n1), (.int .i64 n2), (.isl b3 b4 .i64 l5)]))], []⟩ (fun S => finT Try.prog rs_check_Parts S kf_check_Parts) (retT Try.prog rs_check_Parts kf_check_Parts)).run = go_check_Parts n0 n1 n2 b3 b4 l5 := by kernel_rfl
theorem ok_check_Parts (n0 : Int) (n1 : Int) (n2 : Int) (b3 : Bool) (b4 : Bool) (l5 : List Int) (r : (Bool × Bool × List PV)) (h : go_check_Parts n0 n1 n2 b3 b4 l5 = some r) : FunEq Try.prog GG 13 [(.agg [(.int .i64 n0), (.int .i64 n1), (.int .i64 n2), (.isl b3 b4 .i64 l5)])] (em_check_Parts r) :=
  fun_of_ev (x := xr_check_Parts) (Λ := lm_check_Parts) gk_check_Parts [[1, 4, 5, 36, 37, 38]] Try.func13 rfl (by kernel_rfl) ir_check_Parts (by kernel_rfl) (congrArg Array.toList Try.results13) Try.ntmps13 (⟨trivial, ⟨⟨trivial, ⟨⟨trivial, trivial⟩, trivial⟩⟩, ⟨trivial, ⟨trivial, ⟨trivial, ⟨⟨trivial, la_check_Parts_0⟩, ⟨trivial, trivial⟩⟩⟩⟩⟩⟩⟩) (leaf_of fun v => (by kernel_rfl : rh_check_Parts.build v = em_check_Parts (ra_check_Parts v))) (by kernel_rfl) ((rn_check_Parts n0 n1 n2 b3 b4 l5).trans h)
def as_check_Parts : List Shp := [(.agg [(.int .i64), (.int .i64), (.int .i64), (.isl .i64)])]
def ga_check_Parts (vs : List PV) : Option (Bool × Bool × List PV) := go_check_Parts (((tls 0 vs).headD .nilSl).subs.headD .nilSl).num (((tls 0 vs).headD .nilSl).subs.tail.headD .nilSl).num (((tls 0 vs).headD .nilSl).subs.tail.tail.headD .nilSl).num (((tls 0 vs).headD .nilSl).subs.tail.tail.tail.headD .nilSl).nl (((tls 0 vs).headD .nilSl).subs.tail.tail.tail.headD .nilSl).ex (((tls 0 vs).headD .nilSl).subs.tail.tail.tail.headD .nilSl).ints
theorem at_check_Parts : FnAt Try.prog GG 13 as_check_Parts ga_check_Parts em_check_Parts := fun vs h r hr => by
  have e : Shp.buildL as_check_Parts vs = [(.agg [(.int .i64 (((tls 0 vs).headD .nilSl).subs.headD .nilSl).num), (.int .i64 (((tls 0 vs).headD .nilSl).subs.tail.headD .nilSl).num), (.int .i64 (((tls 0 vs).headD .nilSl).subs.tail.tail.headD .nilSl).num), (.isl (((tls 0 vs).headD .nilSl).subs.tail.tail.tail.headD .nilSl).nl (((tls 0 vs).headD .nilSl).subs.tail.tail.tail.headD .nilSl).ex .i64 (((tls 0 vs).headD .nilSl).subs.tail.tail.tail.headD .nilSl).ints)])] := by kernel_rfl
  rw [← Shp.buildL_eq _ h, e]
  exact ok_check_Parts _ _ _ _ _ _ r hr

def xr_check_Sound_1 : XR := (.seq (.ops false [⟨⟨(some 2), (.mv (.c (.bool false))), none⟩, none⟩]) (.seq (.ops false [⟨⟨(some 3), (.mv (.tmp 0)), none⟩, none⟩, ⟨⟨(some 4), (.bin .gtr (.tmp 3) (.c (.int .i64 (17179869184)))), none⟩, none⟩, ⟨⟨(some 5), (.mv (.tmp 4)), none⟩, none⟩, ⟨⟨(some 6), (.mv (.tmp 0)), (some (5, false))⟩, none⟩, ⟨⟨(some 7), (.bin .lss (.tmp 6) (.c (.int .i64 (-17179869184)))), (some (5, false))⟩, none⟩, ⟨⟨(some 8), (.pick (.tmp 5) (.c (.bool true)) (.tmp 7)), none⟩, none⟩, ⟨⟨(some 2), (.mv (.tmp 8)), none⟩, none⟩]) .ret))
def rs_check_Sound_1 : List ResultVar := [(.tmp 2)]
theorem ir_check_Sound_1 : compCode Try.prog (Try.f18.body.getD .skip) [] = some (xr_check_Sound_1.erase, []) := by kernel_rfl
/-! check_Sound_1 -/
def gm_check_Sound_1 : Gam := Gam.bot
theorem gk_check_Sound_1 : GamOk Try.prog GG gm_check_Sound_1 := GamOk.bot
def lm_check_Sound_1 : Lam := fun _ j S kn ke => match j with
  | _ => .fail
/-- check_Sound_1 -/
def go_check_Sound_1 (n0 : Int) : Option Bool :=
  bif (decide (n0 > 17179869184)) then
   some true
  else
   some (decide (n0 < (-17179869184)))
def em_check_Sound_1 (r : Bool) : PV := (.bool r)
def rh_check_Sound_1 : Shp := .bool
def ra_check_Sound_1 (v : PV) : Bool := v.tru
def kf_check_Sound_1 (v : PV) : Tree Bool := .chk (rh_check_Sound_1.ok v) (.leaf (ra_check_Sound_1 v))
theorem rn_check_Sound_1 (n0 : Int) : (ev GG gm_check_Sound_1 lm_check_Sound_1 xr_check_Sound_1 ⟨slots 9 0 [(0, .p (.int .i64 n0))], []⟩ (fun S => finT Try.prog rs_check_Sound_1 S kf_check_Sound_1) (retT Try.prog rs_check_Sound_1 kf_check_Sound_1)).run = go_check_Sound_1 n0 := by kernel_rfl
theorem ok_check_Sound_1 (n0 : Int) (r : Bool) (h : go_check_Sound_1 n0 = some r) : FunEq Try.prog GG 18 [(.int .i64 n0)] (em_check_Sound_1 r) :=
  fun_of_ev (x := xr_check_Sound_1) (Λ := lm_check_Sound_1) gk_check_Sound_1 [] Try.func18 rfl (by kernel_rfl) ir_check_Sound_1 (by kernel_rfl) (congrArg Array.toList Try.results18) Try.ntmps18 (⟨trivial, ⟨trivial, trivial⟩⟩) (leaf_of fun v => (by kernel_rfl : rh_check_Sound_1.build v = em_check_Sound_1 (ra_check_Sound_1 v))) (by kernel_rfl) ((rn_check_Sound_1 n0).trans h)
def as_check_Sound_1 : List Shp := [(.int .i64)]
def ga_check_Sound_1 (vs : List PV) : Option Bool := go_check_Sound_1 ((tls 0 vs).headD .nilSl).num
theorem at_check_Sound_1 : FnAt Try.prog GG 18 as_check_Sound_1 ga_check_Sound_1 em_check_Sound_1 := fun vs h r hr => by
  have e : Shp.buildL as_check_Sound_1 vs = [(.int .i64 ((tls 0 vs).headD .nilSl).num)] := by kernel_rfl
  rw [← Shp.buildL_eq _ h, e]
  exact ok_check_Sound_1 _ r hr
/-! slices_IndexFunc__int_int -/
def gm_slices_IndexFunc__int_int_v1 : Gam := (Gam.fn 18 as_check_Sound_1 ga_check_Sound_1 em_check_Sound_1 Gam.bot)
theorem gk_slices_IndexFunc__int_int_v1 : GamOk Try.prog GG gm_slices_IndexFunc__int_int_v1 := (GamOk.fn at_check_Sound_1 GamOk.bot)
def st_slices_IndexFunc__int_int_v1_0 (b3 : Bool) (b4 : Bool) (l5 : List Int) (n6 : Int) (n7 : Int) : Option (((Bool × Bool × List Int × Int × Int)) ⊕ ((Unit) ⊕ (Int))) :=
  bif (decide (n7 < n6)) then
   bif (decide (0 ≤ n7)) then
    bif (decide (n7 < (((List.length l5) : Nat) : Int))) then
     bif (decide ((Int.toNat n7) < (List.length l5))) then
      (go_check_Sound_1 (List.getD l5 (Int.toNat n7) 0)).bind fun r8 =>
      bif r8 then
       some (Sum.inr (Sum.inr n7))
      else
       some (Sum.inl (b3, b4, l5, n6, (IntKind.wrap .i64 (n7 + 1))))
     else none
    else none
   else none
  else
   some (Sum.inr (Sum.inl ()))
def lp_slices_IndexFunc__int_int_v1_0 (b3 : Bool) (b4 : Bool) (l5 : List Int) (n6 : Int) (n7 : Int) : Option ((Unit) ⊕ (Int)) := loopN (X := (Bool × Bool × List Int × Int × Int)) (fun x => st_slices_IndexFunc__int_int_v1_0 x.1 x.2.1 x.2.2.1 x.2.2.2.1 x.2.2.2.2) (b3, b4, l5, n6, n7)
def sh_slices_IndexFunc__int_int_v1_0 : StSh := ⟨19, [(0, (.p (.isl .i64))), (1, (.p (.fn 18 []))), (7, (.p (.int .i64))), (8, (.p (.int .i64)))], []⟩
def sx_slices_IndexFunc__int_int_v1_0 (x : (Bool × Bool × List Int × Int × Int)) : St := ⟨slots 19 0 [(0, (.p (.isl x.1 x.2.1 .i64 x.2.2.1))), (1, (.p (.fn 18 []))), (7, (.p (.int .i64 x.2.2.2.1))), (8, (.p (.int .i64 x.2.2.2.2)))], []⟩
def sa_slices_IndexFunc__int_int_v1_0 (S : St) : (Bool × Bool × List Int × Int × Int) := (((tls 0 S.t).headD .any).pv.nl, ((tls 0 S.t).headD .any).pv.ex, ((tls 0 S.t).headD .any).pv.ints, ((tls 7 S.t).headD .any).pv.num, ((tls 8 S.t).headD .any).pv.num)
def tz_slices_IndexFunc__int_int_v1_0_1 : StSh := ⟨19, [(4, (.p (.int .i64)))], []⟩
def tx_slices_IndexFunc__int_int_v1_0_1 (x : Int) : St := ⟨slots 19 0 [(4, (.p (.int .i64 x)))], []⟩
def ta_slices_IndexFunc__int_int_v1_0_1 (S : St) : Int := ((tls 4 S.t).headD .any).pv.num
def tz_slices_IndexFunc__int_int_v1_0_0 : StSh := ⟨19, [], []⟩
def tx_slices_IndexFunc__int_int_v1_0_0 (x : Unit) : St := ⟨slots 19 0 [], []⟩
def ta_slices_IndexFunc__int_int_v1_0_0 (S : St) : Unit := ()
def kb_slices_IndexFunc__int_int_v1_0 : Exit → St → Tree (((Bool × Bool × List Int × Int × Int)) ⊕ ((Unit) ⊕ (Int))) := (exOne (.exit 0) [] tz_slices_IndexFunc__int_int_v1_0_0 ta_slices_IndexFunc__int_int_v1_0_0 (fun y => Sum.inr ((Sum.inl y))) (exOne .ret [4] tz_slices_IndexFunc__int_int_v1_0_1 ta_slices_IndexFunc__int_int_v1_0_1 (fun y => Sum.inr ((Sum.inr y))) exNil))
def ky_slices_IndexFunc__int_int_v1_0 : Dec ((Unit) ⊕ (Int)) := fun _ y ke => .sum y (fun a => ke ((.exit 0) : EK).ex (tx_slices_IndexFunc__int_int_v1_0_0 a)) (fun y' => ke (.ret : EK).ex (tx_slices_IndexFunc__int_int_v1_0_1 y'))
theorem kk_slices_IndexFunc__int_int_v1_0 : ExOk Sum.inr kb_slices_IndexFunc__int_int_v1_0 ky_slices_IndexFunc__int_int_v1_0 := (ExOk.one (acc := ta_slices_IndexFunc__int_int_v1_0_0) (bY := tx_slices_IndexFunc__int_int_v1_0_0) (inj1 := fun y => (Sum.inl y)) (fun S => by kernel_rfl) (fun y _ ke => .inr (by kernel_rfl)) (ExOk.one (acc := ta_slices_IndexFunc__int_int_v1_0_1) (bY := tx_slices_IndexFunc__int_int_v1_0_1) (inj1 := fun y => (Sum.inr y)) (fun S => by kernel_rfl) (fun y _ ke => .inr (by kernel_rfl)) ExOk.nil))
def lm_slices_IndexFunc__int_int_v1 : Lam := fun _ j S kn ke => match j with
  | 0 => prepT [0, 1, 7, 8] [] S fun S => .chk (sh_slices_IndexFunc__int_int_v1_0.ok S) (.bind (loopN (fun x => st_slices_IndexFunc__int_int_v1_0 x.1 x.2.1 x.2.2.1 x.2.2.2.1 x.2.2.2.2) (sa_slices_IndexFunc__int_int_v1_0 S)) fun y => ky_slices_IndexFunc__int_int_v1_0 _ y ke)
  | _ => .fail
theorem sr_slices_IndexFunc__int_int_v1_0 (x : (Bool × Bool × List Int × Int × Int)) : (ev GG gm_slices_IndexFunc__int_int_v1 lm_slices_IndexFunc__int_int_v1 xb_slices_IndexFunc__int_int_0 (sx_slices_IndexFunc__int_int_v1_0 x) (fun S => forgetT [0, 1, 7, 8] S fun S => prepT [0, 1, 7, 8] [] S fun S => .chk (sh_slices_IndexFunc__int_int_v1_0.ok S) (.leaf (.inl (sa_slices_IndexFunc__int_int_v1_0 S)))) kb_slices_IndexFunc__int_int_v1_0).run = st_slices_IndexFunc__int_int_v1_0 x.1 x.2.1 x.2.2.1 x.2.2.2.1 x.2.2.2.2 := by kernel_rfl
theorem la_slices_IndexFunc__int_int_v1_0 : LamAt Try.prog GG lm_slices_IndexFunc__int_int_v1 0 (.loop [0, 1, 7, 8] xb_slices_IndexFunc__int_int_0.erase) := lam_loop (body := xb_slices_IndexFunc__int_int_0) (Λ' := lm_slices_IndexFunc__int_int_v1) gk_slices_IndexFunc__int_int_v1 (⟨trivial, ⟨⟨trivial, trivial⟩, ⟨⟨trivial, ⟨trivial, ⟨⟨trivial, trivial⟩, trivial⟩⟩⟩, trivial⟩⟩⟩) (fun S => (by kernel_rfl : sh_slices_IndexFunc__int_int_v1_0.build S = sx_slices_IndexFunc__int_int_v1_0 (sa_slices_IndexFunc__int_int_v1_0 S))) kk_slices_IndexFunc__int_int_v1_0 sr_slices_IndexFunc__int_int_v1_0 (fun _ _ _ => rfl)
/-- slices_IndexFunc__int_int -/
def go_slices_IndexFunc__int_int_v1 (b0 : Bool) (b1 : Bool) (l2 : List Int) : Option Int :=
  (lp_slices_IndexFunc__int_int_v1_0 b0 b1 l2 (((List.length l2) : Nat) : Int) 0).bind fun y9 =>
  Sum.elim (fun z10 =>
   some (-1)) (fun z11 =>
   some z11) y9
def em_slices_IndexFunc__int_int_v1 (r : Int) : PV := (.int .i64 r)
def rh_slices_IndexFunc__int_int_v1 : Shp := (.int .i64)
def ra_slices_IndexFunc__int_int_v1 (v : PV) : Int := v.num
def kf_slices_IndexFunc__int_int_v1 (v : PV) : Tree Int := .chk (rh_slices_IndexFunc__int_int_v1.ok v) (.leaf (ra_slices_IndexFunc__int_int_v1 v))
theorem rn_slices_IndexFunc__int_int_v1 (b0 : Bool) (b1 : Bool) (l2 : List Int) : (ev GG gm_slices_IndexFunc__int_int_v1 lm_slices_IndexFunc__int_int_v1 xr_slices_IndexFunc__int_int ⟨slots 19 0 [(0, .p (.isl b0 b1 .i64 l2)), (1, .p (.fn 18 []))], []⟩ (fun S => finT Try.prog rs_slices_IndexFunc__int_int S kf_slices_IndexFunc__int_int_v1) (retT Try.prog rs_slices_IndexFunc__int_int kf_slices_IndexFunc__int_int_v1)).run = go_slices_IndexFunc__int_int_v1 b0 b1 l2 := by kernel_rfl
theorem ok_slices_IndexFunc__int_int_v1 (b0 : Bool) (b1 : Bool) (l2 : List Int) (r : Int) (h : go_slices_IndexFunc__int_int_v1 b0 b1 l2 = some r) : FunEq Try.prog GG 24 [(.isl b0 b1 .i64 l2), (.fn 18 [])] (em_slices_IndexFunc__int_int_v1 r) :=
  fun_of_ev (x := xr_slices_IndexFunc__int_int) (Λ := lm_slices_IndexFunc__int_int_v1) gk_slices_IndexFunc__int_int_v1 [[0, 1, 7, 8]] Try.func24 rfl (by kernel_rfl) ir_slices_IndexFunc__int_int (by kernel_rfl) (congrArg Array.toList Try.results24) Try.ntmps24 (⟨trivial, ⟨⟨trivial, la_slices_IndexFunc__int_int_v1_0⟩, ⟨trivial, trivial⟩⟩⟩) (leaf_of fun v => (by kernel_rfl : rh_slices_IndexFunc__int_int_v1.build v = em_slices_IndexFunc__int_int_v1 (ra_slices_IndexFunc__int_int_v1 v))) (by kernel_rfl) ((rn_slices_IndexFunc__int_int_v1 b0 b1 l2).trans h)
def as_slices_IndexFunc__int_int_v1 : List Shp := [(.isl .i64), (.fn 18 [])]
def ga_slices_IndexFunc__int_int_v1 (vs : List PV) : Option Int := go_slices_IndexFunc__int_int_v1 ((tls 0 vs).headD .nilSl).nl ((tls 0 vs).headD .nilSl).ex ((tls 0 vs).headD .nilSl).ints
theorem at_slices_IndexFunc__int_int_v1 : FnAt Try.prog GG 24 as_slices_IndexFunc__int_int_v1 ga_slices_IndexFunc__int_int_v1 em_slices_IndexFunc__int_int_v1 := fun vs h r hr => by
  have e : Shp.buildL as_slices_IndexFunc__int_int_v1 vs = [(.isl ((tls 0 vs).headD .nilSl).nl ((tls 0 vs).headD .nilSl).ex .i64 ((tls 0 vs).headD .nilSl).ints), (.fn 18 [])] := by kernel_rfl
  rw [← Shp.buildL_eq _ h, e]
  exact ok_slices_IndexFunc__int_int_v1 _ _ _ r hr
/-! slices_ContainsFunc__int_int -/
def gm_slices_ContainsFunc__int_int_v1 : Gam := (Gam.fn 24 as_slices_IndexFunc__int_int_v1 ga_slices_IndexFunc__int_int_v1 em_slices_IndexFunc__int_int_v1 Gam.bot)
theorem gk_slices_ContainsFunc__int_int_v1 : GamOk Try.prog GG gm_slices_ContainsFunc__int_int_v1 := (GamOk.fn at_slices_IndexFunc__int_int_v1 GamOk.bot)
def lm_slices_ContainsFunc__int_int_v1 : Lam := fun _ j S kn ke => match j with
  | _ => .fail
/-- slices_ContainsFunc__int_int -/
def go_slices_ContainsFunc__int_int_v1 (b0 : Bool) (b1 : Bool) (l2 : List Int) : Option Bool :=
  (go_slices_IndexFunc__int_int_v1 b0 b1 l2).bind fun r3 =>
  some (decide (r3 ≥ 0))
def em_slices_ContainsFunc__int_int_v1 (r : Bool) : PV := (.bool r)
def rh_slices_ContainsFunc__int_int_v1 : Shp := .bool
def ra_slices_ContainsFunc__int_int_v1 (v : PV) : Bool := v.tru
def kf_slices_ContainsFunc__int_int_v1 (v : PV) : Tree Bool := .chk (rh_slices_ContainsFunc__int_int_v1.ok v) (.leaf (ra_slices_ContainsFunc__int_int_v1 v))
theorem rn_slices_ContainsFunc__int_int_v1 (b0 : Bool) (b1 : Bool) (l2 : List Int) : (ev GG gm_slices_ContainsFunc__int_int_v1 lm_slices_ContainsFunc__int_int_v1 xr_slices_ContainsFunc__int_int ⟨slots 9 0 [(0, .p (.isl b0 b1 .i64 l2)), (1, .p (.fn 18 []))], []⟩ (fun S => finT Try.prog rs_slices_ContainsFunc__int_int S kf_slices_ContainsFunc__int_int_v1) (retT Try.prog rs_slices_ContainsFunc__int_int kf_slices_ContainsFunc__int_int_v1)).run = go_slices_ContainsFunc__int_int_v1 b0 b1 l2 := by kernel_rfl
theorem ok_slices_ContainsFunc__int_int_v1 (b0 : Bool) (b1 : Bool) (l2 : List Int) (r : Bool) (h : go_slices_ContainsFunc__int_int_v1 b0 b1 l2 = some r) : FunEq Try.prog GG 19 [(.isl b0 b1 .i64 l2), (.fn 18 [])] (em_slices_ContainsFunc__int_int_v1 r) :=
  fun_of_ev (x := xr_slices_ContainsFunc__int_int) (Λ := lm_slices_ContainsFunc__int_int_v1) gk_slices_ContainsFunc__int_int_v1 [] Try.func19 rfl (by kernel_rfl) ir_slices_ContainsFunc__int_int (by kernel_rfl) (congrArg Array.toList Try.results19) Try.ntmps19 (⟨trivial, ⟨trivial, trivial⟩⟩) (leaf_of fun v => (by kernel_rfl : rh_slices_ContainsFunc__int_int_v1.build v = em_slices_ContainsFunc__int_int_v1 (ra_slices_ContainsFunc__int_int_v1 v))) (by kernel_rfl) ((rn_slices_ContainsFunc__int_int_v1 b0 b1 l2).trans h)
def as_slices_ContainsFunc__int_int_v1 : List Shp := [(.isl .i64), (.fn 18 [])]
def ga_slices_ContainsFunc__int_int_v1 (vs : List PV) : Option Bool := go_slices_ContainsFunc__int_int_v1 ((tls 0 vs).headD .nilSl).nl ((tls 0 vs).headD .nilSl).ex ((tls 0 vs).headD .nilSl).ints
theorem at_slices_ContainsFunc__int_int_v1 : FnAt Try.prog GG 19 as_slices_ContainsFunc__int_int_v1 ga_slices_ContainsFunc__int_int_v1 em_slices_ContainsFunc__int_int_v1 := fun vs h r hr => by
  have e : Shp.buildL as_slices_ContainsFunc__int_int_v1 vs = [(.isl ((tls 0 vs).headD .nilSl).nl ((tls 0 vs).headD .nilSl).ex .i64 ((tls 0 vs).headD .nilSl).ints), (.fn 18 [])] := by kernel_rfl
  rw [← Shp.buildL_eq _ h, e]
  exact ok_slices_ContainsFunc__int_int_v1 _ _ _ r hr

def xb_check_Sound_0 : XR := (.seq (.ops false [⟨⟨(some 35), (.bin .lss (.tmp 34) (.tmp 33)), none⟩, none⟩]) (.seq (.cond (.tmp 35) .skip (.exit 1)) (.seq (.block 2 (.seq (.ops false [⟨⟨(some 36), (.mv (.tmp 34)), none⟩, none⟩, ⟨⟨(some 5), (.mv (.tmp 36)), none⟩, none⟩]) (.seq (.ops true [⟨⟨(some 37), (.mv (.tmp 4)), none⟩, none⟩, ⟨⟨(some 38), (.ixA 1 (.tmp 37) (.c (.int .i64 (1)))), none⟩, none⟩, ⟨⟨(some 39), (.ld false 1 (.tmp 38)), none⟩, (some (.isl .i64))⟩, ⟨⟨(some 40), (.mv (.tmp 5)), none⟩, none⟩, ⟨⟨(some 41), (.fldA 2 (.tmp 1)), none⟩, none⟩, ⟨⟨(some 42), (.ld false 1 (.tmp 41)), none⟩, (some (.int .i64))⟩, ⟨⟨(some 43), (.bin .mul (.tmp 40) (.tmp 42)), none⟩, none⟩, ⟨⟨(some 44), (.mv (.tmp 5)), none⟩, none⟩, ⟨⟨(some 45), (.bin .add (.tmp 43) (.tmp 44)), none⟩, none⟩, ⟨⟨(some 46), (.ixA 1 (.tmp 39) (.tmp 45)), none⟩, none⟩, ⟨⟨(some 47), (.ld false 1 (.tmp 46)), none⟩, (some (.int .i64))⟩, ⟨⟨(some 48), (.bin .lss (.tmp 47) (.c (.int .i64 (65536)))), none⟩, none⟩]) (.cond (.tmp 48) (.seq (.ops false [⟨⟨(some 2), (.mv (.c (.int .i64 (9)))), none⟩, none⟩]) .ret) .skip)))) (.ops false [⟨⟨(some 49), (.bin .add (.tmp 34) (.c (.int .i64 (1)))), none⟩, none⟩, ⟨⟨(some 34), (.mv (.tmp 49)), none⟩, none⟩]))))
def xr_check_Sound : XR := (.seq (.ops false [⟨⟨(some 1), (.box 24 (.tmp 0)), none⟩, none⟩, ⟨⟨(some 2), (.mv (.c (.int .i64 (0)))), none⟩, none⟩]) (.seq (.ops false [⟨⟨(some 3), (.mv (.func 18)), none⟩, none⟩]) (.seq (.ops false [⟨⟨(some 6), (.ld true 4 (.tmp 1)), none⟩, (some (.agg [(.int .i64), (.int .i64), (.int .i64), (.isl .i64)]))⟩, ⟨⟨(some 7), (.call (.func 13) [(.tmp 6)]), none⟩, none⟩, ⟨⟨(some 4), (.mv (.tmp 7)), none⟩, none⟩]) (.seq (.block 0 (.seq (.ops false [⟨⟨(some 9), (.mv (.tmp 4)), none⟩, none⟩, ⟨⟨(some 10), (.eqNil false (.tmp 9) (.c (.sl true true 1 []))), none⟩, none⟩, ⟨⟨(some 8), (.mv (.tmp 10)), none⟩, none⟩]) (.cond (.tmp 8) (.seq (.ops false [⟨⟨(some 2), (.mv (.c (.int .i64 (1)))), none⟩, none⟩]) .ret) (.seq (.ops false [⟨⟨(some 12), (.fldA 3 (.tmp 1)), none⟩, none⟩, ⟨⟨(some 13), (.ld false 1 (.tmp 12)), none⟩, (some (.isl .i64))⟩, ⟨⟨(some 14), (.mv (.tmp 3)), none⟩, none⟩, ⟨⟨(some 15), (.call (.func 19) [(.tmp 13), (.tmp 14)]), none⟩, none⟩, ⟨⟨(some 11), (.mv (.tmp 15)), none⟩, none⟩]) (.cond (.tmp 11) (.seq (.ops false [⟨⟨(some 2), (.mv (.c (.int .i64 (3)))), none⟩, none⟩]) .ret) (.seq (.ops false [⟨⟨(some 17), (.fldA 0 (.tmp 1)), none⟩, none⟩, ⟨⟨(some 18), (.ld false 1 (.tmp 17)), none⟩, (some (.int .i64))⟩, ⟨⟨(some 19), (.bin .eql (.tmp 18) (.c (.int .i64 (3)))), none⟩, none⟩, ⟨⟨(some 20), (.mv (.tmp 19)), none⟩, none⟩, ⟨⟨(some 21), (.mv (.tmp 4)), (some (20, true))⟩, none⟩, ⟨⟨(some 22), (.ixA 1 (.tmp 21) (.c (.int .i64 (1)))), (some (20, true))⟩, none⟩, ⟨⟨(some 23), (.ld false 1 (.tmp 22)), (some (20, true))⟩, (some (.isl .i64))⟩, ⟨⟨(some 24), (.ixA 1 (.tmp 23) (.c (.int .i64 (0)))), (some (20, true))⟩, none⟩, ⟨⟨(some 25), (.ld false 1 (.tmp 24)), (some (20, true))⟩, (some (.int .i64))⟩, ⟨⟨(some 26), (.bin .lss (.tmp 25) (.c (.int .i64 (65536)))), (some (20, true))⟩, none⟩, ⟨⟨(some 27), (.pick (.tmp 20) (.tmp 26) (.c (.bool false))), none⟩, none⟩, ⟨⟨(some 16), (.mv (.tmp 27)), none⟩, none⟩]) (.cond (.tmp 16) (.seq (.ops false [⟨⟨(some 2), (.mv (.c (.int .i64 (9)))), none⟩, none⟩]) .ret) (.seq (.ops false [⟨⟨(some 29), (.fldA 0 (.tmp 1)), none⟩, none⟩, ⟨⟨(some 30), (.ld false 1 (.tmp 29)), none⟩, (some (.int .i64))⟩, ⟨⟨(some 31), (.bin .eql (.tmp 30) (.c (.int .i64 (3)))), none⟩, none⟩, ⟨⟨(some 28), (.mv (.tmp 31)), none⟩, none⟩]) (.cond (.tmp 28) (.seq (.ops false [⟨⟨(some 2), (.mv (.c (.int .i64 (0)))), none⟩, none⟩]) .ret) .skip))))))))) (.seq (.seq (.ops false [⟨⟨(some 32), (.fldA 2 (.tmp 1)), none⟩, none⟩, ⟨⟨(some 33), (.ld false 1 (.tmp 32)), none⟩, (some (.int .i64))⟩, ⟨⟨(some 34), (.mv (.c (.int .i64 (0)))), none⟩, none⟩]) (.block 1 (.loop 0 [1, 4, 33, 34] xb_check_Sound_0))) (.seq (.ops false [⟨⟨(some 2), (.mv (.c (.int .i64 (0)))), none⟩, none⟩]) .ret))))))
def rs_check_Sound : List ResultVar := [(.tmp 2)]
theorem ir_check_Sound : compCode Try.prog (Try.f10.body.getD .skip) [[1, 4, 33, 34]] = some (xr_check_Sound.erase, []) := by kernel_rfl
/-! check_Sound -/
def gm_check_Sound : Gam := (Gam.fn 13 as_check_Parts ga_check_Parts em_check_Parts (Gam.fn 19 as_slices_ContainsFunc__int_int_v1 ga_slices_ContainsFunc__int_int_v1 em_slices_ContainsFunc__int_int_v1 Gam.bot))
theorem gk_check_Sound : GamOk Try.prog GG gm_check_Sound := (GamOk.fn at_check_Parts (GamOk.fn at_slices_ContainsFunc__int_int_v1 GamOk.bot))
def st_check_Sound_0 (b8 : Bool) (b9 : Bool) (es10 : List PV) (n11 : Int) (n12 : Int) (n13 : Int) (n14 : Int) (n15 : Int) (b16 : Bool) (b17 : Bool) (l18 : List Int) : Option (((Bool × Bool × List PV × Int × Int × Int × Int × Int × Bool × Bool × List Int)) ⊕ ((Unit) ⊕ (Int))) :=
  bif (decide (n12 < n11)) then
   bif (decide (1 < (((List.length es10) : Nat) : Int))) then
    bif (decide (1 < (List.length es10))) then
     bif (PV.scal (List.getD es10 1 .nilSl)) then
      bif (Shp.ok (.isl .i64) (List.getD es10 1 .nilSl)) then
       bif (decide (0 ≤ (IntKind.wrap .i64 ((IntKind.wrap .i64 (n12 * n15)) + n12)))) then
        bif (decide ((IntKind.wrap .i64 ((IntKind.wrap .i64 (n12 * n15)) + n12)) < (((List.length (PV.ints (List.getD es10 1 .nilSl))) : Nat) : Int))) then
         bif (decide ((Int.toNat (IntKind.wrap .i64 ((IntKind.wrap .i64 (n12 * n15)) + n12))) < (List.length (PV.ints (List.getD es10 1 .nilSl))))) then
          bif (decide ((List.getD (PV.ints (List.getD es10 1 .nilSl)) (Int.toNat (IntKind.wrap .i64 ((IntKind.wrap .i64 (n12 * n15)) + n12))) 0) < 65536)) then
           some (Sum.inr (Sum.inr 9))
          else
           some (Sum.inl (b8, b9, es10, n11, (IntKind.wrap .i64 (n12 + 1)), n13, n14, n15, b16, b17, l18))
         else none
        else none
       else none
      else none
     else none
    else none
   else none
  else
   some (Sum.inr (Sum.inl ()))
def lp_check_Sound_0 (b8 : Bool) (b9 : Bool) (es10 : List PV) (n11 : Int) (n12 : Int) (n13 : Int) (n14 : Int) (n15 : Int) (b16 : Bool) (b17 : Bool) (l18 : List Int) : Option ((Unit) ⊕ (Int)) := loopN (X := (Bool × Bool × List PV × Int × Int × Int × Int × Int × Bool × Bool × List Int)) (fun x => st_check_Sound_0 x.1 x.2.1 x.2.2.1 x.2.2.2.1 x.2.2.2.2.1 x.2.2.2.2.2.1 x.2.2.2.2.2.2.1 x.2.2.2.2.2.2.2.1 x.2.2.2.2.2.2.2.2.1 x.2.2.2.2.2.2.2.2.2.1 x.2.2.2.2.2.2.2.2.2.2) (b8, b9, es10, n11, n12, n13, n14, n15, b16, b17, l18)
def sh_check_Sound_0 : StSh := ⟨50, [(1, (.ptr 0 0)), (4, (.p (.sl 1))), (33, (.p (.int .i64))), (34, (.p (.int .i64)))], [(.box 24 [(.p (.int .i64)), (.p (.int .i64)), (.p (.int .i64)), (.p (.isl .i64))])]⟩
def sx_check_Sound_0 (x : (Bool × Bool × List PV × Int × Int × Int × Int × Int × Bool × Bool × List Int)) : St := ⟨slots 50 0 [(1, (.ptr 0 0)), (4, (.p (.sl x.1 x.2.1 1 x.2.2.1))), (33, (.p (.int .i64 x.2.2.2.1))), (34, (.p (.int .i64 x.2.2.2.2.1)))], [(.box 24 [(.p (.int .i64 x.2.2.2.2.2.1)), (.p (.int .i64 x.2.2.2.2.2.2.1)), (.p (.int .i64 x.2.2.2.2.2.2.2.1)), (.p (.isl x.2.2.2.2.2.2.2.2.1 x.2.2.2.2.2.2.2.2.2.1 .i64 x.2.2.2.2.2.2.2.2.2.2))])]⟩
def sa_check_Sound_0 (S : St) : (Bool × Bool × List PV × Int × Int × Int × Int × Int × Bool × Bool × List Int) := (((tls 4 S.t).headD .any).pv.nl, ((tls 4 S.t).headD .any).pv.ex, ((tls 4 S.t).headD .any).pv.elts, ((tls 33 S.t).headD .any).pv.num, ((tls 34 S.t).headD .any).pv.num, (((tls 0 S.own).headD .gone).subs.headD .any).pv.num, (((tls 0 S.own).headD .gone).subs.tail.headD .any).pv.num, (((tls 0 S.own).headD .gone).subs.tail.tail.headD .any).pv.num, (((tls 0 S.own).headD .gone).subs.tail.tail.tail.headD .any).pv.nl, (((tls 0 S.own).headD .gone).subs.tail.tail.tail.headD .any).pv.ex, (((tls 0 S.own).headD .gone).subs.tail.tail.tail.headD .any).pv.ints)
def tz_check_Sound_0_1 : StSh := ⟨50, [(2, (.p (.int .i64)))], []⟩
def tx_check_Sound_0_1 (x : Int) : St := ⟨slots 50 0 [(2, (.p (.int .i64 x)))], []⟩
def ta_check_Sound_0_1 (S : St) : Int := ((tls 2 S.t).headD .any).pv.num
def tz_check_Sound_0_0 : StSh := ⟨50, [], []⟩
def tx_check_Sound_0_0 (x : Unit) : St := ⟨slots 50 0 [], []⟩
def ta_check_Sound_0_0 (S : St) : Unit := ()
def kb_check_Sound_0 : Exit → St → Tree (((Bool × Bool × List PV × Int × Int × Int × Int × Int × Bool × Bool × List Int)) ⊕ ((Unit) ⊕ (Int))) := (exOne (.exit 1) [] tz_check_Sound_0_0 ta_check_Sound_0_0 (fun y => Sum.inr ((Sum.inl y))) (exOne .ret [2] tz_check_Sound_0_1 ta_check_Sound_0_1 (fun y => Sum.inr ((Sum.inr y))) exNil))
def ky_check_Sound_0 : Dec ((Unit) ⊕ (Int)) := fun _ y ke => .sum y (fun a => ke ((.exit 1) : EK).ex (tx_check_Sound_0_0 a)) (fun y' => ke (.ret : EK).ex (tx_check_Sound_0_1 y'))
theorem kk_check_Sound_0 : ExOk Sum.inr kb_check_Sound_0 ky_check_Sound_0 := (ExOk.one (acc := ta_check_Sound_0_0) (bY := tx_check_Sound_0_0) (inj1 := fun y => (Sum.inl y)) (fun S => by kernel_rfl) (fun y _ ke => .inr (by kernel_rfl)) (ExOk.one (acc := ta_check_Sound_0_1) (bY := tx_check_Sound_0_1) (inj1 := fun y => (Sum.inr y)) (fun S => by kernel_rfl) (fun y _ ke => .inr (by kernel_rfl)) ExOk.nil))
def lm_check_Sound : Lam := fun _ j S kn ke => match j with
  | 0 => prepT [1, 4, 33, 34] [] S fun S => .chk (sh_check_Sound_0.ok S) (.bind (loopN (fun x => st_check_Sound_0 x.1 x.2.1 x.2.2.1 x.2.2.2.1 x.2.2.2.2.1 x.2.2.2.2.2.1 x.2.2.2.2.2.2.1 x.2.2.2.2.2.2.2.1 x.2.2.2.2.2.2.2.2.1 x.2.2.2.2.2.2.2.2.2.1 x.2.2.2.2.2.2.2.2.2.2) (sa_check_Sound_0 S)) fun y => ky_check_Sound_0 _ y ke)
  | _ => .fail
theorem sr_check_Sound_0 (x : (Bool × Bool × List PV × Int × Int × Int × Int × Int × Bool × Bool × List Int)) : (ev GG gm_check_Sound lm_check_Sound xb_check_Sound_0 (sx_check_Sound_0 x) (fun S => forgetT [1, 4, 33, 34] S fun S => prepT [1, 4, 33, 34] [] S fun S => .chk (sh_check_Sound_0.ok S) (.leaf (.inl (sa_check_Sound_0 S)))) kb_check_Sound_0).run = st_check_Sound_0 x.1 x.2.1 x.2.2.1 x.2.2.2.1 x.2.2.2.2.1 x.2.2.2.2.2.1 x.2.2.2.2.2.2.1 x.2.2.2.2.2.2.2.1 x.2.2.2.2.2.2.2.2.1 x.2.2.2.2.2.2.2.2.2.1 x.2.2.2.2.2.2.2.2.2.2 := by kernel_rfl
theorem la_check_Sound_0 : LamAt Try.prog GG lm_check_Sound 0 (.loop [1, 4, 33, 34] xb_check_Sound_0.erase) := lam_loop (body := xb_check_Sound_0) (Λ' := lm_check_Sound) gk_check_Sound (⟨trivial, ⟨⟨trivial, trivial⟩, ⟨⟨trivial, ⟨trivial, ⟨⟨trivial, trivial⟩, trivial⟩⟩⟩, trivial⟩⟩⟩) (fun S => (by kernel_rfl : sh_check_Sound_0.build S = sx_check_Sound_0 (sa_check_Sound_0 S))) kk_check_Sound_0 sr_check_Sound_0 (fun _ _ _ => rfl)
/-- check_Sound -/
def go_check_Sound (n0 : Int) (n1 : Int) (n2 : Int) (b3 : Bool) (b4 : Bool) (l5 : List Int) : Option Int :=
  (go_check_Parts n0 n1 n2 b3 b4 l5).bind fun r6 =>
  bif (r6.1 || true) then
   bif (r6.1 == true) then
    some 1
   else
    (go_slices_ContainsFunc__int_int_v1 b3 b4 l5).bind fun r7 =>
    bif r7 then
     some 3
    else
     bif (n0 == 3) then
      bif (decide (1 < (((List.length r6.2.2) : Nat) : Int))) then
       bif (decide (1 < (List.length r6.2.2))) then
        bif (PV.scal (List.getD r6.2.2 1 .nilSl)) then
         bif (Shp.ok (.isl .i64) (List.getD r6.2.2 1 .nilSl)) then
          bif (decide (0 < (((List.length (PV.ints (List.getD r6.2.2 1 .nilSl))) : Nat) : Int))) then
           bif (decide (0 < (List.length (PV.ints (List.getD r6.2.2 1 .nilSl))))) then
            bif (decide ((List.getD (PV.ints (List.getD r6.2.2 1 .nilSl)) 0 0) < 65536)) then
             some 9
            else
             bif (n0 == 3) then
              some 0
             else
              (lp_check_Sound_0 r6.1 r6.2.1 r6.2.2 n2 0 n0 n1 n2 b3 b4 l5).bind fun y19 =>
              Sum.elim (fun z20 =>
               some 0) (fun z21 =>
               some z21) y19
           else none
          else none
         else none
        else none
       else none
      else none
     else
      bif (n0 == 3) then
       some 0
      else
       (lp_check_Sound_0 r6.1 r6.2.1 r6.2.2 n2 0 n0 n1 n2 b3 b4 l5).bind fun y22 =>
       Sum.elim (fun z23 =>
        some 0) (fun z24 =>
        some z24) y22
  else none
def em_check_Sound (r : Int) : PV := (.int .i64 r)
def rh_check_Sound : Shp := (.int .i64)
def ra_check_Sound (v : PV) : Int := v.num
def kf_check_Sound (v : PV) : Tree Int := .chk (rh_check_Sound.ok v) (.leaf (ra_check_Sound v))
theorem rn_check_Sound (n0 : Int) (n1 : Int) (n2 : Int) (b3 : Bool) (b4 : Bool) (l5 : List Int) : (ev GG gm_check_Sound lm_check_Sound xr_check_Sound ⟨slots 50 0 [(0, .p (.agg [(.int .i64 n0), (.int .i64 n1), (.int .i64 n2), (.isl b3 b4 .i64 l5)]))], []⟩ (fun S => finT Try.prog rs_check_Sound S kf_check_Sound) (retT Try.prog rs_check_Sound kf_check_Sound)).run = go_check_Sound n0 n1 n2 b3 b4 l5 := by kernel_rfl
theorem ok_check_Sound (n0 : Int) (n1 : Int) (n2 : Int) (b3 : Bool) (b4 : Bool) (l5 : List Int) (r : Int) (h : go_check_Sound n0 n1 n2 b3 b4 l5 = some r) : FunEq Try.prog GG 10 [(.agg [(.int .i64 n0), (.int .i64 n1), (.int .i64 n2), (.isl b3 b4 .i64 l5)])] (em_check_Sound r) :=
  fun_of_ev (x := xr_check_Sound) (Λ := lm_check_Sound) gk_check_Sound [[1, 4, 33, 34]] Try.func10 rfl (by kernel_rfl) ir_check_Sound (by kernel_rfl) (congrArg Array.toList Try.results10) Try.ntmps10 (⟨trivial, ⟨trivial, ⟨trivial, ⟨⟨trivial, ⟨⟨trivial, trivial⟩, ⟨trivial, ⟨⟨trivial, trivial⟩, ⟨trivial, ⟨⟨trivial, trivial⟩, ⟨trivial, ⟨⟨trivial, trivial⟩, trivial⟩⟩⟩⟩⟩⟩⟩⟩, ⟨⟨trivial, la_check_Sound_0⟩, ⟨trivial, trivial⟩⟩⟩⟩⟩⟩) (leaf_of fun v => (by kernel_rfl : rh_check_Sound.build v = em_check_Sound (ra_check_Sound v))) (by kernel_rfl) ((rn_check_Sound n0 n1 n2 b3 b4 l5).trans h)
def as_check_Sound : List Shp := [(.agg [(.int .i64), (.int .i64), (.int .i64), (.isl .i64)])]
def ga_check_Sound (vs : List PV) : Option Int := go_check_Sound (((tls 0 vs).headD .nilSl).subs.headD .nilSl).num (((tls 0 vs).headD .nilSl).subs.tail.headD .nilSl).num (((tls 0 vs).headD .nilSl).subs.tail.tail.headD .nilSl).num (((tls 0 vs).headD .nilSl).subs.tail.tail.tail.headD .nilSl).nl (((tls 0 vs).headD .nilSl).subs.tail.tail.tail.headD .nilSl).ex (((tls 0 vs).headD .nilSl).subs.tail.tail.tail.headD .nilSl).ints
theorem at_check_Sound : FnAt Try.prog GG 10 as_check_Sound ga_check_Sound em_check_Sound := fun vs h r hr => by
  have e : Shp.buildL as_check_Sound vs = [(.agg [(.int .i64 (((tls 0 vs).headD .nilSl).subs.headD .nilSl).num), (.int .i64 (((tls 0 vs).headD .nilSl).subs.tail.headD .nilSl).num), (.int .i64 (((tls 0 vs).headD .nilSl).subs.tail.tail.headD .nilSl).num), (.isl (((tls 0 vs).headD .nilSl).subs.tail.tail.tail.headD .nilSl).nl (((tls 0 vs).headD .nilSl).subs.tail.tail.tail.headD .nilSl).ex .i64 (((tls 0 vs).headD .nilSl).subs.tail.tail.tail.headD .nilSl).ints)])] := by kernel_rfl
  rw [← Shp.buildL_eq _ h, e]
  exact ok_check_Sound _ _ _ _ _ _ r hr

def xr_check_Next : XR := (.seq (.ops false [⟨⟨(some 2), (.box 36 (.tmp 0)), none⟩, none⟩, ⟨⟨(some 3), (.box 24 (.tmp 1)), none⟩, none⟩, ⟨⟨(some 4), (.mv (.c (.int .i64 (0)))), none⟩, none⟩]) (.seq (.ops false [⟨⟨(some 6), (.ld true 4 (.tmp 3)), none⟩, (some (.agg [(.int .i64), (.int .i64), (.int .i64), (.isl .i64)]))⟩, ⟨⟨(some 7), (.call (.func 10) [(.tmp 6)]), none⟩, none⟩, ⟨⟨(some 5), (.mv (.tmp 7)), none⟩, none⟩]) (.seq (.block 0 (.seq (.ops false [⟨⟨(some 9), (.mv (.tmp 5)), none⟩, none⟩, ⟨⟨(some 10), (.bin .neq (.tmp 9) (.c (.int .i64 (0)))), none⟩, none⟩, ⟨⟨(some 8), (.mv (.tmp 10)), none⟩, none⟩]) (.cond (.tmp 8) (.seq (.ops false [⟨⟨(some 11), (.mv (.tmp 5)), none⟩, none⟩, ⟨⟨(some 4), (.mv (.tmp 11)), none⟩, none⟩]) .ret) (.seq (.ops false [⟨⟨(some 13), (.fldA 0 (.tmp 3)), none⟩, none⟩, ⟨⟨(some 14), (.ld false 1 (.tmp 13)), none⟩, (some (.int .i64))⟩, ⟨⟨(some 15), (.bin .eql (.tmp 14) (.c (.int .i64 (1)))), none⟩, none⟩, ⟨⟨(some 16), (.mv (.tmp 15)), none⟩, none⟩, ⟨⟨(some 17), (.fldA 0 (.tmp 2)), (some (16, true))⟩, none⟩, ⟨⟨(some 18), (.ld false 1 (.tmp 17)), (some (16, true))⟩, (some .bool)⟩, ⟨⟨(some 19), (.pick (.tmp 16) (.tmp 18) (.c (.bool false))), none⟩, none⟩, ⟨⟨(some 20), (.mv (.tmp 19)), none⟩, none⟩, ⟨⟨(some 21), (.fldA 1 (.tmp 3)), (some (20, true))⟩, none⟩, ⟨⟨(some 22), (.ld false 1 (.tmp 21)), (some (20, true))⟩, (some (.int .i64))⟩, ⟨⟨(some 23), (.fldA 2 (.tmp 2)), (some (20, true))⟩, none⟩, ⟨⟨(some 24), (.ld false 1 (.tmp 23)), (some (20, true))⟩, (some (.int .i64))⟩, ⟨⟨(some 25), (.bin .leq (.tmp 22) (.tmp 24)), (some (20, true))⟩, none⟩, ⟨⟨(some 26), (.pick (.tmp 20) (.tmp 25) (.c (.bool false))), none⟩, none⟩, ⟨⟨(some 12), (.mv (.tmp 26)), none⟩, none⟩]) (.cond (.tmp 12) (.seq (.ops false [⟨⟨(some 4), (.mv (.c (.int .i64 (7)))), none⟩, none⟩]) .ret) (.seq (.ops false [⟨⟨(some 28), (.fldA 0 (.tmp 3)), none⟩, none⟩, ⟨⟨(some 29), (.ld false 1 (.tmp 28)), none⟩, (some (.int .i64))⟩, ⟨⟨(some 30), (.bin .eql (.tmp 29) (.c (.int .i64 (1)))), none⟩, none⟩, ⟨⟨(some 27), (.mv (.tmp 30)), none⟩, none⟩]) (.cond (.tmp 27) (.seq (.ops false [⟨⟨(some 4), (.mv (.c (.int .i64 (0)))), none⟩, none⟩]) .ret) (.seq (.ops false [⟨⟨(some 32), (.fldA 0 (.tmp 2)), none⟩, none⟩, ⟨⟨(some 33), (.ld false 1 (.tmp 32)), none⟩, (some .bool)⟩, ⟨⟨(some 34), (.un .not (.tmp 33)), none⟩, none⟩, ⟨⟨(some 31), (.mv (.tmp 34)), none⟩, none⟩]) (.cond (.tmp 31) (.seq (.ops false [⟨⟨(some 4), (.mv (.c (.int .i64 (10)))), none⟩, none⟩]) .ret) (.seq (.ops false [⟨⟨(some 36), (.fldA 1 (.tmp 3)), none⟩, none⟩, ⟨⟨(some 37), (.ld false 1 (.tmp 36)), none⟩, (some (.int .i64))⟩, ⟨⟨(some 38), (.fldA 2 (.tmp 2)), none⟩, none⟩, ⟨⟨(some 39), (.ld false 1 (.tmp 38)), none⟩, (some (.int .i64))⟩, ⟨⟨(some 40), (.bin .add (.tmp 39) (.c (.int .i64 (1)))), none⟩, none⟩, ⟨⟨(some 41), (.bin .neq (.tmp 37) (.tmp 40)), none⟩, none⟩, ⟨⟨(some 42), (.mv (.tmp 41)), none⟩, none⟩, ⟨⟨(some 43), (.fldA 1 (.tmp 3)), (some (42, true))⟩, none⟩, ⟨⟨(some 44), (.ld false 1 (.tmp 43)), (some (42, true))⟩, (some (.int .i64))⟩, ⟨⟨(some 45), (.bin .neq (.tmp 44) (.c (.int .i64 (0)))), (some (42, true))⟩, none⟩, ⟨⟨(some 46), (.mv (.tmp 45)), (some (42, true))⟩, none⟩, ⟨⟨(some 47), (.fldA 2 (.tmp 2)), (some (46, false))⟩, none⟩, ⟨⟨(some 48), (.ld false 1 (.tmp 47)), (some (46, false))⟩, (some (.int .i64))⟩, ⟨⟨(some 49), (.bin .neq (.tmp 48) (.c (.int .i64 (4294967295)))), (some (46, false))⟩, none⟩, ⟨⟨(some 50), (.pick (.tmp 46) (.c (.bool true)) (.tmp 49)), (some (42, true))⟩, none⟩, ⟨⟨(some 51), (.pick (.tmp 42) (.tmp 50) (.c (.bool false))), none⟩, none⟩, ⟨⟨(some 35), (.mv (.tmp 51)), none⟩, none⟩]) (.cond (.tmp 35) (.seq (.ops false [⟨⟨(some 4), (.mv (.c (.int .i64 (7)))), none⟩, none⟩]) .ret) (.seq (.ops false [⟨⟨(some 53), (.fldA 2 (.tmp 3)), none⟩, none⟩, ⟨⟨(some 54), (.ld false 1 (.tmp 53)), none⟩, (some (.int .i64))⟩, ⟨⟨(some 55), (.fldA 1 (.tmp 2)), none⟩, none⟩, ⟨⟨(some 56), (.ld false 1 (.tmp 55)), none⟩, (some (.int .i64))⟩, ⟨⟨(some 57), (.bin .neq (.tmp 54) (.tmp 56)), none⟩, none⟩, ⟨⟨(some 52), (.mv (.tmp 57)), none⟩, none⟩]) (.cond (.tmp 52) (.seq (.ops false [⟨⟨(some 4), (.mv (.c (.int .i64 (8)))), none⟩, none⟩]) .ret) .skip))))))))))))) (.seq (.ops false [⟨⟨(some 4), (.mv (.c (.int .i64 (0)))), none⟩, none⟩]) .ret))))
def rs_check_Next : List ResultVar := [(.tmp 4)]
theorem ir_check_Next : compCode Try.prog (Try.f16.body.getD .skip) [] = some (xr_check_Next.erase, []) := by kernel_rfl
/-! check_Next -/
def gm_check_Next : Gam := (Gam.fn 10 as_check_Sound ga_check_Sound em_check_Sound Gam.bot)
theorem gk_check_Next : GamOk Try.prog GG gm_check_Next := (GamOk.fn at_check_Sound GamOk.bot)
def lm_check_Next : Lam := fun _ j S kn ke => match j with
  | _ => .fail
/-- check_Next -/
def go_check_Next (b0 : Bool) (n1 : Int) (n2 : Int) (n3 : Int) (n4 : Int) (n5 : Int) (b6 : Bool) (b7 : Bool) (l8 : List Int) : Option Int :=
  (go_check_Sound n3 n4 n5 b6 b7 l8).bind fun r9 =>
  bif (r9 != 0) then
   some r9
  else
   bif (n3 == 1) then
    bif b0 then
     bif (decide (n4 ≤ n2)) then
      some 7
     else
      bif (n3 == 1) then
       some 0
      else
       bif (!b0) then
        some 10
       else
        bif (n4 != (IntKind.wrap .i64 (n2 + 1))) then
         bif (n4 != 0) then
          some 7
         else
          bif (n2 != 4294967295) then
           some 7
          else
           bif (n5 != n1) then
            some 8
           else
            some 0
        else
         bif (n5 != n1) then
          some 8
         else
          some 0
    else
     bif (n3 == 1) then
      some 0
     else
      bif (!b0) then
       some 10
      else
       bif (n4 != (IntKind.wrap .i64 (n2 + 1))) then
        bif (n4 != 0) then
         some 7
        else
         bif (n2 != 4294967295) then
          some 7
         else
          bif (n5 != n1) then
           some 8
          else
           some 0
       else
        bif (n5 != n1) then
         some 8
        else
         some 0
   else
    bif (n3 == 1) then
     some 0
    else
     bif (!b0) then
      some 10
     else
      bif (n4 != (IntKind.wrap .i64 (n2 + 1))) then
       bif (n4 != 0) then
        some 7
       else
        bif (n2 != 4294967295) then
         some 7
        else
         bif (n5 != n1) then
          some 8
         else
          some 0
      else
       bif (n5 != n1) then
        some 8
       else
        some 0
def em_check_Next (r : Int) : PV := (.int .i64 r)
def rh_check_Next : Shp := (.int .i64)
def ra_check_Next (v : PV) : Int := v.num
def kf_check_Next (v : PV) : Tree Int := .chk (rh_check_Next.ok v) (.leaf (ra_check_Next v))
theorem rn_check_Next (b0 : Bool) (n1 : Int) (n2 : Int) (n3 : Int) (n4 : Int) (n5 : Int) (b6 : Bool) (b7 : Bool) (l8 : List Int) : (ev GG gm_check_Next lm_check_Next xr_check_Next ⟨slots 58 0 [(0, .p (.agg [(.bool b0), (.int .i64 n1), (.int .i64 n2)])), (1, .p (.agg [(.int .i64 n3), (.int .i64 n4), (.int .i64 n5), (.isl b6 b7 .i64 l8)]))], []⟩ (fun S => finT Try.prog rs_check_Next S kf_check_Next) (retT Try.prog rs_check_Next kf_check_Next)).run = go_check_Next b0 n1 n2 n3 n4 n5 b6 b7 l8 := by kernel_rfl
theorem ok_check_Next (b0 : Bool) (n1 : Int) (n2 : Int) (n3 : Int) (n4 : Int) (n5 : Int) (b6 : Bool) (b7 : Bool) (l8 : List Int) (r : Int) (h : go_check_Next b0 n1 n2 n3 n4 n5 b6 b7 l8 = some r) : FunEq Try.prog GG 16 [(.agg [(.bool b0), (.int .i64 n1), (.int .i64 n2)]), (.agg [(.int .i64 n3), (.int .i64 n4), (.int .i64 n5), (.isl b6 b7 .i64 l8)])] (em_check_Next r) :=
  fun_of_ev (x := xr_check_Next) (Λ := lm_check_Next) gk_check_Next [] Try.func16 rfl (by kernel_rfl) ir_check_Next (by kernel_rfl) (congrArg Array.toList Try.results16) Try.ntmps16 (⟨trivial, ⟨trivial, ⟨⟨trivial, ⟨⟨trivial, trivial⟩, ⟨trivial, ⟨⟨trivial, trivial⟩, ⟨trivial, ⟨⟨trivial, trivial⟩, ⟨trivial, ⟨⟨trivial, trivial⟩, ⟨trivial, ⟨⟨trivial, trivial⟩, ⟨trivial, ⟨⟨trivial, trivial⟩, trivial⟩⟩⟩⟩⟩⟩⟩⟩⟩⟩⟩⟩, ⟨trivial, trivial⟩⟩⟩⟩) (leaf_of fun v => (by kernel_rfl : rh_check_Next.build v = em_check_Next (ra_check_Next v))) (by kernel_rfl) ((rn_check_Next b0 n1 n2 n3 n4 n5 b6 b7 l8).trans h)
def as_check_Next : List Shp := [(.agg [.bool, (.int .i64), (.int .i64)]), (.agg [(.int .i64), (.int .i64), (.int .i64), (.isl .i64)])]
def ga_check_Next (vs : List PV) : Option Int := go_check_Next (((tls 0 vs).headD .nilSl).subs.headD .nilSl).tru (((tls 0 vs).headD .nilSl).subs.tail.headD .nilSl).num (((tls 0 vs).headD .nilSl).subs.tail.tail.headD .nilSl).num (((tls 1 vs).headD .nilSl).subs.headD .nilSl).num (((tls 1 vs).headD .nilSl).subs.tail.headD .nilSl).num (((tls 1 vs).headD .nilSl).subs.tail.tail.headD .nilSl).num (((tls 1 vs).headD .nilSl).subs.tail.tail.tail.headD .nilSl).nl (((tls 1 vs).headD .nilSl).subs.tail.tail.tail.headD .nilSl).ex (((tls 1 vs).headD .nilSl).subs.tail.tail.tail.headD .nilSl).ints
theorem at_check_Next : FnAt Try.prog GG 16 as_check_Next ga_check_Next em_check_Next := fun vs h r hr => by
  have e : Shp.buildL as_check_Next vs = [(.agg [(.bool (((tls 0 vs).headD .nilSl).subs.headD .nilSl).tru), (.int .i64 (((tls 0 vs).headD .nilSl).subs.tail.headD .nilSl).num), (.int .i64 (((tls 0 vs).headD .nilSl).subs.tail.tail.headD .nilSl).num)]), (.agg [(.int .i64 (((tls 1 vs).headD .nilSl).subs.headD .nilSl).num), (.int .i64 (((tls 1 vs).headD .nilSl).subs.tail.headD .nilSl).num), (.int .i64 (((tls 1 vs).headD .nilSl).subs.tail.tail.headD .nilSl).num), (.isl (((tls 1 vs).headD .nilSl).subs.tail.tail.tail.headD .nilSl).nl (((tls 1 vs).headD .nilSl).subs.tail.tail.tail.headD .nilSl).ex .i64 (((tls 1 vs).headD .nilSl).subs.tail.tail.tail.headD .nilSl).ints)])] := by kernel_rfl
  rw [← Shp.buildL_eq _ h, e]
  exact ok_check_Next _ _ _ _ _ _ _ _ _ r hr

def xr_check_Behind : XR := (.seq (.ops false [⟨⟨(some 2), (.box 36 (.tmp 0)), none⟩, none⟩, ⟨⟨(some 3), (.box 24 (.tmp 1)), none⟩, none⟩, ⟨⟨(some 4), (.alloc 36 [(.bool false), (.int .i64 (0)), (.int .i64 (0))]), none⟩, none⟩]) (.seq (.seq (.ops false [⟨⟨(some 5), (.ld true 3 (.tmp 2)), none⟩, (some (.agg [.bool, (.int .i64), (.int .i64)]))⟩, ⟨⟨(some 6), (.ld true 4 (.tmp 3)), none⟩, (some (.agg [(.int .i64), (.int .i64), (.int .i64), (.isl .i64)]))⟩, ⟨⟨(some 7), (.call (.func 16) [(.tmp 5), (.tmp 6)]), none⟩, none⟩, ⟨⟨(some 8), (.bin .neq (.tmp 7) (.c (.int .i64 (0)))), none⟩, none⟩]) (.cond (.tmp 8) (.seq (.ops false [⟨⟨(some 9), (.ld true 3 (.tmp 2)), none⟩, (some (.agg [.bool, (.int .i64), (.int .i64)]))⟩, ⟨⟨none, (.st 3 (.tmp 4) (.tmp 9)), none⟩, none⟩]) .ret) .skip)) (.seq (.ops false [⟨⟨(some 10), (.fldA 2 (.tmp 3)), none⟩, none⟩, ⟨⟨(some 11), (.ld false 1 (.tmp 10)), none⟩, (some (.int .i64))⟩, ⟨⟨(some 12), (.fldA 1 (.tmp 3)), none⟩, none⟩, ⟨⟨(some 13), (.ld false 1 (.tmp 12)), none⟩, (some (.int .i64))⟩, ⟨⟨(some 14), (.build [(.bool false), (.int .i64 (0)), (.int .i64 (0))] [(0, (1, (.c (.bool true)))), (1, (1, (.tmp 11))), (2, (1, (.tmp 13)))]), none⟩, none⟩, ⟨⟨none, (.st 3 (.tmp 4) (.tmp 14)), none⟩, none⟩]) .ret)))
def rs_check_Behind : List ResultVar := [(.cell 4 36)]
theorem ir_check_Behind : compCode Try.prog (Try.f17.body.getD .skip) [] = some (xr_check_Behind.erase, []) := by kernel_rfl
/-! check_Behind -/
def gm_check_Behind : Gam := (Gam.fn 16 as_check_Next ga_check_Next em_check_Next Gam.bot)
theorem gk_check_Behind : GamOk Try.prog GG gm_check_Behind := (GamOk.fn at_check_Next GamOk.bot)
def lm_check_Behind : Lam := fun _ j S kn ke => match j with
  | _ => .fail
/-- check_Behind -/
def go_check_Behind (b0 : Bool) (n1 : Int) (n2 : Int) (n3 : Int) (n4 : Int) (n5 : Int) (b6 : Bool) (b7 : Bool) (l8 : List Int) : Option (Bool × Int × Int) :=
  (go_check_Next b0 n1 n2 n3 n4 n5 b6 b7 l8).bind fun r9 =>
  bif (r9 != 0) then
   some (b0, n1, n2)
  else
   some (true, n5, n4)
def em_check_Behind (r : (Bool × Int × Int)) : PV := (.agg [(.bool r.1), (.int .i64 r.2.1), (.int .i64 r.2.2)])
def rh_check_Behind : Shp := (.agg [.bool, (.int .i64), (.int .i64)])
def ra_check_Behind (v : PV) : (Bool × Int × Int) := ((v.subs.headD .nilSl).tru, (v.subs.tail.headD .nilSl).num, (v.subs.tail.tail.headD .nilSl).num)
def kf_check_Behind (v : PV) : Tree (Bool × Int × Int) := .chk (rh_check_Behind.ok v) (.leaf (ra_check_Behind v))
theorem rn_check_Behind (b0 : Bool) (n1 : Int) (n2 : Int) (n3 : Int) (n4 : Int) (n5 : Int) (b6 : Bool) (b7 : Bool) (l8 : List Int) : (ev GG gm_check_Behind lm_check_Behind xr_check_Behind ⟨slots 15 0 [(0, .p (.agg [(.bool b0), (.int .i64 n1), (.int .i64 n2)])), (1, .p (.agg [(.int .i64 n3), (.int .i64 n4), (.int .i64 n5), (.isl b6 b7 .i64 l8)]))], []⟩ (fun S => finT Try.prog rs_check_Behind S kf_check_Behind) (retT Try.prog rs_check_Behind kf_check_Behind)).run = go_check_Behind b0 n1 n2 n3 n4 n5 b6 b7 l8 := by kernel_rfl
theorem ok_check_Behind (b0 : Bool) (n1 : Int) (n2 : Int) (n3 : Int) (n4 : Int) (n5 : Int) (b6 : Bool) (b7 : Bool) (l8 : List Int) (r : (Bool × Int × Int)) (h : go_check_Behind b0 n1 n2 n3 n4 n5 b6 b7 l8 = some r) : FunEq Try.prog GG 17 [(.agg [(.bool b0), (.int .i64 n1), (.int .i64 n2)]), (.agg [(.int .i64 n3), (.int .i64 n4), (.int .i64 n5), (.isl b6 b7 .i64 l8)])] (em_check_Behind r) :=
  fun_of_ev (x := xr_check_Behind) (Λ := lm_check_Behind) gk_check_Behind [] Try.func17 rfl (by kernel_rfl) ir_check_Behind (by kernel_rfl) (congrArg Array.toList Try.results17) Try.ntmps17 (⟨trivial, ⟨⟨trivial, ⟨⟨trivial, trivial⟩, trivial⟩⟩, ⟨trivial, trivial⟩⟩⟩) (leaf_of fun v => (by kernel_rfl : rh_check_Behind.build v = em_check_Behind (ra_check_Behind v))) (by kernel_rfl) ((rn_check_Behind b0 n1 n2 n3 n4 n5 b6 b7 l8).trans h)
def as_check_Behind : List Shp := [(.agg [.bool, (.int .i64), (.int .i64)]), (.agg [(.int .i64), (.int .i64), (.int .i64), (.isl .i64)])]
def ga_check_Behind (vs : List PV) : Option (Bool × Int × Int) := go_check_Behind (((tls 0 vs).headD .nilSl).subs.headD .nilSl).tru (((tls 0 vs).headD .nilSl).subs.tail.headD .nilSl).num (((tls 0 vs).headD .nilSl).subs.tail.tail.headD .nilSl).num (((tls 1 vs).headD .nilSl).subs.headD .nilSl).num (((tls 1 vs).headD .nilSl).subs.tail.headD .nilSl).num (((tls 1 vs).headD .nilSl).subs.tail.tail.headD .nilSl).num (((tls 1 vs).headD .nilSl).subs.tail.tail.tail.headD .nilSl).nl (((tls 1 vs).headD .nilSl).subs.tail.tail.tail.headD .nilSl).ex (((tls 1 vs).headD .nilSl).subs.tail.tail.tail.headD .nilSl).ints
theorem at_check_Behind : FnAt Try.prog GG 17 as_check_Behind ga_check_Behind em_check_Behind := fun vs h r hr => by
  have e : Shp.buildL as_check_Behind vs = [(.agg [(.bool (((tls 0 vs).headD .nilSl).subs.headD .nilSl).tru), (.int .i64 (((tls 0 vs).headD .nilSl).subs.tail.headD .nilSl).num), (.int .i64 (((tls 0 vs).headD .nilSl).subs.tail.tail.headD .nilSl).num)]), (.agg [(.int .i64 (((tls 1 vs).headD .nilSl).subs.headD .nilSl).num), (.int .i64 (((tls 1 vs).headD .nilSl).subs.tail.headD .nilSl).num), (.int .i64 (((tls 1 vs).headD .nilSl).subs.tail.tail.headD .nilSl).num), (.isl (((tls 1 vs).headD .nilSl).subs.tail.tail.tail.headD .nilSl).nl (((tls 1 vs).headD .nilSl).subs.tail.tail.tail.headD .nilSl).ex .i64 (((tls 1 vs).headD .nilSl).subs.tail.tail.tail.headD .nilSl).ints)])] := by kernel_rfl
  rw [← Shp.buildL_eq _ h, e]
  exact ok_check_Behind _ _ _ _ _ _ _ _ _ r hr

def xr_coupletlaw14_awake : XR := (.seq (.ops false [⟨⟨(some 0), (.mv (.c (.bool false))), none⟩, none⟩]) (.seq (.ops false [⟨⟨(some 3), (.bsl 3 (some .i64) 1 [(.c (.int .i64 (5))), (.c (.int .i64 (65536)))]), none⟩, none⟩, ⟨⟨(some 4), (.build [(.int .i64 (0)), (.int .i64 (0)), (.int .i64 (0)), (.isl true true .i64 [])] [(0, (1, (.c (.int .i64 (2))))), (1, (1, (.c (.int .i64 (8))))), (2, (1, (.c (.int .i64 (1))))), (3, (1, (.tmp 3)))]), none⟩, none⟩, ⟨⟨(some 1), (.alloc 24 [(.int .i64 (0)), (.int .i64 (0)), (.int .i64 (0)), (.isl true true .i64 [])]), none⟩, none⟩, ⟨⟨none, (.st 4 (.tmp 1) (.tmp 4)), none⟩, none⟩]) (.seq (.ops false [⟨⟨(some 5), (.build [(.bool false), (.int .i64 (0)), (.int .i64 (0))] [(0, (1, (.c (.bool true)))), (1, (1, (.c (.int .i64 (1))))), (2, (1, (.c (.int .i64 (7)))))]), none⟩, none⟩, ⟨⟨(some 2), (.alloc 36 [(.bool false), (.int .i64 (0)), (.int .i64 (0))]), none⟩, none⟩, ⟨⟨none, (.st 3 (.tmp 2) (.tmp 5)), none⟩, none⟩]) (.seq (.ops false [⟨⟨(some 6), (.ld true 4 (.tmp 1)), none⟩, (some (.agg [(.int .i64), (.int .i64), (.int .i64), (.isl .i64)]))⟩, ⟨⟨(some 7), (.call (.func 10) [(.tmp 6)]), none⟩, none⟩, ⟨⟨(some 8), (.bin .eql (.tmp 7) (.c (.int .i64 (0)))), none⟩, none⟩, ⟨⟨(some 9), (.mv (.tmp 8)), none⟩, none⟩, ⟨⟨(some 10), (.ld true 3 (.tmp 2)), (some (9, true))⟩, (some (.agg [.bool, (.int .i64), (.int .i64)]))⟩, ⟨⟨(some 11), (.ld true 4 (.tmp 1)), (some (9, true))⟩, (some (.agg [(.int .i64), (.int .i64), (.int .i64), (.isl .i64)]))⟩, ⟨⟨(some 12), (.call (.func 16) [(.tmp 10), (.tmp 11)]), (some (9, true))⟩, none⟩, ⟨⟨(some 13), (.bin .eql (.tmp 12) (.c (.int .i64 (0)))), (some (9, true))⟩, none⟩, ⟨⟨(some 14), (.pick (.tmp 9) (.tmp 13) (.c (.bool false))), none⟩, none⟩, ⟨⟨(some 15), (.mv (.tmp 14)), none⟩, none⟩, ⟨⟨(some 16), (.ld true 3 (.tmp 2)), (some (15, true))⟩, (some (.agg [.bool, (.int .i64), (.int .i64)]))⟩, ⟨⟨(some 17), (.ld true 4 (.tmp 1)), (some (15, true))⟩, (some (.agg [(.int .i64), (.int .i64), (.int .i64), (.isl .i64)]))⟩, ⟨⟨(some 18), (.call (.func 17) [(.tmp 16), (.tmp 17)]), (some (15, true))⟩, none⟩, ⟨⟨(some 19), (.fld false 2 1 (.tmp 18)), (some (15, true))⟩, none⟩, ⟨⟨(some 20), (.bin .eql (.tmp 19) (.c (.int .i64 (8)))), (some (15, true))⟩, none⟩, ⟨⟨(some 21), (.pick (.tmp 15) (.tmp 20) (.c (.bool false))), none⟩, none⟩, ⟨⟨(some 22), (.mv (.tmp 21)), none⟩, none⟩, ⟨⟨(some 23), (.build [(.bool false), (.int .i64 (0)), (.int .i64 (0))] []), (some (22, true))⟩, none⟩, ⟨⟨(some 24), (.ld true 4 (.tmp 1)), (some (22, true))⟩, (some (.agg [(.int .i64), (.int .i64), (.int .i64), (.isl .i64)]))⟩, ⟨⟨(some 25), (.call (.func 16) [(.tmp 23), (.tmp 24)]), (some (22, true))⟩, none⟩, ⟨⟨(some 26), (.bin .eql (.tmp 25) (.c (.int .i64 (10)))), (some (22, true))⟩, none⟩, ⟨⟨(some 27), (.pick (.tmp 22) (.tmp 26) (.c (.bool false))), none⟩, none⟩, ⟨⟨(some 28), (.mv (.tmp 27)), none⟩, none⟩, ⟨⟨(some 29), (.ld true 4 (.tmp 1)), (some (28, true))⟩, (some (.agg [(.int .i64), (.int .i64), (.int .i64), (.isl .i64)]))⟩, ⟨⟨(some 30), (.call (.func 13) [(.tmp 29)]), (some (28, true))⟩, none⟩, ⟨⟨(some 31), (.len (.tmp 30)), (some (28, true))⟩, none⟩, ⟨⟨(some 32), (.bin .eql (.tmp 31) (.c (.int .i64 (2)))), (some (28, true))⟩, none⟩, ⟨⟨(some 33), (.pick (.tmp 28) (.tmp 32) (.c (.bool false))), none⟩, none⟩, ⟨⟨(some 0), (.mv (.tmp 33)), none⟩, none⟩]) .ret))))
def rs_coupletlaw14_awake : List ResultVar := [(.tmp 0)]
theorem ir_coupletlaw14_awake : compCode Try.prog (Try.f9.body.getD .skip) [] = some (xr_coupletlaw14_awake.erase, []) := by kernel_rfl
/-! coupletlaw14_awake -/
def gm_coupletlaw14_awake : Gam := (Gam.fn 10 as_check_Sound ga_check_Sound em_check_Sound (Gam.fn 16 as_check_Next ga_check_Next em_check_Next (Gam.fn 17 as_check_Behind ga_check_Behind em_check_Behind (Gam.fn 13 as_check_Parts ga_check_Parts em_check_Parts Gam.bot))))
theorem gk_coupletlaw14_awake : GamOk Try.prog GG gm_coupletlaw14_awake := (GamOk.fn at_check_Sound (GamOk.fn at_check_Next (GamOk.fn at_check_Behind (GamOk.fn at_check_Parts GamOk.bot))))
def lm_coupletlaw14_awake : Lam := fun _ j S kn ke => match j with
  | _ => .fail
/-- coupletlaw14_awake -/
def go_coupletlaw14_awake : Option Bool :=
  (go_check_Sound 2 8 1 false true [5, 65536]).bind fun r0 =>
  bif (r0 == 0) then
   (go_check_Next true 1 7 2 8 1 false true [5, 65536]).bind fun r1 =>
   bif (r1 == 0) then
    (go_check_Behind true 1 7 2 8 1 false true [5, 65536]).bind fun r2 =>
    bif (r2.2.2 == 8) then
     (go_check_Next false 0 0 2 8 1 false true [5, 65536]).bind fun r3 =>
     bif (r3 == 10) then
      (go_check_Parts 2 8 1 false true [5, 65536]).bind fun r4 =>
      some ((((List.length r4.2.2) : Nat) : Int) == 2)
     else
      some false
    else
     some false
   else
    some false
  else
   some false
def em_coupletlaw14_awake (r : Bool) : PV := (.bool r)
def rh_coupletlaw14_awake : Shp := .bool
def ra_coupletlaw14_awake (v : PV) : Bool := v.tru
def kf_coupletlaw14_awake (v : PV) : Tree Bool := .chk (rh_coupletlaw14_awake.ok v) (.leaf (ra_coupletlaw14_awake v))
theorem rn_coupletlaw14_awake : (ev GG gm_coupletlaw14_awake lm_coupletlaw14_awake xr_coupletlaw14_awake ⟨slots 34 0 [], []⟩ (fun S => finT Try.prog rs_coupletlaw14_awake S kf_coupletlaw14_awake) (retT Try.prog rs_coupletlaw14_awake kf_coupletlaw14_awake)).run = go_coupletlaw14_awake := by kernel_rfl
theorem ok_coupletlaw14_awake (r : Bool) (h : go_coupletlaw14_awake = some r) : FunEq Try.prog GG 9 [] (em_coupletlaw14_awake r) :=
  fun_of_ev (x := xr_coupletlaw14_awake) (Λ := lm_coupletlaw14_awake) gk_coupletlaw14_awake [] Try.func9 rfl (by kernel_rfl) ir_coupletlaw14_awake (by kernel_rfl) (congrArg Array.toList Try.results9) Try.ntmps9 (⟨trivial, ⟨trivial, ⟨trivial, ⟨trivial, trivial⟩⟩⟩⟩) (leaf_of fun v => (by kernel_rfl : rh_coupletlaw14_awake.build v = em_coupletlaw14_awake (ra_coupletlaw14_awake v))) (by kernel_rfl) ((rn_coupletlaw14_awake).trans h)
def as_coupletlaw14_awake : List Shp := []
def ga_coupletlaw14_awake (vs : List PV) : Option Bool := go_coupletlaw14_awake
theorem at_coupletlaw14_awake : FnAt Try.prog GG 9 as_coupletlaw14_awake ga_coupletlaw14_awake em_coupletlaw14_awake := fun vs h r hr => by
  have e : Shp.buildL as_coupletlaw14_awake vs = [] := by kernel_rfl
  rw [← Shp.buildL_eq _ h, e]
  exact ok_coupletlaw14_awake  r hr

def xr_coupletlaw12_Given : XR := (.seq (.ops false [⟨⟨(some 1), (.box 24 (.tmp 0)), none⟩, none⟩, ⟨⟨(some 2), (.alloc 29 [(.int .i64 (0)), (.int .i64 (0)), (.int .i64 (0)), (.isl true true .i64 [])]), none⟩, none⟩]) (.seq (.ops false [⟨⟨(some 3), (.fldA 0 (.tmp 1)), none⟩, none⟩, ⟨⟨(some 4), (.ld false 1 (.tmp 3)), none⟩, (some (.int .i64))⟩, ⟨⟨(some 5), (.fldA 1 (.tmp 1)), none⟩, none⟩, ⟨⟨(some 6), (.ld false 1 (.tmp 5)), none⟩, (some (.int .i64))⟩, ⟨⟨(some 7), (.fldA 2 (.tmp 1)), none⟩, none⟩, ⟨⟨(some 8), (.ld false 1 (.tmp 7)), none⟩, (some (.int .i64))⟩, ⟨⟨(some 9), (.fldA 3 (.tmp 1)), none⟩, none⟩, ⟨⟨(some 10), (.ld false 1 (.tmp 9)), none⟩, (some (.isl .i64))⟩, ⟨⟨(some 11), (.build [(.int .i64 (0)), (.int .i64 (0)), (.int .i64 (0)), (.isl true true .i64 [])] [(0, (1, (.tmp 4))), (1, (1, (.tmp 6))), (2, (1, (.tmp 8))), (3, (1, (.tmp 10)))]), none⟩, none⟩, ⟨⟨none, (.st 4 (.tmp 2) (.tmp 11)), none⟩, none⟩]) .ret))
def rs_coupletlaw12_Given : List ResultVar := [(.cell 2 29)]
theorem ir_coupletlaw12_Given : compCode Try.prog (Try.f12.body.getD .skip) [] = some (xr_coupletlaw12_Given.erase, []) := by kernel_rfl
/-! coupletlaw12_Given -/
def gm_coupletlaw12_Given : Gam := Gam.bot
theorem gk_coupletlaw12_Given : GamOk Try.prog GG gm_coupletlaw12_Given := GamOk.bot
def lm_coupletlaw12_Given : Lam := fun _ j S kn ke => match j with
  | _ => .fail
/-- coupletlaw12_Given -/
def go_coupletlaw12_Given (n0 : Int) (n1 : Int) (n2 : Int) (b3 : Bool) (b4 : Bool) (l5 : List Int) : Option (Int × Int × Int × Bool × Bool × List Int) :=
  some (n0, n1, n2, b3, b4, l5)
def em_coupletlaw12_Given (r : (Int × Int × Int × Bool × Bool × List Int)) : PV := (.agg [(.int .i64 r.1), (.int .i64 r.2.1), (.int .i64 r.2.2.1), (.isl r.2.2.2.1 r.2.2.2.2.1 .i64 r.2.2.2.2.2)])
def rh_coupletlaw12_Given : Shp := (.agg [(.int .i64), (.int .i64), (.int .i64), (.isl .i64)])
def ra_coupletlaw12_Given (v : PV) : (Int × Int × Int × Bool × Bool × List Int) := ((v.subs.headD .nilSl).num, (v.subs.tail.headD .nilSl).num, (v.subs.tail.tail.headD .nilSl).num, (v.subs.tail.tail.tail.headD .nilSl).nl, (v.subs.tail.tail.tail.headD .nilSl).ex, (v.subs.tail.tail.tail.headD .nilSl).ints)
def kf_coupletlaw12_Given (v : PV) : Tree (Int × Int × Int × Bool × Bool × List Int) := .chk (rh_coupletlaw12_Given.ok v) (.leaf (ra_coupletlaw12_Given v))
theorem rn_coupletlaw12_Given (n0 : Int) (n1 : Int) (n2 : Int) (b3 : Bool) (b4 : Bool) (l5 : List Int) : (ev GG gm_coupletlaw12_Given lm_coupletlaw12_Given xr_coupletlaw12_Given ⟨slots 12 0 [(0, .p (.agg [(.int .i64 n0), (.int .i64 n1), (.int .i64 n2), (.isl b3 b4 .i64 l5)]))], []⟩ (fun S => finT Try.prog rs_coupletlaw12_Given S kf_coupletlaw12_Given) (retT Try.prog rs_coupletlaw12_Given kf_coupletlaw12_Given)).run = go_coupletlaw12_Given n0 n1 n2 b3 b4 l5 := by kernel_rfl
theorem ok_coupletlaw12_Given (n0 : Int) (n1 : Int) (n2 : Int) (b3 : Bool) (b4 : Bool) (l5 : List Int) (r : (Int × Int × Int × Bool × Bool × List Int)) (h : go_coupletlaw12_Given n0 n1 n2 b3 b4 l5 = some r) : FunEq Try.prog GG 12 [(.agg [(.int .i64 n0), (.int .i64 n1), (.int .i64 n2), (.isl b3 b4 .i64 l5)])] (em_coupletlaw12_Given r) :=
  fun_of_ev (x := xr_coupletlaw12_Given) (Λ := lm_coupletlaw12_Given) gk_coupletlaw12_Given [] Try.func12 rfl (by kernel_rfl) ir_coupletlaw12_Given (by kernel_rfl) (congrArg Array.toList Try.results12) Try.ntmps12 (⟨trivial, ⟨trivial, trivial⟩⟩) (leaf_of fun v => (by kernel_rfl : rh_coupletlaw12_Given.build v = em_coupletlaw12_Given (ra_coupletlaw12_Given v))) (by kernel_rfl) ((rn_coupletlaw12_Given n0 n1 n2 b3 b4 l5).trans h)
def as_coupletlaw12_Given : List Shp := [(.agg [(.int .i64), (.int .i64), (.int .i64), (.isl .i64)])]
def ga_coupletlaw12_Given (vs : List PV) : Option (Int × Int × Int × Bool × Bool × List Int) := go_coupletlaw12_Given (((tls 0 vs).headD .nilSl).subs.headD .nilSl).num (((tls 0 vs).headD .nilSl).subs.tail.headD .nilSl).num (((tls 0 vs).headD .nilSl).subs.tail.tail.headD .nilSl).num (((tls 0 vs).headD .nilSl).subs.tail.tail.tail.headD .nilSl).nl (((tls 0 vs).headD .nilSl).subs.tail.tail.tail.headD .nilSl).ex (((tls 0 vs).headD .nilSl).subs.tail.tail.tail.headD .nilSl).ints
theorem at_coupletlaw12_Given : FnAt Try.prog GG 12 as_coupletlaw12_Given ga_coupletlaw12_Given em_coupletlaw12_Given := fun vs h r hr => by
  have e : Shp.buildL as_coupletlaw12_Given vs = [(.agg [(.int .i64 (((tls 0 vs).headD .nilSl).subs.headD .nilSl).num), (.int .i64 (((tls 0 vs).headD .nilSl).subs.tail.headD .nilSl).num), (.int .i64 (((tls 0 vs).headD .nilSl).subs.tail.tail.headD .nilSl).num), (.isl (((tls 0 vs).headD .nilSl).subs.tail.tail.tail.headD .nilSl).nl (((tls 0 vs).headD .nilSl).subs.tail.tail.tail.headD .nilSl).ex .i64 (((tls 0 vs).headD .nilSl).subs.tail.tail.tail.headD .nilSl).ints)])] := by kernel_rfl
  rw [← Shp.buildL_eq _ h, e]
  exact ok_coupletlaw12_Given _ _ _ _ _ _ r hr

def xr_coupletref12_Many : XR := (.seq (.ops false [⟨⟨(some 4), (.mv (.c (.int .i64 (0)))), none⟩, none⟩]) (.seq (.seq (.ops false [⟨⟨(some 5), (.mv (.tmp 1)), none⟩, none⟩, ⟨⟨(some 6), (.bin .lss (.tmp 5) (.c (.int .i64 (1)))), none⟩, none⟩, ⟨⟨(some 7), (.mv (.tmp 6)), none⟩, none⟩, ⟨⟨(some 8), (.mv (.tmp 1)), (some (7, false))⟩, none⟩, ⟨⟨(some 9), (.bin .gtr (.tmp 8) (.c (.int .i64 (4)))), (some (7, false))⟩, none⟩, ⟨⟨(some 10), (.pick (.tmp 7) (.c (.bool true)) (.tmp 9)), none⟩, none⟩, ⟨⟨(some 11), (.mv (.tmp 10)), none⟩, none⟩, ⟨⟨(some 12), (.mv (.tmp 0)), (some (11, false))⟩, none⟩, ⟨⟨(some 13), (.bin .lss (.tmp 12) (.c (.int .i64 (1)))), (some (11, false))⟩, none⟩, ⟨⟨(some 14), (.pick (.tmp 11) (.c (.bool true)) (.tmp 13)), none⟩, none⟩, ⟨⟨(some 15), (.mv (.tmp 14)), none⟩, none⟩, ⟨⟨(some 16), (.mv (.tmp 0)), (some (15, false))⟩, none⟩, ⟨⟨(some 17), (.bin .gtr (.tmp 16) (.c (.int .i64 (3)))), (some (15, false))⟩, none⟩, ⟨⟨(some 18), (.pick (.tmp 15) (.c (.bool true)) (.tmp 17)), none⟩, none⟩]) (.cond (.tmp 18) (.seq (.ops false [⟨⟨(some 4), (.mv (.c (.int .i64 (0)))), none⟩, none⟩]) .ret) .skip)) (.seq (.ops false [⟨⟨(some 19), (.mv (.tmp 1)), none⟩, none⟩, ⟨⟨(some 20), (.mv (.tmp 1)), none⟩, none⟩, ⟨⟨(some 21), (.mv (.tmp 1)), none⟩, none⟩, ⟨⟨(some 22), (.bin .mul (.tmp 20) (.tmp 21)), none⟩, none⟩, ⟨⟨(some 23), (.bin .add (.tmp 19) (.tmp 22)), none⟩, none⟩, ⟨⟨(some 24), (.mv (.tmp 1)), none⟩, none⟩, ⟨⟨(some 25), (.bin .mul (.c (.int .i64 (2))) (.tmp 24)), none⟩, none⟩, ⟨⟨(some 26), (.mv (.tmp 1)), none⟩, none⟩, ⟨⟨(some 27), (.bin .mul (.tmp 25) (.tmp 26)), none⟩, none⟩, ⟨⟨(some 28), (.mv (.tmp 1)), none⟩, none⟩, ⟨⟨(some 29), (.bin .add (.tmp 28) (.c (.int .i64 (2)))), none⟩, none⟩, ⟨⟨(some 30), (.bsl 3 (some .i64) 1 [(.tmp 23), (.tmp 27), (.tmp 29)]), none⟩, none⟩, ⟨⟨(some 31), (.mv (.tmp 0)), none⟩, none⟩, ⟨⟨(some 32), (.bin .sub (.tmp 31) (.c (.int .i64 (1)))), none⟩, none⟩, ⟨⟨(some 33), (.ixA 1 (.tmp 30) (.tmp 32)), none⟩, none⟩, ⟨⟨(some 34), (.ld false 1 (.tmp 33)), none⟩, (some (.int .i64))⟩, ⟨⟨(some 4), (.mv (.tmp 34)), none⟩, none⟩]) .ret)))
def rs_coupletref12_Many : List ResultVar := [(.tmp 4)]
theorem ir_coupletref12_Many : compCode Try.prog (Try.f22.body.getD .skip) [] = some (xr_coupletref12_Many.erase, []) := by kernel_rfl
/-! coupletref12_Many -/
def gm_coupletref12_Many : Gam := Gam.bot
theorem gk_coupletref12_Many : GamOk Try.prog GG gm_coupletref12_Many := GamOk.bot
def lm_coupletref12_Many : Lam := fun _ j S kn ke => match j with
  | _ => .fail
/-- coupletref12_Many -/
def go_coupletref12_Many (n0 : Int) (n1 : Int) : Option Int :=
  bif (decide (n1 < 1)) then
   some 0
  else
   bif (decide (n1 > 4)) then
    some 0
   else
    bif (decide (n0 < 1)) then
     some 0
    else
     bif (decide (n0 > 3)) then
      some 0
     else
      bif (decide (0 ≤ (IntKind.wrap .i64 (n0 - 1)))) then
       bif (decide ((IntKind.wrap .i64 (n0 - 1)) < ((3 : Nat) : Int))) then
        bif (decide ((Int.toNat (IntKind.wrap .i64 (n0 - 1))) < 3)) then
         some (List.getD [(IntKind.wrap .i64 (n1 + (IntKind.wrap .i64 (n1 * n1)))), (IntKind.wrap .i64 ((IntKind.wrap .i64 (2 * n1)) * n1)), (IntKind.wrap .i64 (n1 + 2))] (Int.toNat (IntKind.wrap .i64 (n0 - 1))) 0)
        else none
       else none
      else none
def em_coupletref12_Many (r : Int) : PV := (.int .i64 r)
def rh_coupletref12_Many : Shp := (.int .i64)
def ra_coupletref12_Many (v : PV) : Int := v.num
def kf_coupletref12_Many (v : PV) : Tree Int := .chk (rh_coupletref12_Many.ok v) (.leaf (ra_coupletref12_Many v))
theorem rn_coupletref12_Many (n0 : Int) (n1 : Int) : (ev GG gm_coupletref12_Many lm_coupletref12_Many xr_coupletref12_Many ⟨slots 35 0 [(0, .p (.int .i64 n0)), (1, .p (.int .i64 n1))], []⟩ (fun S => finT Try.prog rs_coupletref12_Many S kf_coupletref12_Many) (retT Try.prog rs_coupletref12_Many kf_coupletref12_Many)).run = go_coupletref12_Many n0 n1 := by kernel_rfl
theorem ok_coupletref12_Many (n0 : Int) (n1 : Int) (r : Int) (h : go_coupletref12_Many n0 n1 = some r) : FunEq Try.prog GG 22 [(.int .i64 n0), (.int .i64 n1)] (em_coupletref12_Many r) :=
  fun_of_ev (x := xr_coupletref12_Many) (Λ := lm_coupletref12_Many) gk_coupletref12_Many [] Try.func22 rfl (by kernel_rfl) ir_coupletref12_Many (by kernel_rfl) (congrArg Array.toList Try.results22) Try.ntmps22 (⟨trivial, ⟨⟨trivial, ⟨⟨trivial, trivial⟩, trivial⟩⟩, ⟨trivial, trivial⟩⟩⟩) (leaf_of fun v => (by kernel_rfl : rh_coupletref12_Many.build v = em_coupletref12_Many (ra_coupletref12_Many v))) (by kernel_rfl) ((rn_coupletref12_Many n0 n1).trans h)
def as_coupletref12_Many : List Shp := [(.int .i64), (.int .i64)]
def ga_coupletref12_Many (vs : List PV) : Option Int := go_coupletref12_Many ((tls 0 vs).headD .nilSl).num ((tls 1 vs).headD .nilSl).num
theorem at_coupletref12_Many : FnAt Try.prog GG 22 as_coupletref12_Many ga_coupletref12_Many em_coupletref12_Many := fun vs h r hr => by
  have e : Shp.buildL as_coupletref12_Many vs = [(.int .i64 ((tls 0 vs).headD .nilSl).num), (.int .i64 ((tls 1 vs).headD .nilSl).num)] := by kernel_rfl
  rw [← Shp.buildL_eq _ h, e]
  exact ok_coupletref12_Many _ _ r hr

def xr_coupletref02_Right : XR := (.seq (.ops false [⟨⟨(some 2), (.mv (.c (.bool false))), none⟩, none⟩]) (.seq (.ops false [⟨⟨(some 3), (.mv (.tmp 0)), none⟩, none⟩, ⟨⟨(some 4), (.bin .geq (.tmp 3) (.c (.int .i64 (-1125899906842624)))), none⟩, none⟩, ⟨⟨(some 5), (.mv (.tmp 4)), none⟩, none⟩, ⟨⟨(some 6), (.mv (.tmp 0)), (some (5, true))⟩, none⟩, ⟨⟨(some 7), (.bin .leq (.tmp 6) (.c (.int .i64 (1125899906842624)))), (some (5, true))⟩, none⟩, ⟨⟨(some 8), (.pick (.tmp 5) (.tmp 7) (.c (.bool false))), none⟩, none⟩, ⟨⟨(some 2), (.mv (.tmp 8)), none⟩, none⟩]) .ret))
def rs_coupletref02_Right : List ResultVar := [(.tmp 2)]
theorem ir_coupletref02_Right : compCode Try.prog (Try.f23.body.getD .skip) [] = some (xr_coupletref02_Right.erase, []) := by kernel_rfl
/-! coupletref02_Right -/
def gm_coupletref02_Right : Gam := Gam.bot
theorem gk_coupletref02_Right : GamOk Try.prog GG gm_coupletref02_Right := GamOk.bot
def lm_coupletref02_Right : Lam := fun _ j S kn ke => match j with
  | _ => .fail
/-- coupletref02_Right -/
def go_coupletref02_Right (n0 : Int) : Option Bool :=
  bif (decide (n0 ≥ (-1125899906842624))) then
   some (decide (n0 ≤ 1125899906842624))
  else
   some false
def em_coupletref02_Right (r : Bool) : PV := (.bool r)
def rh_coupletref02_Right : Shp := .bool
def ra_coupletref02_Right (v : PV) : Bool := v.tru
def kf_coupletref02_Right (v : PV) : Tree Bool := .chk (rh_coupletref02_Right.ok v) (.leaf (ra_coupletref02_Right v))
theorem rn_coupletref02_Right (n0 : Int) : (ev GG gm_coupletref02_Right lm_coupletref02_Right xr_coupletref02_Right ⟨slots 9 0 [(0, .p (.int .i64 n0))], []⟩ (fun S => finT Try.prog rs_coupletref02_Right S kf_coupletref02_Right) (retT Try.prog rs_coupletref02_Right kf_coupletref02_Right)).run = go_coupletref02_Right n0 := by kernel_rfl
theorem ok_coupletref02_Right (n0 : Int) (r : Bool) (h : go_coupletref02_Right n0 = some r) : FunEq Try.prog GG 23 [(.int .i64 n0)] (em_coupletref02_Right r) :=
  fun_of_ev (x := xr_coupletref02_Right) (Λ := lm_coupletref02_Right) gk_coupletref02_Right [] Try.func23 rfl (by kernel_rfl) ir_coupletref02_Right (by kernel_rfl) (congrArg Array.toList Try.results23) Try.ntmps23 (⟨trivial, ⟨trivial, trivial⟩⟩) (leaf_of fun v => (by kernel_rfl : rh_coupletref02_Right.build v = em_coupletref02_Right (ra_coupletref02_Right v))) (by kernel_rfl) ((rn_coupletref02_Right n0).trans h)
def as_coupletref02_Right : List Shp := [(.int .i64)]
def ga_coupletref02_Right (vs : List PV) : Option Bool := go_coupletref02_Right ((tls 0 vs).headD .nilSl).num
theorem at_coupletref02_Right : FnAt Try.prog GG 23 as_coupletref02_Right ga_coupletref02_Right em_coupletref02_Right := fun vs h r hr => by
  have e : Shp.buildL as_coupletref02_Right vs = [(.int .i64 ((tls 0 vs).headD .nilSl).num)] := by kernel_rfl
  rw [← Shp.buildL_eq _ h, e]
  exact ok_coupletref02_Right _ r hr

def xb_coupletref12_Right_0 : XR := (.seq (.seq (.ops false [⟨⟨(some 31), (.mv (.tmp 3)), none⟩, none⟩, ⟨⟨(some 32), (.fldA 3 (.tmp 1)), none⟩, none⟩, ⟨⟨(some 33), (.ld false 1 (.tmp 32)), none⟩, (some (.isl .i64))⟩, ⟨⟨(some 34), (.len (.tmp 33)), none⟩, none⟩, ⟨⟨(some 35), (.bin .lss (.tmp 31) (.tmp 34)), none⟩, none⟩]) (.cond (.tmp 35) .skip (.exit 0))) (.seq (.block 1 (.seq (.ops false [⟨⟨(some 38), (.fldA 3 (.tmp 1)), none⟩, none⟩, ⟨⟨(some 39), (.ld false 1 (.tmp 38)), none⟩, (some (.isl .i64))⟩, ⟨⟨(some 40), (.mv (.tmp 3)), none⟩, none⟩, ⟨⟨(some 41), (.ixA 1 (.tmp 39) (.tmp 40)), none⟩, none⟩, ⟨⟨(some 42), (.ld false 1 (.tmp 41)), none⟩, (some (.int .i64))⟩, ⟨⟨(some 43), (.call (.func 23) [(.tmp 42)]), none⟩, none⟩, ⟨⟨(some 44), (.un .not (.tmp 43)), none⟩, none⟩]) (.cond (.tmp 44) (.seq (.ops false [⟨⟨(some 2), (.mv (.c (.bool false))), none⟩, none⟩]) .ret) .skip))) (.ops false [⟨⟨(some 36), (.mv (.tmp 3)), none⟩, none⟩, ⟨⟨(some 37), (.bin .add (.tmp 36) (.c (.int .i64 (1)))), none⟩, none⟩, ⟨⟨(some 3), (.mv (.tmp 37)), none⟩, none⟩])))
def xr_coupletref12_Right : XR := (.seq (.ops false [⟨⟨(some 1), (.box 29 (.tmp 0)), none⟩, none⟩, ⟨⟨(some 2), (.mv (.c (.bool false))), none⟩, none⟩]) (.seq (.seq (.ops true [⟨⟨(some 4), (.fldA 0 (.tmp 1)), none⟩, none⟩, ⟨⟨(some 5), (.ld false 1 (.tmp 4)), none⟩, (some (.int .i64))⟩, ⟨⟨(some 6), (.fldA 2 (.tmp 1)), none⟩, none⟩, ⟨⟨(some 7), (.ld false 1 (.tmp 6)), none⟩, (some (.int .i64))⟩, ⟨⟨(some 8), (.call (.func 22) [(.tmp 5), (.tmp 7)]), none⟩, none⟩, ⟨⟨(some 9), (.bin .eql (.tmp 8) (.c (.int .i64 (0)))), none⟩, none⟩, ⟨⟨(some 10), (.mv (.tmp 9)), none⟩, none⟩, ⟨⟨(some 11), (.fldA 0 (.tmp 1)), (some (10, false))⟩, none⟩, ⟨⟨(some 12), (.ld false 1 (.tmp 11)), (some (10, false))⟩, (some (.int .i64))⟩, ⟨⟨(some 13), (.fldA 2 (.tmp 1)), (some (10, false))⟩, none⟩, ⟨⟨(some 14), (.ld false 1 (.tmp 13)), (some (10, false))⟩, (some (.int .i64))⟩, ⟨⟨(some 15), (.call (.func 22) [(.tmp 12), (.tmp 14)]), (some (10, false))⟩, none⟩, ⟨⟨(some 16), (.fldA 3 (.tmp 1)), (some (10, false))⟩, none⟩, ⟨⟨(some 17), (.ld false 1 (.tmp 16)), (some (10, false))⟩, (some (.isl .i64))⟩, ⟨⟨(some 18), (.len (.tmp 17)), (some (10, false))⟩, none⟩, ⟨⟨(some 19), (.bin .neq (.tmp 15) (.tmp 18)), (some (10, false))⟩, none⟩, ⟨⟨(some 20), (.pick (.tmp 10) (.c (.bool true)) (.tmp 19)), none⟩, none⟩, ⟨⟨(some 21), (.mv (.tmp 20)), none⟩, none⟩, ⟨⟨(some 22), (.fldA 1 (.tmp 1)), (some (21, false))⟩, none⟩, ⟨⟨(some 23), (.ld false 1 (.tmp 22)), (some (21, false))⟩, (some (.int .i64))⟩, ⟨⟨(some 24), (.bin .lss (.tmp 23) (.c (.int .i64 (0)))), (some (21, false))⟩, none⟩, ⟨⟨(some 25), (.pick (.tmp 21) (.c (.bool true)) (.tmp 24)), none⟩, none⟩, ⟨⟨(some 26), (.mv (.tmp 25)), none⟩, none⟩, ⟨⟨(some 27), (.fldA 1 (.tmp 1)), (some (26, false))⟩, none⟩, ⟨⟨(some 28), (.ld false 1 (.tmp 27)), (some (26, false))⟩, (some (.int .i64))⟩, ⟨⟨(some 29), (.bin .gtr (.tmp 28) (.c (.int .i64 (4294967295)))), (some (26, false))⟩, none⟩, ⟨⟨(some 30), (.pick (.tmp 26) (.c (.bool true)) (.tmp 29)), none⟩, none⟩]) (.cond (.tmp 30) (.seq (.ops false [⟨⟨(some 2), (.mv (.c (.bool false))), none⟩, none⟩]) .ret) .skip)) (.seq (.seq (.ops false [⟨⟨(some 3), (.mv (.c (.int .i64 (0)))), none⟩, none⟩]) (.block 0 (.loop 0 [1, 3] xb_coupletref12_Right_0))) (.seq (.ops false [⟨⟨(some 2), (.mv (.c (.bool true))), none⟩, none⟩]) .ret))))
def rs_coupletref12_Right : List ResultVar := [(.tmp 2)]
theorem ir_coupletref12_Right : compCode Try.prog (Try.f14.body.getD .skip) [[1, 3]] = some (xr_coupletref12_Right.erase, []) := by kernel_rfl
/-! coupletref12_Right -/
def gm_coupletref12_Right : Gam := (Gam.fn 22 as_coupletref12_Many ga_coupletref12_Many em_coupletref12_Many (Gam.fn 23 as_coupletref02_Right ga_coupletref02_Right em_coupletref02_Right Gam.bot))
theorem gk_coupletref12_Right : GamOk Try.prog GG gm_coupletref12_Right := (GamOk.fn at_coupletref12_Many (GamOk.fn at_coupletref02_Right GamOk.bot))
def st_coupletref12_Right_0 (n8 : Int) (n9 : Int) (n10 : Int) (n11 : Int) (b12 : Bool) (b13 : Bool) (l14 : List Int) : Option (((Int × Int × Int × Int × Bool × Bool × List Int)) ⊕ ((Unit) ⊕ (Bool))) :=
  bif (decide (n8 < (((List.length l14) : Nat) : Int))) then
   bif (decide (0 ≤ n8)) then
    bif (decide (n8 < (((List.length l14) : Nat) : Int))) then
     bif (decide ((Int.toNat n8) < (List.length l14))) then
      (go_coupletref02_Right (List.getD l14 (Int.toNat n8) 0)).bind fun r15 =>
      bif (!r15) then
       some (Sum.inr (Sum.inr false))
      else
       some (Sum.inl ((IntKind.wrap .i64 (n8 + 1)), n9, n10, n11, b12, b13, l14))
     else none
    else none
   else none
  else
   some (Sum.inr (Sum.inl ()))
def lp_coupletref12_Right_0 (n8 : Int) (n9 : Int) (n10 : Int) (n11 : Int) (b12 : Bool) (b13 : Bool) (l14 : List Int) : Option ((Unit) ⊕ (Bool)) := loopN (X := (Int × Int × Int × Int × Bool × Bool × List Int)) (fun x => st_coupletref12_Right_0 x.1 x.2.1 x.2.2.1 x.2.2.2.1 x.2.2.2.2.1 x.2.2.2.2.2.1 x.2.2.2.2.2.2) (n8, n9, n10, n11, b12, b13, l14)
def sh_coupletref12_Right_0 : StSh := ⟨45, [(1, (.ptr 0 0)), (3, (.p (.int .i64)))], [(.box 29 [(.p (.int .i64)), (.p (.int .i64)), (.p (.int .i64)), (.p (.isl .i64))])]⟩
def sx_coupletref12_Right_0 (x : (Int × Int × Int × Int × Bool × Bool × List Int)) : St := ⟨slots 45 0 [(1, (.ptr 0 0)), (3, (.p (.int .i64 x.1)))], [(.box 29 [(.p (.int .i64 x.2.1)), (.p (.int .i64 x.2.2.1)), (.p (.int .i64 x.2.2.2.1)), (.p (.isl x.2.2.2.2.1 x.2.2.2.2.2.1 .i64 x.2.2.2.2.2.2))])]⟩
def sa_coupletref12_Right_0 (S : St) : (Int × Int × Int × Int × Bool × Bool × List Int) := (((tls 3 S.t).headD .any).pv.num, (((tls 0 S.own).headD .gone).subs.headD .any).pv.num, (((tls 0 S.own).headD .gone).subs.tail.headD .any).pv.num, (((tls 0 S.own).headD .gone).subs.tail.tail.headD .any).pv.num, (((tls 0 S.own).headD .gone).subs.tail.tail.tail.headD .any).pv.nl, (((tls 0 S.own).headD .gone).subs.tail.tail.tail.headD .any).pv.ex, (((tls 0 S.own).headD .gone).subs.tail.tail.tail.headD .any).pv.ints)
def tz_coupletref12_Right_0_1 : StSh := ⟨45, [(2, (.p .bool))], []⟩
def tx_coupletref12_Right_0_1 (x : Bool) : St := ⟨slots 45 0 [(2, (.p (.bool x)))], []⟩
def ta_coupletref12_Right_0_1 (S : St) : Bool := ((tls 2 S.t).headD .any).pv.tru
def tz_coupletref12_Right_0_0 : StSh := ⟨45, [], []⟩
def tx_coupletref12_Right_0_0 (x : Unit) : St := ⟨slots 45 0 [], []⟩
def ta_coupletref12_Right_0_0 (S : St) : Unit := ()
def kb_coupletref12_Right_0 : Exit → St → Tree (((Int × Int × Int × Int × Bool × Bool × List Int)) ⊕ ((Unit) ⊕ (Bool))) := (exOne (.exit 0) [] tz_coupletref12_Right_0_0 ta_coupletref12_Right_0_0 (fun y => Sum.inr ((Sum.inl y))) (exOne .ret [2] tz_coupletref12_Right_0_1 ta_coupletref12_Right_0_1 (fun y => Sum.inr ((Sum.inr y))) exNil))
def ky_coupletref12_Right_0 : Dec ((Unit) ⊕ (Bool)) := fun _ y ke => .sum y (fun a => ke ((.exit 0) : EK).ex (tx_coupletref12_Right_0_0 a)) (fun y' => ke (.ret : EK).ex (tx_coupletref12_Right_0_1 y'))
theorem kk_coupletref12_Right_0 : ExOk Sum.inr kb_coupletref12_Right_0 ky_coupletref12_Right_0 := (ExOk.one (acc := ta_coupletref12_Right_0_0) (bY := tx_coupletref12_Right_0_0) (inj1 := fun y => (Sum.inl y)) (fun S => by kernel_rfl) (fun y _ ke => .inr (by kernel_rfl)) (ExOk.one (acc := ta_coupletref12_Right_0_1) (bY := tx_coupletref12_Right_0_1) (inj1 := fun y => (Sum.inr y)) (fun S => by kernel_rfl) (fun y _ ke => .inr (by kernel_rfl)) ExOk.nil))
def lm_coupletref12_Right : Lam := fun _ j S kn ke => match j with
  | 0 => prepT [1, 3] [] S fun S => .chk (sh_coupletref12_Right_0.ok S) (.bind (loopN (fun x => st_coupletref12_Right_0 x.1 x.2.1 x.2.2.1 x.2.2.2.1 x.2.2.2.2.1 x.2.2.2.2.2.1 x.2.2.2.2.2.2) (sa_coupletref12_Right_0 S)) fun y => ky_coupletref12_Right_0 _ y ke)
  | _ => .fail
theorem sr_coupletref12_Right_0 (x : (Int × Int × Int × Int × Bool × Bool × List Int)) : (ev GG gm_coupletref12_Right lm_coupletref12_Right xb_coupletref12_Right_0 (sx_coupletref12_Right_0 x) (fun S => forgetT [1, 3] S fun S => prepT [1, 3] [] S fun S => .chk (sh_coupletref12_Right_0.ok S) (.leaf (.inl (sa_coupletref12_Right_0 S)))) kb_coupletref12_Right_0).run = st_coupletref12_Right_0 x.1 x.2.1 x.2.2.1 x.2.2.2.1 x.2.2.2.2.1 x.2.2.2.2.2.1 x.2.2.2.2.2.2 := by kernel_rfl
theorem la_coupletref12_Right_0 : LamAt Try.prog GG lm_coupletref12_Right 0 (.loop [1, 3] xb_coupletref12_Right_0.erase) := lam_loop (body := xb_coupletref12_Right_0) (Λ' := lm_coupletref12_Right) gk_coupletref12_Right (⟨⟨trivial, ⟨trivial, trivial⟩⟩, ⟨⟨trivial, ⟨⟨trivial, trivial⟩, trivial⟩⟩, trivial⟩⟩) (fun S => (by kernel_rfl : sh_coupletref12_Right_0.build S = sx_coupletref12_Right_0 (sa_coupletref12_Right_0 S))) kk_coupletref12_Right_0 sr_coupletref12_Right_0 (fun _ _ _ => rfl)
/-- coupletref12_Right -/
def go_coupletref12_Right (n0 : Int) (n1 : Int) (n2 : Int) (b3 : Bool) (b4 : Bool) (l5 : List Int) : Option Bool :=
  (go_coupletref12_Many n0 n2).bind fun r6 =>
  bif (r6 == 0) then
   some false
  else
   (go_coupletref12_Many n0 n2).bind fun r7 =>
   bif (r7 != (((List.length l5) : Nat) : Int)) then
    some false
   else
    bif (decide (n1 < 0)) then
     some false
    else
     bif (decide (n1 > 4294967295)) then
      some false
     else
      (lp_coupletref12_Right_0 0 n0 n1 n2 b3 b4 l5).bind fun y16 =>
      Sum.elim (fun z17 =>
       some true) (fun z18 =>
       some z18) y16
def em_coupletref12_Right (r : Bool) : PV := (.bool r)
def rh_coupletref12_Right : Shp := .bool
def ra_coupletref12_Right (v : PV) : Bool := v.tru
def kf_coupletref12_Right (v : PV) : Tree Bool := .chk (rh_coupletref12_Right.ok v) (.leaf (ra_coupletref12_Right v))
theorem rn_coupletref12_Right (n0 : Int) (n1 : Int) (n2 : Int) (b3 : Bool) (b4 : Bool) (l5 : List Int) : (ev GG gm_coupletref12_Right lm_coupletref12_Right xr_coupletref12_Right ⟨slots 45 0 [(0, .p (.agg [(.int .i64 n0), (.int .i64 n1), (.int .i64 n2), (.isl b3 b4 .i64 l5)]))], []⟩ (fun S => finT Try.prog rs_coupletref12_Right S kf_coupletref12_Right) (retT Try.prog rs_coupletref12_Right kf_coupletref12_Right)).run = go_coupletref12_Right n0 n1 n2 b3 b4 l5 := by kernel_rfl
theorem ok_coupletref12_Right (n0 : Int) (n1 : Int) (n2 : Int) (b3 : Bool) (b4 : Bool) (l5 : List Int) (r : Bool) (h : go_coupletref12_Right n0 n1 n2 b3 b4 l5 = some r) : FunEq Try.prog GG 14 [(.agg [(.int .i64 n0), (.int .i64 n1), (.int .i64 n2), (.isl b3 b4 .i64 l5)])] (em_coupletref12_Right r) :=
  fun_of_ev (x := xr_coupletref12_Right) (Λ := lm_coupletref12_Right) gk_coupletref12_Right [[1, 3]] Try.func14 rfl (by kernel_rfl) ir_coupletref12_Right (by kernel_rfl) (congrArg Array.toList Try.results14) Try.ntmps14 (⟨trivial, ⟨⟨trivial, ⟨⟨trivial, trivial⟩, trivial⟩⟩, ⟨⟨trivial, la_coupletref12_Right_0⟩, ⟨trivial, trivial⟩⟩⟩⟩) (leaf_of fun v => (by kernel_rfl : rh_coupletref12_Right.build v = em_coupletref12_Right (ra_coupletref12_Right v))) (by kernel_rfl) ((rn_coupletref12_Right n0 n1 n2 b3 b4 l5).trans h)
def as_coupletref12_Right : List Shp := [(.agg [(.int .i64), (.int .i64), (.int .i64), (.isl .i64)])]
def ga_coupletref12_Right (vs : List PV) : Option Bool := go_coupletref12_Right (((tls 0 vs).headD .nilSl).subs.headD .nilSl).num (((tls 0 vs).headD .nilSl).subs.tail.headD .nilSl).num (((tls 0 vs).headD .nilSl).subs.tail.tail.headD .nilSl).num (((tls 0 vs).headD .nilSl).subs.tail.tail.tail.headD .nilSl).nl (((tls 0 vs).headD .nilSl).subs.tail.tail.tail.headD .nilSl).ex (((tls 0 vs).headD .nilSl).subs.tail.tail.tail.headD .nilSl).ints
theorem at_coupletref12_Right : FnAt Try.prog GG 14 as_coupletref12_Right ga_coupletref12_Right em_coupletref12_Right := fun vs h r hr => by
  have e : Shp.buildL as_coupletref12_Right vs = [(.agg [(.int .i64 (((tls 0 vs).headD .nilSl).subs.headD .nilSl).num), (.int .i64 (((tls 0 vs).headD .nilSl).subs.tail.headD .nilSl).num), (.int .i64 (((tls 0 vs).headD .nilSl).subs.tail.tail.headD .nilSl).num), (.isl (((tls 0 vs).headD .nilSl).subs.tail.tail.tail.headD .nilSl).nl (((tls 0 vs).headD .nilSl).subs.tail.tail.tail.headD .nilSl).ex .i64 (((tls 0 vs).headD .nilSl).subs.tail.tail.tail.headD .nilSl).ints)])] := by kernel_rfl
  rw [← Shp.buildL_eq _ h, e]
  exact ok_coupletref12_Right _ _ _ _ _ _ r hr

def xb_coupletref14_Sound_0 : XR := (.seq (.seq (.ops false [⟨⟨(some 9), (.mv (.tmp 3)), none⟩, none⟩, ⟨⟨(some 10), (.fldA 3 (.tmp 1)), none⟩, none⟩, ⟨⟨(some 11), (.ld false 1 (.tmp 10)), none⟩, (some (.isl .i64))⟩, ⟨⟨(some 12), (.len (.tmp 11)), none⟩, none⟩, ⟨⟨(some 13), (.bin .lss (.tmp 9) (.tmp 12)), none⟩, none⟩]) (.cond (.tmp 13) .skip (.exit 0))) (.seq (.block 1 (.seq (.ops false [⟨⟨(some 16), (.fldA 3 (.tmp 1)), none⟩, none⟩, ⟨⟨(some 17), (.ld false 1 (.tmp 16)), none⟩, (some (.isl .i64))⟩, ⟨⟨(some 18), (.mv (.tmp 3)), none⟩, none⟩, ⟨⟨(some 19), (.ixA 1 (.tmp 17) (.tmp 18)), none⟩, none⟩, ⟨⟨(some 20), (.ld false 1 (.tmp 19)), none⟩, (some (.int .i64))⟩, ⟨⟨(some 21), (.bin .gtr (.tmp 20) (.c (.int .i64 (17179869184)))), none⟩, none⟩, ⟨⟨(some 22), (.mv (.tmp 21)), none⟩, none⟩, ⟨⟨(some 23), (.fldA 3 (.tmp 1)), (some (22, false))⟩, none⟩, ⟨⟨(some 24), (.ld false 1 (.tmp 23)), (some (22, false))⟩, (some (.isl .i64))⟩, ⟨⟨(some 25), (.mv (.tmp 3)), (some (22, false))⟩, none⟩, ⟨⟨(some 26), (.ixA 1 (.tmp 24) (.tmp 25)), (some (22, false))⟩, none⟩, ⟨⟨(some 27), (.ld false 1 (.tmp 26)), (some (22, false))⟩, (some (.int .i64))⟩, ⟨⟨(some 28), (.bin .lss (.tmp 27) (.c (.int .i64 (-17179869184)))), (some (22, false))⟩, none⟩, ⟨⟨(some 29), (.pick (.tmp 22) (.c (.bool true)) (.tmp 28)), none⟩, none⟩]) (.cond (.tmp 29) (.seq (.ops false [⟨⟨(some 2), (.mv (.c (.int .i64 (3)))), none⟩, none⟩]) .ret) .skip))) (.ops false [⟨⟨(some 14), (.mv (.tmp 3)), none⟩, none⟩, ⟨⟨(some 15), (.bin .add (.tmp 14) (.c (.int .i64 (1)))), none⟩, none⟩, ⟨⟨(some 3), (.mv (.tmp 15)), none⟩, none⟩])))
def xb_coupletref14_Sound_1 : XR := (.seq (.seq (.ops false [⟨⟨(some 50), (.mv (.tmp 5)), none⟩, none⟩, ⟨⟨(some 51), (.fldA 2 (.tmp 1)), none⟩, none⟩, ⟨⟨(some 52), (.ld false 1 (.tmp 51)), none⟩, (some (.int .i64))⟩, ⟨⟨(some 53), (.bin .lss (.tmp 50) (.tmp 52)), none⟩, none⟩]) (.cond (.tmp 53) .skip (.exit 2))) (.seq (.block 3 (.seq (.ops false [⟨⟨(some 56), (.fldA 3 (.tmp 1)), none⟩, none⟩, ⟨⟨(some 57), (.ld false 1 (.tmp 56)), none⟩, (some (.isl .i64))⟩, ⟨⟨(some 58), (.mv (.tmp 4)), none⟩, none⟩, ⟨⟨(some 59), (.mv (.tmp 5)), none⟩, none⟩, ⟨⟨(some 60), (.fldA 2 (.tmp 1)), none⟩, none⟩, ⟨⟨(some 61), (.ld false 1 (.tmp 60)), none⟩, (some (.int .i64))⟩, ⟨⟨(some 62), (.bin .mul (.tmp 59) (.tmp 61)), none⟩, none⟩, ⟨⟨(some 63), (.bin .add (.tmp 58) (.tmp 62)), none⟩, none⟩, ⟨⟨(some 64), (.mv (.tmp 5)), none⟩, none⟩, ⟨⟨(some 65), (.bin .add (.tmp 63) (.tmp 64)), none⟩, none⟩, ⟨⟨(some 66), (.ixA 1 (.tmp 57) (.tmp 65)), none⟩, none⟩, ⟨⟨(some 67), (.ld false 1 (.tmp 66)), none⟩, (some (.int .i64))⟩, ⟨⟨(some 68), (.bin .lss (.tmp 67) (.c (.int .i64 (65536)))), none⟩, none⟩]) (.cond (.tmp 68) (.seq (.ops false [⟨⟨(some 2), (.mv (.c (.int .i64 (9)))), none⟩, none⟩]) .ret) .skip))) (.ops false [⟨⟨(some 54), (.mv (.tmp 5)), none⟩, none⟩, ⟨⟨(some 55), (.bin .add (.tmp 54) (.c (.int .i64 (1)))), none⟩, none⟩, ⟨⟨(some 5), (.mv (.tmp 55)), none⟩, none⟩])))
def xr_coupletref14_Sound : XR := (.seq (.ops false [⟨⟨(some 1), (.box 29 (.tmp 0)), none⟩, none⟩, ⟨⟨(some 2), (.mv (.c (.int .i64 (0)))), none⟩, none⟩]) (.seq (.seq (.ops false [⟨⟨(some 6), (.ld true 4 (.tmp 1)), none⟩, (some (.agg [(.int .i64), (.int .i64), (.int .i64), (.isl .i64)]))⟩, ⟨⟨(some 7), (.call (.func 14) [(.tmp 6)]), none⟩, none⟩, ⟨⟨(some 8), (.un .not (.tmp 7)), none⟩, none⟩]) (.cond (.tmp 8) (.seq (.ops false [⟨⟨(some 2), (.mv (.c (.int .i64 (1)))), none⟩, none⟩]) .ret) .skip)) (.seq (.seq (.ops false [⟨⟨(some 3), (.mv (.c (.int .i64 (0)))), none⟩, none⟩]) (.block 0 (.loop 0 [1, 3] xb_coupletref14_Sound_0))) (.seq (.seq (.ops false [⟨⟨(some 30), (.fldA 0 (.tmp 1)), none⟩, none⟩, ⟨⟨(some 31), (.ld false 1 (.tmp 30)), none⟩, (some (.int .i64))⟩, ⟨⟨(some 32), (.bin .eql (.tmp 31) (.c (.int .i64 (3)))), none⟩, none⟩]) (.cond (.tmp 32) (.seq (.seq (.ops false [⟨⟨(some 33), (.fldA 3 (.tmp 1)), none⟩, none⟩, ⟨⟨(some 34), (.ld false 1 (.tmp 33)), none⟩, (some (.isl .i64))⟩, ⟨⟨(some 35), (.fldA 2 (.tmp 1)), none⟩, none⟩, ⟨⟨(some 36), (.ld false 1 (.tmp 35)), none⟩, (some (.int .i64))⟩, ⟨⟨(some 37), (.ixA 1 (.tmp 34) (.tmp 36)), none⟩, none⟩, ⟨⟨(some 38), (.ld false 1 (.tmp 37)), none⟩, (some (.int .i64))⟩, ⟨⟨(some 39), (.bin .lss (.tmp 38) (.c (.int .i64 (65536)))), none⟩, none⟩]) (.cond (.tmp 39) (.seq (.ops false [⟨⟨(some 2), (.mv (.c (.int .i64 (9)))), none⟩, none⟩]) .ret) .skip)) (.seq (.ops false [⟨⟨(some 2), (.mv (.c (.int .i64 (0)))), none⟩, none⟩]) .ret)) .skip)) (.seq (.ops false [⟨⟨(some 40), (.fldA 2 (.tmp 1)), none⟩, none⟩, ⟨⟨(some 41), (.ld false 1 (.tmp 40)), none⟩, (some (.int .i64))⟩, ⟨⟨(some 4), (.mv (.tmp 41)), none⟩, none⟩]) (.seq (.seq (.ops false [⟨⟨(some 42), (.fldA 0 (.tmp 1)), none⟩, none⟩, ⟨⟨(some 43), (.ld false 1 (.tmp 42)), none⟩, (some (.int .i64))⟩, ⟨⟨(some 44), (.bin .eql (.tmp 43) (.c (.int .i64 (2)))), none⟩, none⟩]) (.cond (.tmp 44) (.ops false [⟨⟨(some 45), (.fldA 2 (.tmp 1)), none⟩, none⟩, ⟨⟨(some 46), (.ld false 1 (.tmp 45)), none⟩, (some (.int .i64))⟩, ⟨⟨(some 47), (.fldA 2 (.tmp 1)), none⟩, none⟩, ⟨⟨(some 48), (.ld false 1 (.tmp 47)), none⟩, (some (.int .i64))⟩, ⟨⟨(some 49), (.bin .mul (.tmp 46) (.tmp 48)), none⟩, none⟩, ⟨⟨(some 4), (.mv (.tmp 49)), none⟩, none⟩]) .skip)) (.seq (.seq (.ops false [⟨⟨(some 5), (.mv (.c (.int .i64 (0)))), none⟩, none⟩]) (.block 2 (.loop 1 [1, 4, 5] xb_coupletref14_Sound_1))) (.seq (.ops false [⟨⟨(some 2), (.mv (.c (.int .i64 (0)))), none⟩, none⟩]) .ret))))))))
def rs_coupletref14_Sound : List ResultVar := [(.tmp 2)]
theorem ir_coupletref14_Sound : compCode Try.prog (Try.f11.body.getD .skip) [[1, 3], [1, 4, 5]] = some (xr_coupletref14_Sound.erase, []) := by kernel_rfl
/-! coupletref14_Sound -/
def gm_coupletref14_Sound : Gam := (Gam.fn 14 as_coupletref12_Right ga_coupletref12_Right em_coupletref12_Right Gam.bot)
theorem gk_coupletref14_Sound : GamOk Try.prog GG gm_coupletref14_Sound := (GamOk.fn at_coupletref12_Right GamOk.bot)
def st_coupletref14_Sound_1 (n16 : Int) (n17 : Int) (n18 : Int) (n19 : Int) (n20 : Int) (b21 : Bool) (b22 : Bool) (l23 : List Int) : Option (((Int × Int × Int × Int × Int × Bool × Bool × List Int)) ⊕ ((Unit) ⊕ (Int))) :=
  bif (decide (n17 < n20)) then
   bif (decide (0 ≤ (IntKind.wrap .i64 ((IntKind.wrap .i64 (n16 + (IntKind.wrap .i64 (n17 * n20)))) + n17)))) then
    bif (decide ((IntKind.wrap .i64 ((IntKind.wrap .i64 (n16 + (IntKind.wrap .i64 (n17 * n20)))) + n17)) < (((List.length l23) : Nat) : Int))) then
     bif (decide ((Int.toNat (IntKind.wrap .i64 ((IntKind.wrap .i64 (n16 + (IntKind.wrap .i64 (n17 * n20)))) + n17))) < (List.length l23))) then
      bif (decide ((List.getD l23 (Int.toNat (IntKind.wrap .i64 ((IntKind.wrap .i64 (n16 + (IntKind.wrap .i64 (n17 * n20)))) + n17))) 0) < 65536)) then
       some (Sum.inr (Sum.inr 9))
      else
       some (Sum.inl (n16, (IntKind.wrap .i64 (n17 + 1)), n18, n19, n20, b21, b22, l23))
     else none
    else none
   else none
  else
   some (Sum.inr (Sum.inl ()))
def lp_coupletref14_Sound_1 (n16 : Int) (n17 : Int) (n18 : Int) (n19 : Int) (n20 : Int) (b21 : Bool) (b22 : Bool) (l23 : List Int) : Option ((Unit) ⊕ (Int)) := loopN (X := (Int × Int × Int × Int × Int × Bool × Bool × List Int)) (fun x => st_coupletref14_Sound_1 x.1 x.2.1 x.2.2.1 x.2.2.2.1 x.2.2.2.2.1 x.2.2.2.2.2.1 x.2.2.2.2.2.2.1 x.2.2.2.2.2.2.2) (n16, n17, n18, n19, n20, b21, b22, l23)
def sh_coupletref14_Sound_1 : StSh := ⟨69, [(1, (.ptr 0 0)), (4, (.p (.int .i64))), (5, (.p (.int .i64)))], [(.box 29 [(.p (.int .i64)), (.p (.int .i64)), (.p (.int .i64)), (.p (.isl .i64))])]⟩
def sx_coupletref14_Sound_1 (x : (Int × Int × Int × Int × Int × Bool × Bool × List Int)) : St := ⟨slots 69 0 [(1, (.ptr 0 0)), (4, (.p (.int .i64 x.1))), (5, (.p (.int .i64 x.2.1)))], [(.box 29 [(.p (.int .i64 x.2.2.1)), (.p (.int .i64 x.2.2.2.1)), (.p (.int .i64 x.2.2.2.2.1)), (.p (.isl x.2.2.2.2.2.1 x.2.2.2.2.2.2.1 .i64 x.2.2.2.2.2.2.2))])]⟩
def sa_coupletref14_Sound_1 (S : St) : (Int × Int × Int × Int × Int × Bool × Bool × List Int) := (((tls 4 S.t).headD .any).pv.num, ((tls 5 S.t).headD .any).pv.num, (((tls 0 S.own).headD .gone).subs.headD .any).pv.num, (((tls 0 S.own).headD .gone).subs.tail.headD .any).pv.num, (((tls 0 S.own).headD .gone).subs.tail.tail.headD .any).pv.num, (((tls 0 S.own).headD .gone).subs.tail.tail.tail.headD .any).pv.nl, (((tls 0 S.own).headD .gone).subs.tail.tail.tail.headD .any).pv.ex, (((tls 0 S.own).headD .gone).subs.tail.tail.tail.headD .any).pv.ints)
def tz_coupletref14_Sound_1_1 : StSh := ⟨69, [(2, (.p (.int .i64)))], []⟩
def tx_coupletref14_Sound_1_1 (x : Int) : St := ⟨slots 69 0 [(2, (.p (.int .i64 x)))], []⟩
def ta_coupletref14_Sound_1_1 (S : St) : Int := ((tls 2 S.t).headD .any).pv.num
def tz_coupletref14_Sound_1_0 : StSh := ⟨69, [], []⟩
def tx_coupletref14_Sound_1_0 (x : Unit) : St := ⟨slots 69 0 [], []⟩
def ta_coupletref14_Sound_1_0 (S : St) : Unit := ()
def kb_coupletref14_Sound_1 : Exit → St → Tree (((Int × Int × Int × Int × Int × Bool × Bool × List Int)) ⊕ ((Unit) ⊕ (Int))) := (exOne (.exit 2) [] tz_coupletref14_Sound_1_0 ta_coupletref14_Sound_1_0 (fun y => Sum.inr ((Sum.inl y))) (exOne .ret [2] tz_coupletref14_Sound_1_1 ta_coupletref14_Sound_1_1 (fun y => Sum.inr ((Sum.inr y))) exNil))
def ky_coupletref14_Sound_1 : Dec ((Unit) ⊕ (Int)) := fun _ y ke => .sum y (fun a => ke ((.exit 2) : EK).ex (tx_coupletref14_Sound_1_0 a)) (fun y' => ke (.ret : EK).ex (tx_coupletref14_Sound_1_1 y'))
theorem kk_coupletref14_Sound_1 : ExOk Sum.inr kb_coupletref14_Sound_1 ky_coupletref14_Sound_1 := (ExOk.one (acc := ta_coupletref14_Sound_1_0) (bY := tx_coupletref14_Sound_1_0) (inj1 := fun y => (Sum.inl y)) (fun S => by kernel_rfl) (fun y _ ke => .inr (by kernel_rfl)) (ExOk.one (acc := ta_coupletref14_Sound_1_1) (bY := tx_coupletref14_Sound_1_1) (inj1 := fun y => (Sum.inr y)) (fun S => by kernel_rfl) (fun y _ ke => .inr (by kernel_rfl)) ExOk.nil))
def st_coupletref14_Sound_0 (n7 : Int) (n8 : Int) (n9 : Int) (n10 : Int) (b11 : Bool) (b12 : Bool) (l13 : List Int) : Option (((Int × Int × Int × Int × Bool × Bool × List Int)) ⊕ (((Int × Int × Int × Bool × Bool × List Int)) ⊕ (Int))) :=
  bif (decide (n7 < (((List.length l13) : Nat) : Int))) then
   bif (decide (0 ≤ n7)) then
    bif (decide (n7 < (((List.length l13) : Nat) : Int))) then
     bif (decide ((Int.toNat n7) < (List.length l13))) then
      bif (decide ((List.getD l13 (Int.toNat n7) 0) > 17179869184)) then
       some (Sum.inr (Sum.inr 3))
      else
       bif (decide (0 ≤ n7)) then
        bif (decide (n7 < (((List.length l13) : Nat) : Int))) then
         bif (decide ((Int.toNat n7) < (List.length l13))) then
          bif (decide ((List.getD l13 (Int.toNat n7) 0) < (-17179869184))) then
           some (Sum.inr (Sum.inr 3))
          else
           some (Sum.inl ((IntKind.wrap .i64 (n7 + 1)), n8, n9, n10, b11, b12, l13))
         else none
        else none
       else none
     else none
    else none
   else none
  else
   some (Sum.inr (Sum.inl (n8, n9, n10, b11, b12, l13)))
def lp_coupletref14_Sound_0 (n7 : Int) (n8 : Int) (n9 : Int) (n10 : Int) (b11 : Bool) (b12 : Bool) (l13 : List Int) : Option (((Int × Int × Int × Bool × Bool × List Int)) ⊕ (Int)) := loopN (X := (Int × Int × Int × Int × Bool × Bool × List Int)) (fun x => st_coupletref14_Sound_0 x.1 x.2.1 x.2.2.1 x.2.2.2.1 x.2.2.2.2.1 x.2.2.2.2.2.1 x.2.2.2.2.2.2) (n7, n8, n9, n10, b11, b12, l13)
def sh_coupletref14_Sound_0 : StSh := ⟨69, [(1, (.ptr 0 0)), (3, (.p (.int .i64)))], [(.box 29 [(.p (.int .i64)), (.p (.int .i64)), (.p (.int .i64)), (.p (.isl .i64))])]⟩
def sx_coupletref14_Sound_0 (x : (Int × Int × Int × Int × Bool × Bool × List Int)) : St := ⟨slots 69 0 [(1, (.ptr 0 0)), (3, (.p (.int .i64 x.1)))], [(.box 29 [(.p (.int .i64 x.2.1)), (.p (.int .i64 x.2.2.1)), (.p (.int .i64 x.2.2.2.1)), (.p (.isl x.2.2.2.2.1 x.2.2.2.2.2.1 .i64 x.2.2.2.2.2.2))])]⟩
def sa_coupletref14_Sound_0 (S : St) : (Int × Int × Int × Int × Bool × Bool × List Int) := (((tls 3 S.t).headD .any).pv.num, (((tls 0 S.own).headD .gone).subs.headD .any).pv.num, (((tls 0 S.own).headD .gone).subs.tail.headD .any).pv.num, (((tls 0 S.own).headD .gone).subs.tail.tail.headD .any).pv.num, (((tls 0 S.own).headD .gone).subs.tail.tail.tail.headD .any).pv.nl, (((tls 0 S.own).headD .gone).subs.tail.tail.tail.headD .any).pv.ex, (((tls 0 S.own).headD .gone).subs.tail.tail.tail.headD .any).pv.ints)
def tz_coupletref14_Sound_0_1 : StSh := ⟨69, [(2, (.p (.int .i64)))], []⟩
def tx_coupletref14_Sound_0_1 (x : Int) : St := ⟨slots 69 0 [(2, (.p (.int .i64 x)))], []⟩
def ta_coupletref14_Sound_0_1 (S : St) : Int := ((tls 2 S.t).headD .any).pv.num
def tz_coupletref14_Sound_0_0 : StSh := ⟨69, [(1, (.ptr 0 0))], [(.box 29 [(.p (.int .i64)), (.p (.int .i64)), (.p (.int .i64)), (.p (.isl .i64))])]⟩
def tx_coupletref14_Sound_0_0 (x : (Int × Int × Int × Bool × Bool × List Int)) : St := ⟨slots 69 0 [(1, (.ptr 0 0))], [(.box 29 [(.p (.int .i64 x.1)), (.p (.int .i64 x.2.1)), (.p (.int .i64 x.2.2.1)), (.p (.isl x.2.2.2.1 x.2.2.2.2.1 .i64 x.2.2.2.2.2))])]⟩
def ta_coupletref14_Sound_0_0 (S : St) : (Int × Int × Int × Bool × Bool × List Int) := ((((tls 0 S.own).headD .gone).subs.headD .any).pv.num, (((tls 0 S.own).headD .gone).subs.tail.headD .any).pv.num, (((tls 0 S.own).headD .gone).subs.tail.tail.headD .any).pv.num, (((tls 0 S.own).headD .gone).subs.tail.tail.tail.headD .any).pv.nl, (((tls 0 S.own).headD .gone).subs.tail.tail.tail.headD .any).pv.ex, (((tls 0 S.own).headD .gone).subs.tail.tail.tail.headD .any).pv.ints)
def kb_coupletref14_Sound_0 : Exit → St → Tree (((Int × Int × Int × Int × Bool × Bool × List Int)) ⊕ (((Int × Int × Int × Bool × Bool × List Int)) ⊕ (Int))) := (exOne (.exit 0) [1] tz_coupletref14_Sound_0_0 ta_coupletref14_Sound_0_0 (fun y => Sum.inr ((Sum.inl y))) (exOne .ret [2] tz_coupletref14_Sound_0_1 ta_coupletref14_Sound_0_1 (fun y => Sum.inr ((Sum.inr y))) exNil))
def ky_coupletref14_Sound_0 : Dec (((Int × Int × Int × Bool × Bool × List Int)) ⊕ (Int)) := fun _ y ke => .sum y (fun a => ke ((.exit 0) : EK).ex (tx_coupletref14_Sound_0_0 a)) (fun y' => ke (.ret : EK).ex (tx_coupletref14_Sound_0_1 y'))
theorem kk_coupletref14_Sound_0 : ExOk Sum.inr kb_coupletref14_Sound_0 ky_coupletref14_Sound_0 := (ExOk.one (acc := ta_coupletref14_Sound_0_0) (bY := tx_coupletref14_Sound_0_0) (inj1 := fun y => (Sum.inl y)) (fun S => by kernel_rfl) (fun y _ ke => .inr (by kernel_rfl)) (ExOk.one (acc := ta_coupletref14_Sound_0_1) (bY := tx_coupletref14_Sound_0_1) (inj1 := fun y => (Sum.inr y)) (fun S => by kernel_rfl) (fun y _ ke => .inr (by kernel_rfl)) ExOk.nil))
def lm_coupletref14_Sound : Lam := fun _ j S kn ke => match j with
  | 0 => prepT [1, 3] [] S fun S => .chk (sh_coupletref14_Sound_0.ok S) (.bind (loopN (fun x => st_coupletref14_Sound_0 x.1 x.2.1 x.2.2.1 x.2.2.2.1 x.2.2.2.2.1 x.2.2.2.2.2.1 x.2.2.2.2.2.2) (sa_coupletref14_Sound_0 S)) fun y => ky_coupletref14_Sound_0 _ y ke)
  | 1 => prepT [1, 4, 5] [] S fun S => .chk (sh_coupletref14_Sound_1.ok S) (.bind (loopN (fun x => st_coupletref14_Sound_1 x.1 x.2.1 x.2.2.1 x.2.2.2.1 x.2.2.2.2.1 x.2.2.2.2.2.1 x.2.2.2.2.2.2.1 x.2.2.2.2.2.2.2) (sa_coupletref14_Sound_1 S)) fun y => ky_coupletref14_Sound_1 _ y ke)
  | _ => .fail
theorem sr_coupletref14_Sound_1 (x : (Int × Int × Int × Int × Int × Bool × Bool × List Int)) : (ev GG gm_coupletref14_Sound lm_coupletref14_Sound xb_coupletref14_Sound_1 (sx_coupletref14_Sound_1 x) (fun S => forgetT [1, 4, 5] S fun S => prepT [1, 4, 5] [] S fun S => .chk (sh_coupletref14_Sound_1.ok S) (.leaf (.inl (sa_coupletref14_Sound_1 S)))) kb_coupletref14_Sound_1).run = st_coupletref14_Sound_1 x.1 x.2.1 x.2.2.1 x.2.2.2.1 x.2.2.2.2.1 x.2.2.2.2.2.1 x.2.2.2.2.2.2.1 x.2.2.2.2.2.2.2 := by kernel_rfl
theorem la_coupletref14_Sound_1 : LamAt Try.prog GG lm_coupletref14_Sound 1 (.loop [1, 4, 5] xb_coupletref14_Sound_1.erase) := lam_loop (body := xb_coupletref14_Sound_1) (Λ' := lm_coupletref14_Sound) gk_coupletref14_Sound (⟨⟨trivial, ⟨trivial, trivial⟩⟩, ⟨⟨trivial, ⟨⟨trivial, trivial⟩, trivial⟩⟩, trivial⟩⟩) (fun S => (by kernel_rfl : sh_coupletref14_Sound_1.build S = sx_coupletref14_Sound_1 (sa_coupletref14_Sound_1 S))) kk_coupletref14_Sound_1 sr_coupletref14_Sound_1 (fun _ _ _ => rfl)
theorem sr_coupletref14_Sound_0 (x : (Int × Int × Int × Int × Bool × Bool × List Int)) : (ev GG gm_coupletref14_Sound lm_coupletref14_Sound xb_coupletref14_Sound_0 (sx_coupletref14_Sound_0 x) (fun S => forgetT [1, 3] S fun S => prepT [1, 3] [] S fun S => .chk (sh_coupletref14_Sound_0.ok S) (.leaf (.inl (sa_coupletref14_Sound_0 S)))) kb_coupletref14_Sound_0).run = st_coupletref14_Sound_0 x.1 x.2.1 x.2.2.1 x.2.2.2.1 x.2.2.2.2.1 x.2.2.2.2.2.1 x.2.2.2.2.2.2 := by kernel_rfl
theorem la_coupletref14_Sound_0 : LamAt Try.prog GG lm_coupletref14_Sound 0 (.loop [1, 3] xb_coupletref14_Sound_0.erase) := lam_loop (body := xb_coupletref14_Sound_0) (Λ' := lm_coupletref14_Sound) gk_coupletref14_Sound (⟨⟨trivial, ⟨trivial, trivial⟩⟩, ⟨⟨trivial, ⟨⟨trivial, trivial⟩, trivial⟩⟩, trivial⟩⟩) (fun S => (by kernel_rfl : sh_coupletref14_Sound_0.build S = sx_coupletref14_Sound_0 (sa_coupletref14_Sound_0 S))) kk_coupletref14_Sound_0 sr_coupletref14_Sound_0 (fun _ _ _ => rfl)
/-- coupletref14_Sound -/
def go_coupletref14_Sound (n0 : Int) (n1 : Int) (n2 : Int) (b3 : Bool) (b4 : Bool) (l5 : List Int) : Option Int :=
  (go_coupletref12_Right n0 n1 n2 b3 b4 l5).bind fun r6 =>
  bif (!r6) then
   some 1
  else
   (lp_coupletref14_Sound_0 0 n0 n1 n2 b3 b4 l5).bind fun y14 =>
   Sum.elim (fun z15 =>
    bif (z15.1 == 3) then
     bif (decide (0 ≤ z15.2.2.1)) then
      bif (decide (z15.2.2.1 < (((List.length z15.2.2.2.2.2) : Nat) : Int))) then
       bif (decide ((Int.toNat z15.2.2.1) < (List.length z15.2.2.2.2.2))) then
        bif (decide ((List.getD z15.2.2.2.2.2 (Int.toNat z15.2.2.1) 0) < 65536)) then
         some 9
        else
         some 0
       else none
      else none
     else none
    else
     bif (z15.1 == 2) then
      (lp_coupletref14_Sound_1 (IntKind.wrap .i64 (z15.2.2.1 * z15.2.2.1)) 0 z15.1 z15.2.1 z15.2.2.1 z15.2.2.2.1 z15.2.2.2.2.1 z15.2.2.2.2.2).bind fun y24 =>
      Sum.elim (fun z25 =>
       some 0) (fun z26 =>
       some z26) y24
     else
      (lp_coupletref14_Sound_1 z15.2.2.1 0 z15.1 z15.2.1 z15.2.2.1 z15.2.2.2.1 z15.2.2.2.2.1 z15.2.2.2.2.2).bind fun y27 =>
      Sum.elim (fun z28 =>
       some 0) (fun z29 =>
       some z29) y27) (fun z30 =>
    some z30) y14
def em_coupletref14_Sound (r : Int) : PV := (.int .i64 r)
def rh_coupletref14_Sound : Shp := (.int .i64)
def ra_coupletref14_Sound (v : PV) : Int := v.num
def kf_coupletref14_Sound (v : PV) : Tree Int := .chk (rh_coupletref14_Sound.ok v) (.leaf (ra_coupletref14_Sound v))
theorem rn_coupletref14_Sound (n0 : Int) (n1 : Int) (n2 : Int) (b3 : Bool) (b4 : Bool) (l5 : List Int) : (ev GG gm_coupletref14_Sound lm_coupletref14_Sound xr_coupletref14_Sound ⟨slots 69 0 [(0, .p (.agg [(.int .i64 n0), (.int .i64 n1), (.int .i64 n2), (.isl b3 b4 .i64 l5)]))], []⟩ (fun S => finT Try.prog rs_coupletref14_Sound S kf_coupletref14_Sound) (retT Try.prog rs_coupletref14_Sound kf_coupletref14_Sound)).run = go_coupletref14_Sound n0 n1 n2 b3 b4 l5 := by kernel_rfl
theorem ok_coupletref14_Sound (n0 : Int) (n1 : Int) (n2 : Int) (b3 : Bool) (b4 : Bool) (l5 : List Int) (r : Int) (h : go_coupletref14_Sound n0 n1 n2 b3 b4 l5 = some r) : FunEq Try.prog GG 11 [(.agg [(.int .i64 n0), (.int .i64 n1), (.int .i64 n2), (.isl b3 b4 .i64 l5)])] (em_coupletref14_Sound r) :=
  fun_of_ev (x := xr_coupletref14_Sound) (Λ := lm_coupletref14_Sound) gk_coupletref14_Sound [[1, 3], [1, 4, 5]] Try.func11 rfl (by kernel_rfl) ir_coupletref14_Sound (by kernel_rfl) (congrArg Array.toList Try.results11) Try.ntmps11 (⟨trivial, ⟨⟨trivial, ⟨⟨trivial, trivial⟩, trivial⟩⟩, ⟨⟨trivial, la_coupletref14_Sound_0⟩, ⟨⟨trivial, ⟨⟨⟨trivial, ⟨⟨trivial, trivial⟩, trivial⟩⟩, ⟨trivial, trivial⟩⟩, trivial⟩⟩, ⟨trivial, ⟨⟨trivial, ⟨trivial, trivial⟩⟩, ⟨⟨trivial, la_coupletref14_Sound_1⟩, ⟨trivial, trivial⟩⟩⟩⟩⟩⟩⟩⟩) (leaf_of fun v => (by kernel_rfl : rh_coupletref14_Sound.build v = em_coupletref14_Sound (ra_coupletref14_Sound v))) (by kernel_rfl) ((rn_coupletref14_Sound n0 n1 n2 b3 b4 l5).trans h)
def as_coupletref14_Sound : List Shp := [(.agg [(.int .i64), (.int .i64), (.int .i64), (.isl .i64)])]
def ga_coupletref14_Sound (vs : List PV) : Option Int := go_coupletref14_Sound (((tls 0 vs).headD .nilSl).subs.headD .nilSl).num (((tls 0 vs).headD .nilSl).subs.tail.headD .nilSl).num (((tls 0 vs).headD .nilSl).subs.tail.tail.headD .nilSl).num (((tls 0 vs).headD .nilSl).subs.tail.tail.tail.headD .nilSl).nl (((tls 0 vs).headD .nilSl).subs.tail.tail.tail.headD .nilSl).ex (((tls 0 vs).headD .nilSl).subs.tail.tail.tail.headD .nilSl).ints
theorem at_coupletref14_Sound : FnAt Try.prog GG 11 as_coupletref14_Sound ga_coupletref14_Sound em_coupletref14_Sound := fun vs h r hr => by
  have e : Shp.buildL as_coupletref14_Sound vs = [(.agg [(.int .i64 (((tls 0 vs).headD .nilSl).subs.headD .nilSl).num), (.int .i64 (((tls 0 vs).headD .nilSl).subs.tail.headD .nilSl).num), (.int .i64 (((tls 0 vs).headD .nilSl).subs.tail.tail.headD .nilSl).num), (.isl (((tls 0 vs).headD .nilSl).subs.tail.tail.tail.headD .nilSl).nl (((tls 0 vs).headD .nilSl).subs.tail.tail.tail.headD .nilSl).ex .i64 (((tls 0 vs).headD .nilSl).subs.tail.tail.tail.headD .nilSl).ints)])] := by kernel_rfl
  rw [← Shp.buildL_eq _ h, e]
  exact ok_coupletref14_Sound _ _ _ _ _ _ r hr

def xr_coupletlaw14_CheckSounds : XR := (.seq (.ops false [⟨⟨(some 1), (.box 24 (.tmp 0)), none⟩, none⟩, ⟨⟨(some 2), (.mv (.c (.bool false))), none⟩, none⟩]) (.seq (.seq (.ops false [⟨⟨(some 3), (.fldA 3 (.tmp 1)), none⟩, none⟩, ⟨⟨(some 4), (.ld false 1 (.tmp 3)), none⟩, (some (.isl .i64))⟩, ⟨⟨(some 5), (.len (.tmp 4)), none⟩, none⟩, ⟨⟨(some 6), (.bin .gtr (.tmp 5) (.c (.int .i64 (40)))), none⟩, none⟩]) (.cond (.tmp 6) (.seq (.ops false [⟨⟨(some 7), (.call (.func 9) []), none⟩, none⟩, ⟨⟨(some 2), (.mv (.tmp 7)), none⟩, none⟩]) .ret) .skip)) (.seq (.ops true [⟨⟨(some 8), (.ld true 4 (.tmp 1)), none⟩, (some (.agg [(.int .i64), (.int .i64), (.int .i64), (.isl .i64)]))⟩, ⟨⟨(some 9), (.call (.func 10) [(.tmp 8)]), none⟩, none⟩, ⟨⟨(some 10), (.ld true 4 (.tmp 1)), none⟩, (some (.agg [(.int .i64), (.int .i64), (.int .i64), (.isl .i64)]))⟩, ⟨⟨(some 11), (.call (.func 12) [(.tmp 10)]), none⟩, none⟩, ⟨⟨(some 12), (.call (.func 11) [(.tmp 11)]), none⟩, none⟩, ⟨⟨(some 13), (.bin .eql (.tmp 9) (.tmp 12)), none⟩, none⟩, ⟨⟨(some 14), (.mv (.tmp 13)), none⟩, none⟩, ⟨⟨(some 15), (.call (.func 9) []), (some (14, true))⟩, none⟩, ⟨⟨(some 16), (.pick (.tmp 14) (.tmp 15) (.c (.bool false))), none⟩, none⟩, ⟨⟨(some 2), (.mv (.tmp 16)), none⟩, none⟩]) .ret)))
def rs_coupletlaw14_CheckSounds : List ResultVar := [(.tmp 2)]
theorem ir_coupletlaw14_CheckSounds : compCode Try.prog (Try.f3.body.getD .skip) [] = some (xr_coupletlaw14_CheckSounds.erase, []) := by kernel_rfl
/-! coupletlaw14_CheckSounds -/
def gm_coupletlaw14_CheckSounds : Gam := (Gam.fn 9 as_coupletlaw14_awake ga_coupletlaw14_awake em_coupletlaw14_awake (Gam.fn 10 as_check_Sound ga_check_Sound em_check_Sound (Gam.fn 12 as_coupletlaw12_Given ga_coupletlaw12_Given em_coupletlaw12_Given (Gam.fn 11 as_coupletref14_Sound ga_coupletref14_Sound em_coupletref14_Sound Gam.bot))))
theorem gk_coupletlaw14_CheckSounds : GamOk Try.prog GG gm_coupletlaw14_CheckSounds := (GamOk.fn at_coupletlaw14_awake (GamOk.fn at_check_Sound (GamOk.fn at_coupletlaw12_Given (GamOk.fn at_coupletref14_Sound GamOk.bot))))
def lm_coupletlaw14_CheckSounds : Lam := fun _ j S kn ke => match j with
  | _ => .fail
/-- coupletlaw14_CheckSounds -/
def go_coupletlaw14_CheckSounds (n0 : Int) (n1 : Int) (n2 : Int) (b3 : Bool) (b4 : Bool) (l5 : List Int) : Option Bool :=
  bif (decide ((((List.length l5) : Nat) : Int) > 40)) then
   (go_coupletlaw14_awake).bind fun r6 =>
   some r6
  else
   (go_check_Sound n0 n1 n2 b3 b4 l5).bind fun r7 =>
   (go_coupletlaw12_Given n0 n1 n2 b3 b4 l5).bind fun r8 =>
   (go_coupletref14_Sound r8.1 r8.2.1 r8.2.2.1 r8.2.2.2.1 r8.2.2.2.2.1 r8.2.2.2.2.2).bind fun r9 =>
   bif (r7 == r9) then
    (go_coupletlaw14_awake).bind fun r10 =>
    some r10
   else
    some false
def em_coupletlaw14_CheckSounds (r : Bool) : PV := (.bool r)
def rh_coupletlaw14_CheckSounds : Shp := .bool
def ra_coupletlaw14_CheckSounds (v : PV) : Bool := v.tru
def kf_coupletlaw14_CheckSounds (v : PV) : Tree Bool := .chk (rh_coupletlaw14_CheckSounds.ok v) (.leaf (ra_coupletlaw14_CheckSounds v))
theorem rn_coupletlaw14_CheckSounds (n0 : Int) (n1 : Int) (n2 : Int) (b3 : Bool) (b4 : Bool) (l5 : List Int) : (ev GG gm_coupletlaw14_CheckSounds lm_coupletlaw14_CheckSounds xr_coupletlaw14_CheckSounds ⟨slots 17 0 [(0, .p (.agg [(.int .i64 n0), (.int .i64 n1), (.int .i64 n2), (.isl b3 b4 .i64 l5)]))], []⟩ (fun S => finT Try.prog rs_coupletlaw14_CheckSounds S kf_coupletlaw14_CheckSounds) (retT Try.prog rs_coupletlaw14_CheckSounds kf_coupletlaw14_CheckSounds)).run = go_coupletlaw14_CheckSounds n0 n1 n2 b3 b4 l5 := by kernel_rfl
theorem ok_coupletlaw14_CheckSounds (n0 : Int) (n1 : Int) (n2 : Int) (b3 : Bool) (b4 : Bool) (l5 : List Int) (r : Bool) (h : go_coupletlaw14_CheckSounds n0 n1 n2 b3 b4 l5 = some r) : FunEq Try.prog GG 3 [(.agg [(.int .i64 n0), (.int .i64 n1), (.int .i64 n2), (.isl b3 b4 .i64 l5)])] (em_coupletlaw14_CheckSounds r) :=
  fun_of_ev (x := xr_coupletlaw14_CheckSounds) (Λ := lm_coupletlaw14_CheckSounds) gk_coupletlaw14_CheckSounds [] Try.func3 rfl (by kernel_rfl) ir_coupletlaw14_CheckSounds (by kernel_rfl) (congrArg Array.toList Try.results3) Try.ntmps3 (⟨trivial, ⟨⟨trivial, ⟨⟨trivial, trivial⟩, trivial⟩⟩, ⟨trivial, trivial⟩⟩⟩) (leaf_of fun v => (by kernel_rfl : rh_coupletlaw14_CheckSounds.build v = em_coupletlaw14_CheckSounds (ra_coupletlaw14_CheckSounds v))) (by kernel_rfl) ((rn_coupletlaw14_CheckSounds n0 n1 n2 b3 b4 l5).trans h)
def as_coupletlaw14_CheckSounds : List Shp := [(.agg [(.int .i64), (.int .i64), (.int .i64), (.isl .i64)])]
def ga_coupletlaw14_CheckSounds (vs : List PV) : Option Bool := go_coupletlaw14_CheckSounds (((tls 0 vs).headD .nilSl).subs.headD .nilSl).num (((tls 0 vs).headD .nilSl).subs.tail.headD .nilSl).num (((tls 0 vs).headD .nilSl).subs.tail.tail.headD .nilSl).num (((tls 0 vs).headD .nilSl).subs.tail.tail.tail.headD .nilSl).nl (((tls 0 vs).headD .nilSl).subs.tail.tail.tail.headD .nilSl).ex (((tls 0 vs).headD .nilSl).subs.tail.tail.tail.headD .nilSl).ints
theorem at_coupletlaw14_CheckSounds : FnAt Try.prog GG 3 as_coupletlaw14_CheckSounds ga_coupletlaw14_CheckSounds em_coupletlaw14_CheckSounds := fun vs h r hr => by
  have e : Shp.buildL as_coupletlaw14_CheckSounds vs = [(.agg [(.int .i64 (((tls 0 vs).headD .nilSl).subs.headD .nilSl).num), (.int .i64 (((tls 0 vs).headD .nilSl).subs.tail.headD .nilSl).num), (.int .i64 (((tls 0 vs).headD .nilSl).subs.tail.tail.headD .nilSl).num), (.isl (((tls 0 vs).headD .nilSl).subs.tail.tail.tail.headD .nilSl).nl (((tls 0 vs).headD .nilSl).subs.tail.tail.tail.headD .nilSl).ex .i64 (((tls 0 vs).headD .nilSl).subs.tail.tail.tail.headD .nilSl).ints)])] := by kernel_rfl
  rw [← Shp.buildL_eq _ h, e]
  exact ok_coupletlaw14_CheckSounds _ _ _ _ _ _ r hr

def xb_coupletlaw14_CheckParts_1 : XR := (.seq (.ops false [⟨⟨(some 87), (.bin .lss (.tmp 86) (.tmp 85)), none⟩, none⟩]) (.seq (.cond (.tmp 87) .skip (.exit 2)) (.seq (.block 3 (.seq (.ops false [⟨⟨(some 88), (.ixA 1 (.tmp 84) (.tmp 86)), none⟩, none⟩, ⟨⟨(some 89), (.ld false 1 (.tmp 88)), none⟩, (some (.int .i64))⟩, ⟨⟨(some 9), (.mv (.tmp 89)), none⟩, none⟩]) (.seq (.seq (.ops false [⟨⟨(some 90), (.mv (.tmp 9)), none⟩, none⟩, ⟨⟨(some 91), (.fldA 3 (.tmp 1)), none⟩, none⟩, ⟨⟨(some 92), (.ld false 1 (.tmp 91)), none⟩, (some (.isl .i64))⟩, ⟨⟨(some 93), (.mv (.tmp 5)), none⟩, none⟩, ⟨⟨(some 94), (.ixA 1 (.tmp 92) (.tmp 93)), none⟩, none⟩, ⟨⟨(some 95), (.ld false 1 (.tmp 94)), none⟩, (some (.int .i64))⟩, ⟨⟨(some 96), (.bin .neq (.tmp 90) (.tmp 95)), none⟩, none⟩]) (.cond (.tmp 96) (.seq (.ops false [⟨⟨(some 2), (.mv (.c (.bool false))), none⟩, none⟩]) .ret) .skip)) (.ops false [⟨⟨(some 97), (.mv (.tmp 5)), none⟩, none⟩, ⟨⟨(some 98), (.bin .add (.tmp 97) (.c (.int .i64 (1)))), none⟩, none⟩, ⟨⟨(some 5), (.mv (.tmp 98)), none⟩, none⟩])))) (.ops false [⟨⟨(some 99), (.bin .add (.tmp 86) (.c (.int .i64 (1)))), none⟩, none⟩, ⟨⟨(some 86), (.mv (.tmp 99)), none⟩, none⟩]))))
def xb_coupletlaw14_CheckParts_0 : XR := (.seq (.ops false [⟨⟨(some 73), (.bin .lss (.tmp 72) (.tmp 71)), none⟩, none⟩]) (.seq (.cond (.tmp 73) .skip (.exit 0)) (.seq (.block 1 (.seq (.ops false [⟨⟨(some 74), (.mv (.tmp 72)), none⟩, none⟩, ⟨⟨(some 75), (.ixA 1 (.tmp 70) (.tmp 72)), none⟩, none⟩, ⟨⟨(some 76), (.ld false 1 (.tmp 75)), none⟩, (some (.isl .i64))⟩, ⟨⟨(some 6), (.mv (.tmp 74)), none⟩, none⟩, ⟨⟨(some 7), (.mv (.tmp 76)), none⟩, none⟩]) (.seq (.seq (.ops false [⟨⟨(some 77), (.mv (.tmp 7)), none⟩, none⟩, ⟨⟨(some 78), (.len (.tmp 77)), none⟩, none⟩, ⟨⟨(some 79), (.mv (.tmp 4)), none⟩, none⟩, ⟨⟨(some 80), (.mv (.tmp 6)), none⟩, none⟩, ⟨⟨(some 81), (.ixA 1 (.tmp 79) (.tmp 80)), none⟩, none⟩, ⟨⟨(some 82), (.ld false 1 (.tmp 81)), none⟩, (some (.int .i64))⟩, ⟨⟨(some 83), (.bin .neq (.tmp 78) (.tmp 82)), none⟩, none⟩]) (.cond (.tmp 83) (.seq (.ops false [⟨⟨(some 2), (.mv (.c (.bool false))), none⟩, none⟩]) .ret) .skip)) (.seq (.ops false [⟨⟨(some 84), (.mv (.tmp 7)), none⟩, none⟩, ⟨⟨(some 85), (.len (.tmp 84)), none⟩, none⟩, ⟨⟨(some 86), (.mv (.c (.int .i64 (0)))), none⟩, none⟩]) (.block 2 (.loop 1 [1, 4, 5, 70, 71, 72, 84, 85, 86] xb_coupletlaw14_CheckParts_1)))))) (.ops false [⟨⟨(some 100), (.bin .add (.tmp 72) (.c (.int .i64 (1)))), none⟩, none⟩, ⟨⟨(some 72), (.mv (.tmp 100)), none⟩, none⟩]))))
def xr_coupletlaw14_CheckParts : XR := (.seq (.ops false [⟨⟨(some 1), (.box 24 (.tmp 0)), none⟩, none⟩, ⟨⟨(some 2), (.mv (.c (.bool false))), none⟩, none⟩]) (.seq (.seq (.ops false [⟨⟨(some 10), (.fldA 3 (.tmp 1)), none⟩, none⟩, ⟨⟨(some 11), (.ld false 1 (.tmp 10)), none⟩, (some (.isl .i64))⟩, ⟨⟨(some 12), (.len (.tmp 11)), none⟩, none⟩, ⟨⟨(some 13), (.bin .gtr (.tmp 12) (.c (.int .i64 (40)))), none⟩, none⟩]) (.cond (.tmp 13) (.seq (.ops false [⟨⟨(some 14), (.call (.func 9) []), none⟩, none⟩, ⟨⟨(some 2), (.mv (.tmp 14)), none⟩, none⟩]) .ret) .skip)) (.seq (.ops false [⟨⟨(some 15), (.ld true 4 (.tmp 1)), none⟩, (some (.agg [(.int .i64), (.int .i64), (.int .i64), (.isl .i64)]))⟩, ⟨⟨(some 16), (.call (.func 13) [(.tmp 15)]), none⟩, none⟩, ⟨⟨(some 3), (.mv (.tmp 16)), none⟩, none⟩]) (.seq (.seq (.ops false [⟨⟨(some 17), (.fldA 2 (.tmp 1)), none⟩, none⟩, ⟨⟨(some 18), (.ld false 1 (.tmp 17)), none⟩, (some (.int .i64))⟩, ⟨⟨(some 19), (.bin .lss (.tmp 18) (.c (.int .i64 (1)))), none⟩, none⟩, ⟨⟨(some 20), (.mv (.tmp 19)), none⟩, none⟩, ⟨⟨(some 21), (.fldA 2 (.tmp 1)), (some (20, false))⟩, none⟩, ⟨⟨(some 22), (.ld false 1 (.tmp 21)), (some (20, false))⟩, (some (.int .i64))⟩, ⟨⟨(some 23), (.bin .gtr (.tmp 22) (.c (.int .i64 (4)))), (some (20, false))⟩, none⟩, ⟨⟨(some 24), (.pick (.tmp 20) (.c (.bool true)) (.tmp 23)), none⟩, none⟩, ⟨⟨(some 25), (.mv (.tmp 24)), none⟩, none⟩, ⟨⟨(some 26), (.ld true 4 (.tmp 1)), (some (25, false))⟩, (some (.agg [(.int .i64), (.int .i64), (.int .i64), (.isl .i64)]))⟩, ⟨⟨(some 27), (.call (.func 12) [(.tmp 26)]), (some (25, false))⟩, none⟩, ⟨⟨(some 28), (.call (.func 14) [(.tmp 27)]), (some (25, false))⟩, none⟩, ⟨⟨(some 29), (.un .not (.tmp 28)), (some (25, false))⟩, none⟩, ⟨⟨(some 30), (.pick (.tmp 25) (.c (.bool true)) (.tmp 29)), none⟩, none⟩]) (.cond (.tmp 30) (.seq (.ops false [⟨⟨(some 31), (.mv (.tmp 3)), none⟩, none⟩, ⟨⟨(some 32), (.len (.tmp 31)), none⟩, none⟩, ⟨⟨(some 33), (.bin .eql (.tmp 32) (.c (.int .i64 (0)))), none⟩, none⟩, ⟨⟨(some 34), (.mv (.tmp 33)), none⟩, none⟩, ⟨⟨(some 35), (.call (.func 9) []), (some (34, true))⟩, none⟩, ⟨⟨(some 36), (.pick (.tmp 34) (.tmp 35) (.c (.bool false))), none⟩, none⟩, ⟨⟨(some 2), (.mv (.tmp 36)), none⟩, none⟩]) .ret) .skip)) (.seq (.ops false [⟨⟨(some 37), (.fldA 2 (.tmp 1)), none⟩, none⟩, ⟨⟨(some 38), (.ld false 1 (.tmp 37)), none⟩, (some (.int .i64))⟩, ⟨⟨(some 39), (.fldA 2 (.tmp 1)), none⟩, none⟩, ⟨⟨(some 40), (.ld false 1 (.tmp 39)), none⟩, (some (.int .i64))⟩, ⟨⟨(some 41), (.fldA 2 (.tmp 1)), none⟩, none⟩, ⟨⟨(some 42), (.ld false 1 (.tmp 41)), none⟩, (some (.int .i64))⟩, ⟨⟨(some 43), (.bin .mul (.tmp 40) (.tmp 42)), none⟩, none⟩, ⟨⟨(some 44), (.bsl 3 (some .i64) 1 [(.tmp 38), (.tmp 43)]), none⟩, none⟩, ⟨⟨(some 45), (.fldA 2 (.tmp 1)), none⟩, none⟩, ⟨⟨(some 46), (.ld false 1 (.tmp 45)), none⟩, (some (.int .i64))⟩, ⟨⟨(some 47), (.fldA 2 (.tmp 1)), none⟩, none⟩, ⟨⟨(some 48), (.ld false 1 (.tmp 47)), none⟩, (some (.int .i64))⟩, ⟨⟨(some 49), (.bin .mul (.tmp 46) (.tmp 48)), none⟩, none⟩, ⟨⟨(some 50), (.fldA 2 (.tmp 1)), none⟩, none⟩, ⟨⟨(some 51), (.ld false 1 (.tmp 50)), none⟩, (some (.int .i64))⟩, ⟨⟨(some 52), (.fldA 2 (.tmp 1)), none⟩, none⟩, ⟨⟨(some 53), (.ld false 1 (.tmp 52)), none⟩, (some (.int .i64))⟩, ⟨⟨(some 54), (.bin .mul (.tmp 51) (.tmp 53)), none⟩, none⟩, ⟨⟨(some 55), (.bsl 3 (some .i64) 1 [(.tmp 49), (.tmp 54)]), none⟩, none⟩, ⟨⟨(some 56), (.fldA 2 (.tmp 1)), none⟩, none⟩, ⟨⟨(some 57), (.ld false 1 (.tmp 56)), none⟩, (some (.int .i64))⟩, ⟨⟨(some 58), (.bsl 3 (some .i64) 1 [(.tmp 57), (.c (.int .i64 (1))), (.c (.int .i64 (1)))]), none⟩, none⟩, ⟨⟨(some 59), (.bsl 22 none 1 [(.tmp 44), (.tmp 55), (.tmp 58)]), none⟩, none⟩, ⟨⟨(some 60), (.fldA 0 (.tmp 1)), none⟩, none⟩, ⟨⟨(some 61), (.ld false 1 (.tmp 60)), none⟩, (some (.int .i64))⟩, ⟨⟨(some 62), (.bin .sub (.tmp 61) (.c (.int .i64 (1)))), none⟩, none⟩, ⟨⟨(some 63), (.ixA 1 (.tmp 59) (.tmp 62)), none⟩, none⟩, ⟨⟨(some 64), (.ld false 1 (.tmp 63)), none⟩, (some (.isl .i64))⟩, ⟨⟨(some 4), (.mv (.tmp 64)), none⟩, none⟩]) (.seq (.seq (.ops false [⟨⟨(some 65), (.mv (.tmp 3)), none⟩, none⟩, ⟨⟨(some 66), (.len (.tmp 65)), none⟩, none⟩, ⟨⟨(some 67), (.mv (.tmp 4)), none⟩, none⟩, ⟨⟨(some 68), (.len (.tmp 67)), none⟩, none⟩, ⟨⟨(some 69), (.bin .neq (.tmp 66) (.tmp 68)), none⟩, none⟩]) (.cond (.tmp 69) (.seq (.ops false [⟨⟨(some 2), (.mv (.c (.bool false))), none⟩, none⟩]) .ret) .skip)) (.seq (.ops false [⟨⟨(some 5), (.mv (.c (.int .i64 (0)))), none⟩, none⟩]) (.seq (.seq (.ops false [⟨⟨(some 70), (.mv (.tmp 3)), none⟩, none⟩, ⟨⟨(some 71), (.len (.tmp 70)), none⟩, none⟩, ⟨⟨(some 72), (.mv (.c (.int .i64 (0)))), none⟩, none⟩]) (.block 0 (.loop 0 [1, 4, 5, 70, 71, 72] xb_coupletlaw14_CheckParts_0))) (.seq (.ops false [⟨⟨(some 101), (.mv (.tmp 5)), none⟩, none⟩, ⟨⟨(some 102), (.fldA 3 (.tmp 1)), none⟩, none⟩, ⟨⟨(some 103), (.ld false 1 (.tmp 102)), none⟩, (some (.isl .i64))⟩, ⟨⟨(some 104), (.len (.tmp 103)), none⟩, none⟩, ⟨⟨(some 105), (.bin .eql (.tmp 101) (.tmp 104)), none⟩, none⟩, ⟨⟨(some 106), (.mv (.tmp 105)), none⟩, none⟩, ⟨⟨(some 107), (.call (.func 9) []), (some (106, true))⟩, none⟩, ⟨⟨(some 108), (.pick (.tmp 106) (.tmp 107) (.c (.bool false))), none⟩, none⟩, ⟨⟨(some 2), (.mv (.tmp 108)), none⟩, none⟩]) .ret)))))))))
def rs_coupletlaw14_CheckParts : List ResultVar := [(.tmp 2)]
theorem ir_coupletlaw14_CheckParts : compCode Try.prog (Try.f4.body.getD .skip) [[1, 4, 5, 70, 71, 72], [1, 4, 5, 70, 71, 72, 84, 85, 86]] = some (xr_coupletlaw14_CheckParts.erase, []) := by kernel_rfl
/-! coupletlaw14_CheckParts -/
def gm_coupletlaw14_CheckParts : Gam := (Gam.fn 9 as_coupletlaw14_awake ga_coupletlaw14_awake em_coupletlaw14_awake (Gam.fn 13 as_check_Parts ga_check_Parts em_check_Parts (Gam.fn 12 as_coupletlaw12_Given ga_coupletlaw12_Given em_coupletlaw12_Given (Gam.fn 14 as_coupletref12_Right ga_coupletref12_Right em_coupletref12_Right Gam.bot))))
theorem gk_coupletlaw14_CheckParts : GamOk Try.prog GG gm_coupletlaw14_CheckParts := (GamOk.fn at_coupletlaw14_awake (GamOk.fn at_check_Parts (GamOk.fn at_coupletlaw12_Given (GamOk.fn at_coupletref12_Right GamOk.bot))))
def st_coupletlaw14_CheckParts_1 (b28 : Bool) (b29 : Bool) (l30 : List Int) (n31 : Int) (b32 : Bool) (b33 : Bool) (es34 : List PV) (n35 : Int) (n36 : Int) (b37 : Bool) (b38 : Bool) (l39 : List Int) (n40 : Int) (n41 : Int) (n42 : Int) (n43 : Int) (n44 : Int) (b45 : Bool) (b46 : Bool) (l47 : List Int) : Option (((Bool × Bool × List Int × Int × Bool × Bool × List PV × Int × Int × Bool × Bool × List Int × Int × Int × Int × Int × Int × Bool × Bool × List Int)) ⊕ (((Bool × Bool × List Int × Int × Bool × Bool × List PV × Int × Int × Int × Int × Int × Bool × Bool × List Int)) ⊕ (Bool))) :=
  bif (decide (n41 < n40)) then
   bif (decide (0 ≤ n41)) then
    bif (decide (n41 < (((List.length l39) : Nat) : Int))) then
     bif (decide ((Int.toNat n41) < (List.length l39))) then
      bif (decide (0 ≤ n31)) then
       bif (decide (n31 < (((List.length l47) : Nat) : Int))) then
        bif (decide ((Int.toNat n31) < (List.length l47))) then
         bif ((List.getD l39 (Int.toNat n41) 0) != (List.getD l47 (Int.toNat n31) 0)) then
          some (Sum.inr (Sum.inr false))
         else
          some (Sum.inl (b28, b29, l30, (IntKind.wrap .i64 (n31 + 1)), b32, b33, es34, n35, n36, b37, b38, l39, n40, (IntKind.wrap .i64 (n41 + 1)), n42, n43, n44, b45, b46, l47))
        else none
       else none
      else none
     else none
    else none
   else none
  else
   some (Sum.inr (Sum.inl (b28, b29, l30, n31, b32, b33, es34, n35, n36, n42, n43, n44, b45, b46, l47)))
def lp_coupletlaw14_CheckParts_1 (b28 : Bool) (b29 : Bool) (l30 : List Int) (n31 : Int) (b32 : Bool) (b33 : Bool) (es34 : List PV) (n35 : Int) (n36 : Int) (b37 : Bool) (b38 : Bool) (l39 : List Int) (n40 : Int) (n41 : Int) (n42 : Int) (n43 : Int) (n44 : Int) (b45 : Bool) (b46 : Bool) (l47 : List Int) : Option (((Bool × Bool × List Int × Int × Bool × Bool × List PV × Int × Int × Int × Int × Int × Bool × Bool × List Int)) ⊕ (Bool)) := loopN (X := (Bool × Bool × List Int × Int × Bool × Bool × List PV × Int × Int × Bool × Bool × List Int × Int × Int × Int × Int × Int × Bool × Bool × List Int)) (fun x => st_coupletlaw14_CheckParts_1 x.1 x.2.1 x.2.2.1 x.2.2.2.1 x.2.2.2.2.1 x.2.2.2.2.2.1 x.2.2.2.2.2.2.1 x.2.2.2.2.2.2.2.1 x.2.2.2.2.2.2.2.2.1 x.2.2.2.2.2.2.2.2.2.1 x.2.2.2.2.2.2.2.2.2.2.1 x.2.2.2.2.2.2.2.2.2.2.2.1 x.2.2.2.2.2.2.2.2.2.2.2.2.1 x.2.2.2.2.2.2.2.2.2.2.2.2.2.1 x.2.2.2.2.2.2.2.2.2.2.2.2.2.2.1 x.2.2.2.2.2.2.2.2.2.2.2.2.2.2.2.1 x.2.2.2.2.2.2.2.2.2.2.2.2.2.2.2.2.1 x.2.2.2.2.2.2.2.2.2.2.2.2.2.2.2.2.2.1 x.2.2.2.2.2.2.2.2.2.2.2.2.2.2.2.2.2.2.1 x.2.2.2.2.2.2.2.2.2.2.2.2.2.2.2.2.2.2.2) (b28, b29, l30, n31, b32, b33, es34, n35, n36, b37, b38, l39, n40, n41, n42, n43, n44, b45, b46, l47)
def sh_coupletlaw14_CheckParts_1 : StSh := ⟨109, [(1, (.ptr 0 0)), (4, (.p (.isl .i64))), (5, (.p (.int .i64))), (70, (.p (.sl 1))), (71, (.p (.int .i64))), (72, (.p (.int .i64))), (84, (.p (.isl .i64))), (85, (.p (.int .i64))), (86, (.p (.int .i64)))], [(.box 24 [(.p (.int .i64)), (.p (.int .i64)), (.p (.int .i64)), (.p (.isl .i64))])]⟩
def sx_coupletlaw14_CheckParts_1 (x : (Bool × Bool × List Int × Int × Bool × Bool × List PV × Int × Int × Bool × Bool × List Int × Int × Int × Int × Int × Int × Bool × Bool × List Int)) : St := ⟨slots 109 0 [(1, (.ptr 0 0)), (4, (.p (.isl x.1 x.2.1 .i64 x.2.2.1))), (5, (.p (.int .i64 x.2.2.2.1))), (70, (.p (.sl x.2.2.2.2.1 x.2.2.2.2.2.1 1 x.2.2.2.2.2.2.1))), (71, (.p (.int .i64 x.2.2.2.2.2.2.2.1))), (72, (.p (.int .i64 x.2.2.2.2.2.2.2.2.1))), (84, (.p (.isl x.2.2.2.2.2.2.2.2.2.1 x.2.2.2.2.2.2.2.2.2.2.1 .i64 x.2.2.2.2.2.2.2.2.2.2.2.1))), (85, (.p (.int .i64 x.2.2.2.2.2.2.2.2.2.2.2.2.1))), (86, (.p (.int .i64 x.2.2.2.2.2.2.2.2.2.2.2.2.2.1)))], [(.box 24 [(.p (.int .i64 x.2.2.2.2.2.2.2.2.2.2.2.2.2.2.1)), (.p (.int .i64 x.2.2.2.2.2.2.2.2.2.2.2.2.2.2.2.1)), (.p (.int .i64 x.2.2.2.2.2.2.2.2.2.2.2.2.2.2.2.2.1)), (.p (.isl x.2.2.2.2.2.2.2.2.2.2.2.2.2.2.2.2.2.1 x.2.2.2.2.2.2.2.2.2.2.2.2.2.2.2.2.2.2.1 .i64 x.2.2.2.2.2.2.2.2.2.2.2.2.2.2.2.2.2.2.2))])]⟩
def sa_coupletlaw14_CheckParts_1 (S : St) : (Bool × Bool × List Int × Int × Bool × Bool × List PV × Int × Int × Bool × Bool × List Int × Int × Int × Int × Int × Int × Bool × Bool × List Int) := (((tls 4 S.t).headD .any).pv.nl, ((tls 4 S.t).headD .any).pv.ex, ((tls 4 S.t).headD .any).pv.ints, ((tls 5 S.t).headD .any).pv.num, ((tls 70 S.t).headD .any).pv.nl, ((tls 70 S.t).headD .any).pv.ex, ((tls 70 S.t).headD .any).pv.elts, ((tls 71 S.t).headD .any).pv.num, ((tls 72 S.t).headD .any).pv.num, ((tls 84 S.t).headD .any).pv.nl, ((tls 84 S.t).headD .any).pv.ex, ((tls 84 S.t).headD .any).pv.ints, ((tls 85 S.t).headD .any).pv.num, ((tls 86 S.t).headD .any).pv.num, (((tls 0 S.own).headD .gone).subs.headD .any).pv.num, (((tls 0 S.own).headD .gone).subs.tail.headD .any).pv.num, (((tls 0 S.own).headD .gone).subs.tail.tail.headD .any).pv.num, (((tls 0 S.own).headD .gone).subs.tail.tail.tail.headD .any).pv.nl, (((tls 0 S.own).headD .gone).subs.tail.tail.tail.headD .any).pv.ex, (((tls 0 S.own).headD .gone).subs.tail.tail.tail.headD .any).pv.ints)
def tz_coupletlaw14_CheckParts_1_1 : StSh := ⟨109, [(2, (.p .bool))], []⟩
def tx_coupletlaw14_CheckParts_1_1 (x : Bool) : St := ⟨slots 109 0 [(2, (.p (.bool x)))], []⟩
def ta_coupletlaw14_CheckParts_1_1 (S : St) : Bool := ((tls 2 S.t).headD .any).pv.tru
def tz_coupletlaw14_CheckParts_1_0 : StSh := ⟨109, [(1, (.ptr 0 0)), (4, (.p (.isl .i64))), (5, (.p (.int .i64))), (70, (.p (.sl 1))), (71, (.p (.int .i64))), (72, (.p (.int .i64)))], [(.box 24 [(.p (.int .i64)), (.p (.int .i64)), (.p (.int .i64)), (.p (.isl .i64))])]⟩
def tx_coupletlaw14_CheckParts_1_0 (x : (Bool × Bool × List Int × Int × Bool × Bool × List PV × Int × Int × Int × Int × Int × Bool × Bool × List Int)) : St := ⟨slots 109 0 [(1, (.ptr 0 0)), (4, (.p (.isl x.1 x.2.1 .i64 x.2.2.1))), (5, (.p (.int .i64 x.2.2.2.1))), (70, (.p (.sl x.2.2.2.2.1 x.2.2.2.2.2.1 1 x.2.2.2.2.2.2.1))), (71, (.p (.int .i64 x.2.2.2.2.2.2.2.1))), (72, (.p (.int .i64 x.2.2.2.2.2.2.2.2.1)))], [(.box 24 [(.p (.int .i64 x.2.2.2.2.2.2.2.2.2.1)), (.p (.int .i64 x.2.2.2.2.2.2.2.2.2.2.1)), (.p (.int .i64 x.2.2.2.2.2.2.2.2.2.2.2.1)), (.p (.isl x.2.2.2.2.2.2.2.2.2.2.2.2.1 x.2.2.2.2.2.2.2.2.2.2.2.2.2.1 .i64 x.2.2.2.2.2.2.2.2.2.2.2.2.2.2))])]⟩
def ta_coupletlaw14_CheckParts_1_0 (S : St) : (Bool × Bool × List Int × Int × Bool × Bool × List PV × Int × Int × Int × Int × Int × Bool × Bool × List Int) := (((tls 4 S.t).headD .any).pv.nl, ((tls 4 S.t).headD .any).pv.ex, ((tls 4 S.t).headD .any).pv.ints, ((tls 5 S.t).headD .any).pv.num, ((tls 70 S.t).headD .any).pv.nl, ((tls 70 S.t).headD .any).pv.ex, ((tls 70 S.t).headD .any).pv.elts, ((tls 71 S.t).headD .any).pv.num, ((tls 72 S.t).headD .any).pv.num, (((tls 0 S.own).headD .gone).subs.headD .any).pv.num, (((tls 0 S.own).headD .gone).subs.tail.headD .any).pv.num, (((tls 0 S.own).headD .gone).subs.tail.tail.headD .any).pv.num, (((tls 0 S.own).headD .gone).subs.tail.tail.tail.headD .any).pv.nl, (((tls 0 S.own).headD .gone).subs.tail.tail.tail.headD .any).pv.ex, (((tls 0 S.own).headD .gone).subs.tail.tail.tail.headD .any).pv.ints)
def kb_coupletlaw14_CheckParts_1 : Exit → St → Tree (((Bool × Bool × List Int × Int × Bool × Bool × List PV × Int × Int × Bool × Bool × List Int × Int × Int × Int × Int × Int × Bool × Bool × List Int)) ⊕ (((Bool × Bool × List Int × Int × Bool × Bool × List PV × Int × Int × Int × Int × Int × Bool × Bool × List Int)) ⊕ (Bool))) := (exOne (.exit 2) [1, 4, 5, 70, 71, 72] tz_coupletlaw14_CheckParts_1_0 ta_coupletlaw14_CheckParts_1_0 (fun y => Sum.inr ((Sum.inl y))) (exOne .ret [2] tz_coupletlaw14_CheckParts_1_1 ta_coupletlaw14_CheckParts_1_1 (fun y => Sum.inr ((Sum.inr y))) exNil))
def ky_coupletlaw14_CheckParts_1 : Dec (((Bool × Bool × List Int × Int × Bool × Bool × List PV × Int × Int × Int × Int × Int × Bool × Bool × List Int)) ⊕ (Bool)) := fun _ y ke => .sum y (fun a => ke ((.exit 2) : EK).ex (tx_coupletlaw14_CheckParts_1_0 a)) (fun y' => ke (.ret : EK).ex (tx_coupletlaw14_CheckParts_1_1 y'))
theorem kk_coupletlaw14_CheckParts_1 : ExOk Sum.inr kb_coupletlaw14_CheckParts_1 ky_coupletlaw14_CheckParts_1 := (ExOk.one (acc := ta_coupletlaw14_CheckParts_1_0) (bY := tx_coupletlaw14_CheckParts_1_0) (inj1 := fun y => (Sum.inl y)) (fun S => by kernel_rfl) (fun y _ ke => .inr (by kernel_rfl)) (ExOk.one (acc := ta_coupletlaw14_CheckParts_1_1) (bY := tx_coupletlaw14_CheckParts_1_1) (inj1 := fun y => (Sum.inr y)) (fun S => by kernel_rfl) (fun y _ ke => .inr (by kernel_rfl)) ExOk.nil))
def st_coupletlaw14_CheckParts_0 (b13 : Bool) (b14 : Bool) (l15 : List Int) (n16 : Int) (b17 : Bool) (b18 : Bool) (es19 : List PV) (n20 : Int) (n21 : Int) (n22 : Int) (n23 : Int) (n24 : Int) (b25 : Bool) (b26 : Bool) (l27 : List Int) : Option (((Bool × Bool × List Int × Int × Bool × Bool × List PV × Int × Int × Int × Int × Int × Bool × Bool × List Int)) ⊕ (((Int × Int × Int × Int × Bool × Bool × List Int)) ⊕ (Bool))) :=
  bif (decide (n21 < n20)) then
   bif (decide (0 ≤ n21)) then
    bif (decide (n21 < (((List.length es19) : Nat) : Int))) then
     bif (decide ((Int.toNat n21) < (List.length es19))) then
      bif (PV.scal (List.getD es19 (Int.toNat n21) .nilSl)) then
       bif (Shp.ok (.isl .i64) (List.getD es19 (Int.toNat n21) .nilSl)) then
        bif (decide (0 ≤ n21)) then
         bif (decide (n21 < (((List.length l15) : Nat) : Int))) then
          bif (decide ((Int.toNat n21) < (List.length l15))) then
           bif ((((List.length (PV.ints (List.getD es19 (Int.toNat n21) .nilSl))) : Nat) : Int) != (List.getD l15 (Int.toNat n21) 0)) then
            some (Sum.inr (Sum.inr false))
           else
            (lp_coupletlaw14_CheckParts_1 b13 b14 l15 n16 b17 b18 es19 n20 n21 (PV.nl (List.getD es19 (Int.toNat n21) .nilSl)) (PV.ex (List.getD es19 (Int.toNat n21) .nilSl)) (PV.ints (List.getD es19 (Int.toNat n21) .nilSl)) (((List.length (PV.ints (List.getD es19 (Int.toNat n21) .nilSl))) : Nat) : Int) 0 n22 n23 n24 b25 b26 l27).bind fun y48 =>
            Sum.elim (fun z49 =>
             some (Sum.inl (z49.1, z49.2.1, z49.2.2.1, z49.2.2.2.1, z49.2.2.2.2.1, z49.2.2.2.2.2.1, z49.2.2.2.2.2.2.1, z49.2.2.2.2.2.2.2.1, (IntKind.wrap .i64 (z49.2.2.2.2.2.2.2.2.1 + 1)), z49.2.2.2.2.2.2.2.2.2.1, z49.2.2.2.2.2.2.2.2.2.2.1, z49.2.2.2.2.2.2.2.2.2.2.2.1, z49.2.2.2.2.2.2.2.2.2.2.2.2.1, z49.2.2.2.2.2.2.2.2.2.2.2.2.2.1, z49.2.2.2.2.2.2.2.2.2.2.2.2.2.2))) (fun z50 =>
             some (Sum.inr (Sum.inr z50))) y48
          else none
         else none
        else none
       else none
      else none
     else none
    else none
   else none
  else
   some (Sum.inr (Sum.inl (n16, n22, n23, n24, b25, b26, l27)))
def lp_coupletlaw14_CheckParts_0 (b13 : Bool) (b14 : Bool) (l15 : List Int) (n16 : Int) (b17 : Bool) (b18 : Bool) (es19 : List PV) (n20 : Int) (n21 : Int) (n22 : Int) (n23 : Int) (n24 : Int) (b25 : Bool) (b26 : Bool) (l27 : List Int) : Option (((Int × Int × Int × Int × Bool × Bool × List Int)) ⊕ (Bool)) := loopN (X := (Bool × Bool × List Int × Int × Bool × Bool × List PV × Int × Int × Int × Int × Int × Bool × Bool × List Int)) (fun x => st_coupletlaw14_CheckParts_0 x.1 x.2.1 x.2.2.1 x.2.2.2.1 x.2.2.2.2.1 x.2.2.2.2.2.1 x.2.2.2.2.2.2.1 x.2.2.2.2.2.2.2.1 x.2.2.2.2.2.2.2.2.1 x.2.2.2.2.2.2.2.2.2.1 x.2.2.2.2.2.2.2.2.2.2.1 x.2.2.2.2.2.2.2.2.2.2.2.1 x.2.2.2.2.2.2.2.2.2.2.2.2.1 x.2.2.2.2.2.2.2.2.2.2.2.2.2.1 x.2.2.2.2.2.2.2.2.2.2.2.2.2.2) (b13, b14, l15, n16, b17, b18, es19, n20, n21, n22, n23, n24, b25, b26, l27)
def sh_coupletlaw14_CheckParts_0 : StSh := ⟨109, [(1, (.ptr 0 0)), (4, (.p (.isl .i64))), (5, (.p (.int .i64))), (70, (.p (.sl 1))), (71, (.p (.int .i64))), (72, (.p (.int .i64)))], [(.box 24 [(.p (.int .i64)), (.p (.int .i64)), (.p (.int .i64)), (.p (.isl .i64))])]⟩
def sx_coupletlaw14_CheckParts_0 (x : (Bool × Bool × List Int × Int × Bool × Bool × List PV × Int × Int × Int × Int × Int × Bool × Bool × List Int)) : St := ⟨slots 109 0 [(1, (.ptr 0 0)), (4, (.p (.isl x.1 x.2.1 .i64 x.2.2.1))), (5, (.p (.int .i64 x.2.2.2.1))), (70, (.p (.sl x.2.2.2.2.1 x.2.2.2.2.2.1 1 x.2.2.2.2.2.2.1))), (71, (.p (.int .i64 x.2.2.2.2.2.2.2.1))), (72, (.p (.int .i64 x.2.2.2.2.2.2.2.2.1)))], [(.box 24 [(.p (.int .i64 x.2.2.2.2.2.2.2.2.2.1)), (.p (.int .i64 x.2.2.2.2.2.2.2.2.2.2.1)), (.p (.int .i64 x.2.2.2.2.2.2.2.2.2.2.2.1)), (.p (.isl x.2.2.2.2.2.2.2.2.2.2.2.2.1 x.2.2.2.2.2.2.2.2.2.2.2.2.2.1 .i64 x.2.2.2.2.2.2.2.2.2.2.2.2.2.2))])]⟩
def sa_coupletlaw14_CheckParts_0 (S : St) : (Bool × Bool × List Int × Int × Bool × Bool × List PV × Int × Int × Int × Int × Int × Bool × Bool × List Int) := (((tls 4 S.t).headD .any).pv.nl, ((tls 4 S.t).headD .any).pv.ex, ((tls 4 S.t).headD .any).pv.ints, ((tls 5 S.t).headD .any).pv.num, ((tls 70 S.t).headD .any).pv.nl, ((tls 70 S.t).headD .any).pv.ex, ((tls 70 S.t).headD .any).pv.elts, ((tls 71 S.t).headD .any).pv.num, ((tls 72 S.t).headD .any).pv.num, (((tls 0 S.own).headD .gone).subs.headD .any).pv.num, (((tls 0 S.own).headD .gone).subs.tail.headD .any).pv.num, (((tls 0 S.own).headD .gone).subs.tail.tail.headD .any).pv.num, (((tls 0 S.own).headD .gone).subs.tail.tail.tail.headD .any).pv.nl, (((tls 0 S.own).headD .gone).subs.tail.tail.tail.headD .any).pv.ex, (((tls 0 S.own).headD .gone).subs.tail.tail.tail.headD .any).pv.ints)
def tz_coupletlaw14_CheckParts_0_1 : StSh := ⟨109, [(2, (.p .bool))], []⟩
def tx_coupletlaw14_CheckParts_0_1 (x : Bool) : St := ⟨slots 109 0 [(2, (.p (.bool x)))], []⟩
def ta_coupletlaw14_CheckParts_0_1 (S : St) : Bool := ((tls 2 S.t).headD .any).pv.tru
def tz_coupletlaw14_CheckParts_0_0 : StSh := ⟨109, [(1, (.ptr 0 0)), (5, (.p (.int .i64)))], [(.box 24 [(.p (.int .i64)), (.p (.int .i64)), (.p (.int .i64)), (.p (.isl .i64))])]⟩
def tx_coupletlaw14_CheckParts_0_0 (x : (Int × Int × Int × Int × Bool × Bool × List Int)) : St := ⟨slots 109 0 [(1, (.ptr 0 0)), (5, (.p (.int .i64 x.1)))], [(.box 24 [(.p (.int .i64 x.2.1)), (.p (.int .i64 x.2.2.1)), (.p (.int .i64 x.2.2.2.1)), (.p (.isl x.2.2.2.2.1 x.2.2.2.2.2.1 .i64 x.2.2.2.2.2.2))])]⟩
def ta_coupletlaw14_CheckParts_0_0 (S : St) : (Int × Int × Int × Int × Bool × Bool × List Int) := (((tls 5 S.t).headD .any).pv.num, (((tls 0 S.own).headD .gone).subs.headD .any).pv.num, (((tls 0 S.own).headD .gone).subs.tail.headD .any).pv.num, (((tls 0 S.own).headD .gone).subs.tail.tail.headD .any).pv.num, (((tls 0 S.own).headD .gone).subs.tail.tail.tail.headD .any).pv.nl, (((tls 0 S.own).headD .gone).subs.tail.tail.tail.headD .any).pv.ex, (((tls 0 S.own).headD .gone).subs.tail.tail.tail.headD .any).pv.ints)
def kb_coupletlaw14_CheckParts_0 : Exit → St → Tree (((Bool × Bool × List Int × Int × Bool × Bool × List PV × Int × Int × Int × Int × Int × Bool × Bool × List Int)) ⊕ (((Int × Int × Int × Int × Bool × Bool × List Int)) ⊕ (Bool))) := (exOne (.exit 0) [1, 5] tz_coupletlaw14_CheckParts_0_0 ta_coupletlaw14_CheckParts_0_0 (fun y => Sum.inr ((Sum.inl y))) (exOne .ret [2] tz_coupletlaw14_CheckParts_0_1 ta_coupletlaw14_CheckParts_0_1 (fun y => Sum.inr ((Sum.inr y))) exNil))
def ky_coupletlaw14_CheckParts_0 : Dec (((Int × Int × Int × Int × Bool × Bool × List Int)) ⊕ (Bool)) := fun _ y ke => .sum y (fun a => ke ((.exit 0) : EK).ex (tx_coupletlaw14_CheckParts_0_0 a)) (fun y' => ke (.ret : EK).ex (tx_coupletlaw14_CheckParts_0_1 y'))
theorem kk_coupletlaw14_CheckParts_0 : ExOk Sum.inr kb_coupletlaw14_CheckParts_0 ky_coupletlaw14_CheckParts_0 := (ExOk.one (acc := ta_coupletlaw14_CheckParts_0_0) (bY := tx_coupletlaw14_CheckParts_0_0) (inj1 := fun y => (Sum.inl y)) (fun S => by kernel_rfl) (fun y _ ke => .inr (by kernel_rfl)) (ExOk.one (acc := ta_coupletlaw14_CheckParts_0_1) (bY := tx_coupletlaw14_CheckParts_0_1) (inj1 := fun y => (Sum.inr y)) (fun S => by kernel_rfl) (fun y _ ke => .inr (by kernel_rfl)) ExOk.nil))
def lm_coupletlaw14_CheckParts : Lam := fun _ j S kn ke => match j with
  | 0 => prepT [1, 4, 5, 70, 71, 72] [] S fun S => .chk (sh_coupletlaw14_CheckParts_0.ok S) (.bind (loopN (fun x => st_coupletlaw14_CheckParts_0 x.1 x.2.1 x.2.2.1 x.2.2.2.1 x.2.2.2.2.1 x.2.2.2.2.2.1 x.2.2.2.2.2.2.1 x.2.2.2.2.2.2.2.1 x.2.2.2.2.2.2.2.2.1 x.2.2.2.2.2.2.2.2.2.1 x.2.2.2.2.2.2.2.2.2.2.1 x.2.2.2.2.2.2.2.2.2.2.2.1 x.2.2.2.2.2.2.2.2.2.2.2.2.1 x.2.2.2.2.2.2.2.2.2.2.2.2.2.1 x.2.2.2.2.2.2.2.2.2.2.2.2.2.2) (sa_coupletlaw14_CheckParts_0 S)) fun y => ky_coupletlaw14_CheckParts_0 _ y ke)
  | 1 => prepT [1, 4, 5, 70, 71, 72, 84, 85, 86] [] S fun S => .chk (sh_coupletlaw14_CheckParts_1.ok S) (.bind (loopN (fun x => st_coupletlaw14_CheckParts_1 x.1 x.2.1 x.2.2.1 x.2.2.2.1 x.2.2.2.2.1 x.2.2.2.2.2.1 x.2.2.2.2.2.2.1 x.2.2.2.2.2.2.2.1 x.2.2.2.2.2.2.2.2.1 x.2.2.2.2.2.2.2.2.2.1 x.2.2.2.2.2.2.2.2.2.2.1 x.2.2.2.2.2.2.2.2.2.2.2.1 x.2.2.2.2.2.2.2.2.2.2.2.2.1 x.2.2.2.2.2.2.2.2.2.2.2.2.2.1 x.2.2.2.2.2.2.2.2.2.2.2.2.2.2.1 x.2.2.2.2.2.2.2.2.2.2.2.2.2.2.2.1 x.2.2.2.2.2.2.2.2.2.2.2.2.2.2.2.2.1 x.2.2.2.2.2.2.2.2.2.2.2.2.2.2.2.2.2.1 x.2.2.2.2.2.2.2.2.2.2.2.2.2.2.2.2.2.2.1 x.2.2.2.2.2.2.2.2.2.2.2.2.2.2.2.2.2.2.2) (sa_coupletlaw14_CheckParts_1 S)) fun y => ky_coupletlaw14_CheckParts_1 _ y ke)
  | _ => .fail
theorem sr_coupletlaw14_CheckParts_1 (x : (Bool × Bool × List Int × Int × Bool × Bool × List PV × Int × Int × Bool × Bool × List Int × Int × Int × Int × Int × Int × Bool × Bool × List Int)) : (ev GG gm_coupletlaw14_CheckParts lm_coupletlaw14_CheckParts xb_coupletlaw14_CheckParts_1 (sx_coupletlaw14_CheckParts_1 x) (fun S => forgetT [1, 4, 5, 70, 71, 72, 84, 85, 86] S fun S => prepT [1, 4, 5, 70, 71, 72, 84, 85, 86] [] S fun S => .chk (sh_coupletlaw14_CheckParts_1.ok S) (.leaf (.inl (sa_coupletlaw14_CheckParts_1 S)))) kb_coupletlaw14_CheckParts_1).run = st_coupletlaw14_CheckParts_1 x.1 x.2.1 x.2.2.1 x.2.2.2.1 x.2.2.2.2.1 x.2.2.2.2.2.1 x.2.2.2.2.2.2.1 x.2.2.2.2.2.2.2.1 x.2.2.2.2.2.2.2.2.1 x.2.2.2.2.2.2.2.2.2.1 x.2.2.2.2.2.2.2.2.2.2.1 x.2.2.2.2.2.2.2.2.2.2.2.1 x.2.2.2.2.2.2.2.2.2.2.2.2.1 x.2.2.2.2.2.2.2.2.2.2.2.2.2.1 x.2.2.2.2.2.2.2.2.2.2.2.2.2.2.1 x.2.2.2.2.2.2.2.2.2.2.2.2.2.2.2.1 x.2.2.2.2.2.2.2.2.2.2.2.2.2.2.2.2.1 x.2.2.2.2.2.2.2.2.2.2.2.2.2.2.2.2.2.1 x.2.2.2.2.2.2.2.2.2.2.2.2.2.2.2.2.2.2.1 x.2.2.2.2.2.2.2.2.2.2.2.2.2.2.2.2.2.2.2 := by kernel_rfl
theorem la_coupletlaw14_CheckParts_1 : LamAt Try.prog GG lm_coupletlaw14_CheckParts 1 (.loop [1, 4, 5, 70, 71, 72, 84, 85, 86] xb_coupletlaw14_CheckParts_1.erase) := lam_loop (body := xb_coupletlaw14_CheckParts_1) (Λ' := lm_coupletlaw14_CheckParts) gk_coupletlaw14_CheckParts (⟨trivial, ⟨⟨trivial, trivial⟩, ⟨⟨trivial, ⟨⟨trivial, ⟨⟨trivial, trivial⟩, trivial⟩⟩, trivial⟩⟩, trivial⟩⟩⟩) (fun S => (by kernel_rfl : sh_coupletlaw14_CheckParts_1.build S = sx_coupletlaw14_CheckParts_1 (sa_coupletlaw14_CheckParts_1 S))) kk_coupletlaw14_CheckParts_1 sr_coupletlaw14_CheckParts_1 (fun _ _ _ => rfl)
theorem sr_coupletlaw14_CheckParts_0 (x : (Bool × Bool × List Int × Int × Bool × Bool × List PV × Int × Int × Int × Int × Int × Bool × Bool × List Int)) : (ev GG gm_coupletlaw14_CheckParts lm_coupletlaw14_CheckParts xb_coupletlaw14_CheckParts_0 (sx_coupletlaw14_CheckParts_0 x) (fun S => forgetT [1, 4, 5, 70, 71, 72] S fun S => prepT [1, 4, 5, 70, 71, 72] [] S fun S => .chk (sh_coupletlaw14_CheckParts_0.ok S) (.leaf (.inl (sa_coupletlaw14_CheckParts_0 S)))) kb_coupletlaw14_CheckParts_0).run = st_coupletlaw14_CheckParts_0 x.1 x.2.1 x.2.2.1 x.2.2.2.1 x.2.2.2.2.1 x.2.2.2.2.2.1 x.2.2.2.2.2.2.1 x.2.2.2.2.2.2.2.1 x.2.2.2.2.2.2.2.2.1 x.2.2.2.2.2.2.2.2.2.1 x.2.2.2.2.2.2.2.2.2.2.1 x.2.2.2.2.2.2.2.2.2.2.2.1 x.2.2.2.2.2.2.2.2.2.2.2.2.1 x.2.2.2.2.2.2.2.2.2.2.2.2.2.1 x.2.2.2.2.2.2.2.2.2.2.2.2.2.2 := by kernel_rfl
theorem la_coupletlaw14_CheckParts_0 : LamAt Try.prog GG lm_coupletlaw14_CheckParts 0 (.loop [1, 4, 5, 70, 71, 72] xb_coupletlaw14_CheckParts_0.erase) := lam_loop (body := xb_coupletlaw14_CheckParts_0) (Λ' := lm_coupletlaw14_CheckParts) gk_coupletlaw14_CheckParts (⟨trivial, ⟨⟨trivial, trivial⟩, ⟨⟨trivial, ⟨⟨trivial, ⟨⟨trivial, trivial⟩, trivial⟩⟩, ⟨trivial, la_coupletlaw14_CheckParts_1⟩⟩⟩, trivial⟩⟩⟩) (fun S => (by kernel_rfl : sh_coupletlaw14_CheckParts_0.build S = sx_coupletlaw14_CheckParts_0 (sa_coupletlaw14_CheckParts_0 S))) kk_coupletlaw14_CheckParts_0 sr_coupletlaw14_CheckParts_0 (fun _ _ _ => rfl)
/-- coupletlaw14_CheckParts -/
def go_coupletlaw14_CheckParts (n0 : Int) (n1 : Int) (n2 : Int) (b3 : Bool) (b4 : Bool) (l5 : List Int) : Option Bool :=
  bif (decide ((((List.length l5) : Nat) : Int) > 40)) then
   (go_coupletlaw14_awake).bind fun r6 =>
   some r6
  else
   (go_check_Parts n0 n1 n2 b3 b4 l5).bind fun r7 =>
   bif (decide (n2 < 1)) then
    bif ((((List.length r7.2.2) : Nat) : Int) == 0) then
     (go_coupletlaw14_awake).bind fun r8 =>
     some r8
    else
     some false
   else
    bif (decide (n2 > 4)) then
     bif ((((List.length r7.2.2) : Nat) : Int) == 0) then
      (go_coupletlaw14_awake).bind fun r9 =>
      some r9
     else
      some false
    else
     (go_coupletlaw12_Given n0 n1 n2 b3 b4 l5).bind fun r10 =>
     (go_coupletref12_Right r10.1 r10.2.1 r10.2.2.1 r10.2.2.2.1 r10.2.2.2.2.1 r10.2.2.2.2.2).bind fun r11 =>
     bif (!r11) then
      bif ((((List.length r7.2.2) : Nat) : Int) == 0) then
       (go_coupletlaw14_awake).bind fun r12 =>
       some r12
      else
       some false
     else
      bif (decide (0 ≤ (IntKind.wrap .i64 (n0 - 1)))) then
       bif (decide ((IntKind.wrap .i64 (n0 - 1)) < ((3 : Nat) : Int))) then
        bif (decide ((Int.toNat (IntKind.wrap .i64 (n0 - 1))) < 3)) then
         bif (PV.scal (List.getD [(.isl false true .i64 [n2, (IntKind.wrap .i64 (n2 * n2))]), (.isl false true .i64 [(IntKind.wrap .i64 (n2 * n2)), (IntKind.wrap .i64 (n2 * n2))]), (.isl false true .i64 [n2, 1, 1])] (Int.toNat (IntKind.wrap .i64 (n0 - 1))) .nilSl)) then
          bif (Shp.ok (.isl .i64) (List.getD [(.isl false true .i64 [n2, (IntKind.wrap .i64 (n2 * n2))]), (.isl false true .i64 [(IntKind.wrap .i64 (n2 * n2)), (IntKind.wrap .i64 (n2 * n2))]), (.isl false true .i64 [n2, 1, 1])] (Int.toNat (IntKind.wrap .i64 (n0 - 1))) .nilSl)) then
           bif ((((List.length r7.2.2) : Nat) : Int) != (((List.length (PV.ints (List.getD [(.isl false true .i64 [n2, (IntKind.wrap .i64 (n2 * n2))]), (.isl false true .i64 [(IntKind.wrap .i64 (n2 * n2)), (IntKind.wrap .i64 (n2 * n2))]), (.isl false true .i64 [n2, 1, 1])] (Int.toNat (IntKind.wrap .i64 (n0 - 1))) .nilSl))) : Nat) : Int)) then
            some false
           else
            (lp_coupletlaw14_CheckParts_0 (PV.nl (List.getD [(.isl false true .i64 [n2, (IntKind.wrap .i64 (n2 * n2))]), (.isl false true .i64 [(IntKind.wrap .i64 (n2 * n2)), (IntKind.wrap .i64 (n2 * n2))]), (.isl false true .i64 [n2, 1, 1])] (Int.toNat (IntKind.wrap .i64 (n0 - 1))) .nilSl)) (PV.ex (List.getD [(.isl false true .i64 [n2, (IntKind.wrap .i64 (n2 * n2))]), (.isl false true .i64 [(IntKind.wrap .i64 (n2 * n2)), (IntKind.wrap .i64 (n2 * n2))]), (.isl false true .i64 [n2, 1, 1])] (Int.toNat (IntKind.wrap .i64 (n0 - 1))) .nilSl)) (PV.ints (List.getD [(.isl false true .i64 [n2, (IntKind.wrap .i64 (n2 * n2))]), (.isl false true .i64 [(IntKind.wrap .i64 (n2 * n2)), (IntKind.wrap .i64 (n2 * n2))]), (.isl false true .i64 [n2, 1, 1])] (Int.toNat (IntKind.wrap .i64 (n0 - 1))) .nilSl)) 0 r7.1 r7.2.1 r7.2.2 (((List.length r7.2.2) : Nat) : Int) 0 n0 n1 n2 b3 b4 l5).bind fun y51 =>
            Sum.elim (fun z52 =>
             bif (z52.1 == (((List.length z52.2.2.2.2.2.2) : Nat) : Int)) then
              (go_coupletlaw14_awake).bind fun r53 =>
              some r53
             else
              some false) (fun z54 =>
             some z54) y51
          else none
         else none
        else none
       else none
      else none
def em_coupletlaw14_CheckParts (r : Bool) : PV := (.bool r)
def rh_coupletlaw14_CheckParts : Shp := .bool
def ra_coupletlaw14_CheckParts (v : PV) : Bool := v.tru
def kf_coupletlaw14_CheckParts (v : PV) : Tree Bool := .chk (rh_coupletlaw14_CheckParts.ok v) (.leaf (ra_coupletlaw14_CheckParts v))
theorem rn_coupletlaw14_CheckParts (n0 : Int) (n1 : Int) (n2 : Int) (b3 : Bool) (b4 : Bool) (l5 : List Int) : (ev GG gm_coupletlaw14_CheckParts lm_coupletlaw14_CheckParts xr_coupletlaw14_CheckParts ⟨slots 109 0 [(0, .p (.agg [(.int .i64 n0), (.int .i64 n1), (.int .i64 n2), (.isl b3 b4 .i64 l5)]))], []⟩ (fun S => finT Try.prog rs_coupletlaw14_CheckParts S kf_coupletlaw14_CheckParts) (retT Try.prog rs_coupletlaw14_CheckParts kf_coupletlaw14_CheckParts)).run = go_coupletlaw14_CheckParts n0 n1 n2 b3 b4 l5 := by kernel_rfl
theorem ok_coupletlaw14_CheckParts (n0 : Int) (n1 : Int) (n2 : Int) (b3 : Bool) (b4 : Bool) (l5 : List Int) (r : Bool) (h : go_coupletlaw14_CheckParts n0 n1 n2 b3 b4 l5 = some r) : FunEq Try.prog GG 4 [(.agg [(.int .i64 n0), (.int .i64 n1), (.int .i64 n2), (.isl b3 b4 .i64 l5)])] (em_coupletlaw14_CheckParts r) :=
  fun_of_ev (x := xr_coupletlaw14_CheckParts) (Λ := lm_coupletlaw14_CheckParts) gk_coupletlaw14_CheckParts [[1, 4, 5, 70, 71, 72], [1, 4, 5, 70, 71, 72, 84, 85, 86]] Try.func4 rfl (by kernel_rfl) ir_coupletlaw14_CheckParts (by kernel_rfl) (congrArg Array.toList Try.results4) Try.ntmps4 (⟨trivial, ⟨⟨trivial, ⟨⟨trivial, trivial⟩, trivial⟩⟩, ⟨trivial, ⟨⟨trivial, ⟨⟨trivial, trivial⟩, trivial⟩⟩, ⟨trivial, ⟨⟨trivial, ⟨⟨trivial, trivial⟩, trivial⟩⟩, ⟨trivial, ⟨⟨trivial, la_coupletlaw14_CheckParts_0⟩, ⟨trivial, trivial⟩⟩⟩⟩⟩⟩⟩⟩⟩) (leaf_of fun v => (by kernel_rfl : rh_coupletlaw14_CheckParts.build v = em_coupletlaw14_CheckParts (ra_coupletlaw14_CheckParts v))) (by kernel_rfl) ((rn_coupletlaw14_CheckParts n0 n1 n2 b3 b4 l5).trans h)
def as_coupletlaw14_CheckParts : List Shp := [(.agg [(.int .i64), (.int .i64), (.int .i64), (.isl .i64)])]
def ga_coupletlaw14_CheckParts (vs : List PV) : Option Bool := go_coupletlaw14_CheckParts (((tls 0 vs).headD .nilSl).subs.headD .nilSl).num (((tls 0 vs).headD .nilSl).subs.tail.headD .nilSl).num (((tls 0 vs).headD .nilSl).subs.tail.tail.headD .nilSl).num (((tls 0 vs).headD .nilSl).subs.tail.tail.tail.headD .nilSl).nl (((tls 0 vs).headD .nilSl).subs.tail.tail.tail.headD .nilSl).ex (((tls 0 vs).headD .nilSl).subs.tail.tail.tail.headD .nilSl).ints
theorem at_coupletlaw14_CheckParts : FnAt Try.prog GG 4 as_coupletlaw14_CheckParts ga_coupletlaw14_CheckParts em_coupletlaw14_CheckParts := fun vs h r hr => by
  have e : Shp.buildL as_coupletlaw14_CheckParts vs = [(.agg [(.int .i64 (((tls 0 vs).headD .nilSl).subs.headD .nilSl).num), (.int .i64 (((tls 0 vs).headD .nilSl).subs.tail.headD .nilSl).num), (.int .i64 (((tls 0 vs).headD .nilSl).subs.tail.tail.headD .nilSl).num), (.isl (((tls 0 vs).headD .nilSl).subs.tail.tail.tail.headD .nilSl).nl (((tls 0 vs).headD .nilSl).subs.tail.tail.tail.headD .nilSl).ex .i64 (((tls 0 vs).headD .nilSl).subs.tail.tail.tail.headD .nilSl).ints)])] := by kernel_rfl
  rw [← Shp.buildL_eq _ h, e]
  exact ok_coupletlaw14_CheckParts _ _ _ _ _ _ r hr

def xr_coupletref14_Next : XR := (.seq (.ops false [⟨⟨(some 7), (.box 29 (.tmp 3)), none⟩, none⟩, ⟨⟨(some 8), (.mv (.c (.int .i64 (0)))), none⟩, none⟩]) (.seq (.ops false [⟨⟨(some 11), (.ld true 4 (.tmp 7)), none⟩, (some (.agg [(.int .i64), (.int .i64), (.int .i64), (.isl .i64)]))⟩, ⟨⟨(some 12), (.call (.func 11) [(.tmp 11)]), none⟩, none⟩, ⟨⟨(some 9), (.mv (.tmp 12)), none⟩, none⟩]) (.seq (.seq (.ops false [⟨⟨(some 13), (.mv (.tmp 9)), none⟩, none⟩, ⟨⟨(some 14), (.bin .neq (.tmp 13) (.c (.int .i64 (0)))), none⟩, none⟩]) (.cond (.tmp 14) (.seq (.ops false [⟨⟨(some 15), (.mv (.tmp 9)), none⟩, none⟩, ⟨⟨(some 8), (.mv (.tmp 15)), none⟩, none⟩]) .ret) .skip)) (.seq (.seq (.ops false [⟨⟨(some 16), (.fldA 0 (.tmp 7)), none⟩, none⟩, ⟨⟨(some 17), (.ld false 1 (.tmp 16)), none⟩, (some (.int .i64))⟩, ⟨⟨(some 18), (.bin .eql (.tmp 17) (.c (.int .i64 (1)))), none⟩, none⟩]) (.cond (.tmp 18) (.seq (.seq (.ops false [⟨⟨(some 19), (.mv (.tmp 0)), none⟩, none⟩, ⟨⟨(some 20), (.mv (.tmp 19)), none⟩, none⟩, ⟨⟨(some 21), (.fldA 1 (.tmp 7)), (some (20, true))⟩, none⟩, ⟨⟨(some 22), (.ld false 1 (.tmp 21)), (some (20, true))⟩, (some (.int .i64))⟩, ⟨⟨(some 23), (.mv (.tmp 2)), (some (20, true))⟩, none⟩, ⟨⟨(some 24), (.bin .leq (.tmp 22) (.tmp 23)), (some (20, true))⟩, none⟩, ⟨⟨(some 25), (.pick (.tmp 20) (.tmp 24) (.c (.bool false))), none⟩, none⟩]) (.cond (.tmp 25) (.seq (.ops false [⟨⟨(some 8), (.mv (.c (.int .i64 (7)))), none⟩, none⟩]) .ret) .skip)) (.seq (.ops false [⟨⟨(some 8), (.mv (.c (.int .i64 (0)))), none⟩, none⟩]) .ret)) .skip)) (.seq (.seq (.ops false [⟨⟨(some 26), (.mv (.tmp 0)), none⟩, none⟩, ⟨⟨(some 27), (.un .not (.tmp 26)), none⟩, none⟩]) (.cond (.tmp 27) (.seq (.ops false [⟨⟨(some 8), (.mv (.c (.int .i64 (10)))), none⟩, none⟩]) .ret) .skip)) (.seq (.ops false [⟨⟨(some 10), (.mv (.c (.int .i64 (0)))), none⟩, none⟩]) (.seq (.seq (.ops false [⟨⟨(some 28), (.mv (.tmp 2)), none⟩, none⟩, ⟨⟨(some 29), (.bin .neq (.tmp 28) (.c (.int .i64 (4294967295)))), none⟩, none⟩]) (.cond (.tmp 29) (.ops false [⟨⟨(some 30), (.mv (.tmp 2)), none⟩, none⟩, ⟨⟨(some 31), (.bin .add (.tmp 30) (.c (.int .i64 (1)))), none⟩, none⟩, ⟨⟨(some 10), (.mv (.tmp 31)), none⟩, none⟩]) .skip)) (.seq (.seq (.ops false [⟨⟨(some 32), (.fldA 1 (.tmp 7)), none⟩, none⟩, ⟨⟨(some 33), (.ld false 1 (.tmp 32)), none⟩, (some (.int .i64))⟩, ⟨⟨(some 34), (.mv (.tmp 10)), none⟩, none⟩, ⟨⟨(some 35), (.bin .neq (.tmp 33) (.tmp 34)), none⟩, none⟩]) (.cond (.tmp 35) (.seq (.ops false [⟨⟨(some 8), (.mv (.c (.int .i64 (7)))), none⟩, none⟩]) .ret) .skip)) (.seq (.seq (.ops false [⟨⟨(some 36), (.fldA 2 (.tmp 7)), none⟩, none⟩, ⟨⟨(some 37), (.ld false 1 (.tmp 36)), none⟩, (some (.int .i64))⟩, ⟨⟨(some 38), (.mv (.tmp 1)), none⟩, none⟩, ⟨⟨(some 39), (.bin .neq (.tmp 37) (.tmp 38)), none⟩, none⟩]) (.cond (.tmp 39) (.seq (.ops false [⟨⟨(some 8), (.mv (.c (.int .i64 (8)))), none⟩, none⟩]) .ret) .skip)) (.seq (.ops false [⟨⟨(some 8), (.mv (.c (.int .i64 (0)))), none⟩, none⟩]) .ret))))))))))
def rs_coupletref14_Next : List ResultVar := [(.tmp 8)]
theorem ir_coupletref14_Next : compCode Try.prog (Try.f15.body.getD .skip) [] = some (xr_coupletref14_Next.erase, []) := by kernel_rfl
/-! coupletref14_Next -/
def gm_coupletref14_Next : Gam := (Gam.fn 11 as_coupletref14_Sound ga_coupletref14_Sound em_coupletref14_Sound Gam.bot)
theorem gk_coupletref14_Next : GamOk Try.prog GG gm_coupletref14_Next := (GamOk.fn at_coupletref14_Sound GamOk.bot)
def lm_coupletref14_Next : Lam := fun _ j S kn ke => match j with
  | _ => .fail
/-- coupletref14_Next -/
def go_coupletref14_Next (b0 : Bool) (n1 : Int) (n2 : Int) (n3 : Int) (n4 : Int) (n5 : Int) (b6 : Bool) (b7 : Bool) (l8 : List Int) : Option Int :=
  (go_coupletref14_Sound n3 n4 n5 b6 b7 l8).bind fun r9 =>
  bif (r9 != 0) then
   some r9
  else
   bif (n3 == 1) then
    bif b0 then
     bif (decide (n4 ≤ n2)) then
      some 7
     else
      some 0
    else
     some 0
   else
    bif (!b0) then
     some 10
    else
     bif (n2 != 4294967295) then
      bif (n4 != (IntKind.wrap .i64 (n2 + 1))) then
       some 7
      else
       bif (n5 != n1) then
        some 8
       else
        some 0
     else
      bif (n4 != 0) then
       some 7
      else
       bif (n5 != n1) then
        some 8
       else
        some 0
def em_coupletref14_Next (r : Int) : PV := (.int .i64 r)
def rh_coupletref14_Next : Shp := (.int .i64)
def ra_coupletref14_Next (v : PV) : Int := v.num
def kf_coupletref14_Next (v : PV) : Tree Int := .chk (rh_coupletref14_Next.ok v) (.leaf (ra_coupletref14_Next v))
theorem rn_coupletref14_Next (b0 : Bool) (n1 : Int) (n2 : Int) (n3 : Int) (n4 : Int) (n5 : Int) (b6 : Bool) (b7 : Bool) (l8 : List Int) : (ev GG gm_coupletref14_Next lm_coupletref14_Next xr_coupletref14_Next ⟨slots 40 0 [(0, .p (.bool b0)), (1, .p (.int .i64 n1)), (2, .p (.int .i64 n2)), (3, .p (.agg [(.int .i64 n3), (.int .i64 n4), (.int .i64 n5), (.isl b6 b7 .i64 l8)]))], []⟩ (fun S => finT Try.prog rs_coupletref14_Next S kf_coupletref14_Next) (retT Try.prog rs_coupletref14_Next kf_coupletref14_Next)).run = go_coupletref14_Next b0 n1 n2 n3 n4 n5 b6 b7 l8 := by kernel_rfl
theorem ok_coupletref14_Next (b0 : Bool) (n1 : Int) (n2 : Int) (n3 : Int) (n4 : Int) (n5 : Int) (b6 : Bool) (b7 : Bool) (l8 : List Int) (r : Int) (h : go_coupletref14_Next b0 n1 n2 n3 n4 n5 b6 b7 l8 = some r) : FunEq Try.prog GG 15 [(.bool b0), (.int .i64 n1), (.int .i64 n2), (.agg [(.int .i64 n3), (.int .i64 n4), (.int .i64 n5), (.isl b6 b7 .i64 l8)])] (em_coupletref14_Next r) :=
  fun_of_ev (x := xr_coupletref14_Next) (Λ := lm_coupletref14_Next) gk_coupletref14_Next [] Try.func15 rfl (by kernel_rfl) ir_coupletref14_Next (by kernel_rfl) (congrArg Array.toList Try.results15) Try.ntmps15 (⟨trivial, ⟨trivial, ⟨⟨trivial, ⟨⟨trivial, trivial⟩, trivial⟩⟩, ⟨⟨trivial, ⟨⟨⟨trivial, ⟨⟨trivial, trivial⟩, trivial⟩⟩, ⟨trivial, trivial⟩⟩, trivial⟩⟩, ⟨⟨trivial, ⟨⟨trivial, trivial⟩, trivial⟩⟩, ⟨trivial, ⟨⟨trivial, ⟨trivial, trivial⟩⟩, ⟨⟨trivial, ⟨⟨trivial, trivial⟩, trivial⟩⟩, ⟨⟨trivial, ⟨⟨trivial, trivial⟩, trivial⟩⟩, ⟨trivial, trivial⟩⟩⟩⟩⟩⟩⟩⟩⟩⟩) (leaf_of fun v => (by kernel_rfl : rh_coupletref14_Next.build v = em_coupletref14_Next (ra_coupletref14_Next v))) (by kernel_rfl) ((rn_coupletref14_Next b0 n1 n2 n3 n4 n5 b6 b7 l8).trans h)
def as_coupletref14_Next : List Shp := [.bool, (.int .i64), (.int .i64), (.agg [(.int .i64), (.int .i64), (.int .i64), (.isl .i64)])]
def ga_coupletref14_Next (vs : List PV) : Option Int := go_coupletref14_Next ((tls 0 vs).headD .nilSl).tru ((tls 1 vs).headD .nilSl).num ((tls 2 vs).headD .nilSl).num (((tls 3 vs).headD .nilSl).subs.headD .nilSl).num (((tls 3 vs).headD .nilSl).subs.tail.headD .nilSl).num (((tls 3 vs).headD .nilSl).subs.tail.tail.headD .nilSl).num (((tls 3 vs).headD .nilSl).subs.tail.tail.tail.headD .nilSl).nl (((tls 3 vs).headD .nilSl).subs.tail.tail.tail.headD .nilSl).ex (((tls 3 vs).headD .nilSl).subs.tail.tail.tail.headD .nilSl).ints
theorem at_coupletref14_Next : FnAt Try.prog GG 15 as_coupletref14_Next ga_coupletref14_Next em_coupletref14_Next := fun vs h r hr => by
  have e : Shp.buildL as_coupletref14_Next vs = [(.bool ((tls 0 vs).headD .nilSl).tru), (.int .i64 ((tls 1 vs).headD .nilSl).num), (.int .i64 ((tls 2 vs).headD .nilSl).num), (.agg [(.int .i64 (((tls 3 vs).headD .nilSl).subs.headD .nilSl).num), (.int .i64 (((tls 3 vs).headD .nilSl).subs.tail.headD .nilSl).num), (.int .i64 (((tls 3 vs).headD .nilSl).subs.tail.tail.headD .nilSl).num), (.isl (((tls 3 vs).headD .nilSl).subs.tail.tail.tail.headD .nilSl).nl (((tls 3 vs).headD .nilSl).subs.tail.tail.tail.headD .nilSl).ex .i64 (((tls 3 vs).headD .nilSl).subs.tail.tail.tail.headD .nilSl).ints)])] := by kernel_rfl
  rw [← Shp.buildL_eq _ h, e]
  exact ok_coupletref14_Next _ _ _ _ _ _ _ _ _ r hr

def xr_coupletlaw14_CheckNext : XR := (.seq (.ops false [⟨⟨(some 2), (.box 36 (.tmp 0)), none⟩, none⟩, ⟨⟨(some 3), (.box 24 (.tmp 1)), none⟩, none⟩, ⟨⟨(some 4), (.mv (.c (.bool false))), none⟩, none⟩]) (.seq (.seq (.ops false [⟨⟨(some 7), (.fldA 3 (.tmp 3)), none⟩, none⟩, ⟨⟨(some 8), (.ld false 1 (.tmp 7)), none⟩, (some (.isl .i64))⟩, ⟨⟨(some 9), (.len (.tmp 8)), none⟩, none⟩, ⟨⟨(some 10), (.bin .gtr (.tmp 9) (.c (.int .i64 (40)))), none⟩, none⟩, ⟨⟨(some 11), (.mv (.tmp 10)), none⟩, none⟩, ⟨⟨(some 12), (.fldA 2 (.tmp 2)), (some (11, false))⟩, none⟩, ⟨⟨(some 13), (.ld false 1 (.tmp 12)), (some (11, false))⟩, (some (.int .i64))⟩, ⟨⟨(some 14), (.bin .gtr (.tmp 13) (.c (.int .i64 (1099511627776)))), (some (11, false))⟩, none⟩, ⟨⟨(some 15), (.pick (.tmp 11) (.c (.bool true)) (.tmp 14)), none⟩, none⟩, ⟨⟨(some 16), (.mv (.tmp 15)), none⟩, none⟩, ⟨⟨(some 17), (.fldA 2 (.tmp 2)), (some (16, false))⟩, none⟩, ⟨⟨(some 18), (.ld false 1 (.tmp 17)), (some (16, false))⟩, (some (.int .i64))⟩, ⟨⟨(some 19), (.bin .lss (.tmp 18) (.c (.int .i64 (-1099511627776)))), (some (16, false))⟩, none⟩, ⟨⟨(some 20), (.pick (.tmp 16) (.c (.bool true)) (.tmp 19)), none⟩, none⟩]) (.cond (.tmp 20) (.seq (.ops false [⟨⟨(some 21), (.call (.func 9) []), none⟩, none⟩, ⟨⟨(some 4), (.mv (.tmp 21)), none⟩, none⟩]) .ret) .skip)) (.seq (.ops true [⟨⟨(some 22), (.fldA 0 (.tmp 2)), none⟩, none⟩, ⟨⟨(some 23), (.ld false 1 (.tmp 22)), none⟩, (some .bool)⟩, ⟨⟨(some 24), (.fldA 1 (.tmp 2)), none⟩, none⟩, ⟨⟨(some 25), (.ld false 1 (.tmp 24)), none⟩, (some (.int .i64))⟩, ⟨⟨(some 26), (.fldA 2 (.tmp 2)), none⟩, none⟩, ⟨⟨(some 27), (.ld false 1 (.tmp 26)), none⟩, (some (.int .i64))⟩, ⟨⟨(some 28), (.ld true 4 (.tmp 3)), none⟩, (some (.agg [(.int .i64), (.int .i64), (.int .i64), (.isl .i64)]))⟩, ⟨⟨(some 29), (.call (.func 12) [(.tmp 28)]), none⟩, none⟩, ⟨⟨(some 30), (.call (.func 15) [(.tmp 23), (.tmp 25), (.tmp 27), (.tmp 29)]), none⟩, none⟩, ⟨⟨(some 5), (.mv (.tmp 30)), none⟩, none⟩]) (.seq (.ops false [⟨⟨(some 31), (.ld true 3 (.tmp 2)), none⟩, (some (.agg [.bool, (.int .i64), (.int .i64)]))⟩, ⟨⟨(some 6), (.alloc 36 [(.bool false), (.int .i64 (0)), (.int .i64 (0))]), none⟩, none⟩, ⟨⟨none, (.st 3 (.tmp 6) (.tmp 31)), none⟩, none⟩]) (.seq (.seq (.ops false [⟨⟨(some 32), (.mv (.tmp 5)), none⟩, none⟩, ⟨⟨(some 33), (.bin .eql (.tmp 32) (.c (.int .i64 (0)))), none⟩, none⟩]) (.cond (.tmp 33) (.ops false [⟨⟨(some 34), (.fldA 2 (.tmp 3)), none⟩, none⟩, ⟨⟨(some 35), (.ld false 1 (.tmp 34)), none⟩, (some (.int .i64))⟩, ⟨⟨(some 36), (.fldA 1 (.tmp 3)), none⟩, none⟩, ⟨⟨(some 37), (.ld false 1 (.tmp 36)), none⟩, (some (.int .i64))⟩, ⟨⟨(some 38), (.build [(.bool false), (.int .i64 (0)), (.int .i64 (0))] [(0, (1, (.c (.bool true)))), (1, (1, (.tmp 35))), (2, (1, (.tmp 37)))]), none⟩, none⟩, ⟨⟨none, (.st 3 (.tmp 6) (.tmp 38)), none⟩, none⟩]) .skip)) (.seq (.ops true [⟨⟨(some 39), (.ld true 3 (.tmp 2)), none⟩, (some (.agg [.bool, (.int .i64), (.int .i64)]))⟩, ⟨⟨(some 40), (.ld true 4 (.tmp 3)), none⟩, (some (.agg [(.int .i64), (.int .i64), (.int .i64), (.isl .i64)]))⟩, ⟨⟨(some 41), (.call (.func 16) [(.tmp 39), (.tmp 40)]), none⟩, none⟩, ⟨⟨(some 42), (.mv (.tmp 5)), none⟩, none⟩, ⟨⟨(some 43), (.bin .eql (.tmp 41) (.tmp 42)), none⟩, none⟩, ⟨⟨(some 44), (.mv (.tmp 43)), none⟩, none⟩, ⟨⟨(some 45), (.ld true 3 (.tmp 2)), (some (44, true))⟩, (some (.agg [.bool, (.int .i64), (.int .i64)]))⟩, ⟨⟨(some 46), (.ld true 4 (.tmp 3)), (some (44, true))⟩, (some (.agg [(.int .i64), (.int .i64), (.int .i64), (.isl .i64)]))⟩, ⟨⟨(some 47), (.call (.func 17) [(.tmp 45), (.tmp 46)]), (some (44, true))⟩, none⟩, ⟨⟨(some 48), (.ld true 3 (.tmp 6)), (some (44, true))⟩, (some (.agg [.bool, (.int .i64), (.int .i64)]))⟩, ⟨⟨(some 49), (.eqAgg false [.bool, (.int .i64), (.int .i64)] (.tmp 47) (.tmp 48)), (some (44, true))⟩, none⟩, ⟨⟨(some 50), (.pick (.tmp 44) (.tmp 49) (.c (.bool false))), none⟩, none⟩, ⟨⟨(some 51), (.mv (.tmp 50)), none⟩, none⟩, ⟨⟨(some 52), (.call (.func 9) []), (some (51, true))⟩, none⟩, ⟨⟨(some 53), (.pick (.tmp 51) (.tmp 52) (.c (.bool false))), none⟩, none⟩, ⟨⟨(some 4), (.mv (.tmp 53)), none⟩, none⟩]) .ret))))))
def rs_coupletlaw14_CheckNext : List ResultVar := [(.tmp 4)]
theorem ir_coupletlaw14_CheckNext : compCode Try.prog (Try.f5.body.getD .skip) [] = some (xr_coupletlaw14_CheckNext.erase, []) := by kernel_rfl
/-! coupletlaw14_CheckNext -/
def gm_coupletlaw14_CheckNext : Gam := (Gam.fn 9 as_coupletlaw14_awake ga_coupletlaw14_awake em_coupletlaw14_awake (Gam.fn 12 as_coupletlaw12_Given ga_coupletlaw12_Given em_coupletlaw12_Given (Gam.fn 15 as_coupletref14_Next ga_coupletref14_Next em_coupletref14_Next (Gam.fn 16 as_check_Next ga_check_Next em_check_Next (Gam.fn 17 as_check_Behind ga_check_Behind em_check_Behind Gam.bot)))))
theorem gk_coupletlaw14_CheckNext : GamOk Try.prog GG gm_coupletlaw14_CheckNext := (GamOk.fn at_coupletlaw14_awake (GamOk.fn at_coupletlaw12_Given (GamOk.fn at_coupletref14_Next (GamOk.fn at_check_Next (GamOk.fn at_check_Behind GamOk.bot)))))
def lm_coupletlaw14_CheckNext : Lam := fun _ j S kn ke => match j with
  | _ => .fail
/-- coupletlaw14_CheckNext -/
def go_coupletlaw14_CheckNext (b0 : Bool) (n1 : Int) (n2 : Int) (n3 : Int) (n4 : Int) (n5 : Int) (b6 : Bool) (b7 : Bool) (l8 : List Int) : Option Bool :=
  bif (decide ((((List.length l8) : Nat) : Int) > 40)) then
   (go_coupletlaw14_awake).bind fun r9 =>
   some r9
  else
   bif (decide (n2 > 1099511627776)) then
    (go_coupletlaw14_awake).bind fun r10 =>
    some r10
   else
    bif (decide (n2 < (-1099511627776))) then
     (go_coupletlaw14_awake).bind fun r11 =>
     some r11
    else
     (go_coupletlaw12_Given n3 n4 n5 b6 b7 l8).bind fun r12 =>
     (go_coupletref14_Next b0 n1 n2 r12.1 r12.2.1 r12.2.2.1 r12.2.2.2.1 r12.2.2.2.2.1 r12.2.2.2.2.2).bind fun r13 =>
     bif (r13 == 0) then
      (go_check_Next b0 n1 n2 n3 n4 n5 b6 b7 l8).bind fun r14 =>
      bif (r14 == r13) then
       (go_check_Behind b0 n1 n2 n3 n4 n5 b6 b7 l8).bind fun r15 =>
       bif ((r15.1 == true) && ((r15.2.1 == n5) && ((r15.2.2 == n4) && true))) then
        (go_coupletlaw14_awake).bind fun r16 =>
        some r16
       else
        some false
      else
       some false
     else
      (go_check_Next b0 n1 n2 n3 n4 n5 b6 b7 l8).bind fun r17 =>
      bif (r17 == r13) then
       (go_check_Behind b0 n1 n2 n3 n4 n5 b6 b7 l8).bind fun r18 =>
       bif ((r18.1 == b0) && ((r18.2.1 == n1) && ((r18.2.2 == n2) && true))) then
        (go_coupletlaw14_awake).bind fun r19 =>
        some r19
       else
        some false
      else
       some false
def em_coupletlaw14_CheckNext (r : Bool) : PV := (.bool r)
def rh_coupletlaw14_CheckNext : Shp := .bool
def ra_coupletlaw14_CheckNext (v : PV) : Bool := v.tru
def kf_coupletlaw14_CheckNext (v : PV) : Tree Bool := .chk (rh_coupletlaw14_CheckNext.ok v) (.leaf (ra_coupletlaw14_CheckNext v))
theorem rn_coupletlaw14_CheckNext (b0 : Bool) (n1 : Int) (n2 : Int) (n3 : Int) (n4 : Int) (n5 : Int) (b6 : Bool) (b7 : Bool) (l8 : List Int) : (ev GG gm_coupletlaw14_CheckNext lm_coupletlaw14_CheckNext xr_coupletlaw14_CheckNext ⟨slots 54 0 [(0, .p (.agg [(.bool b0), (.int .i64 n1), (.int .i64 n2)])), (1, .p (.agg [(.int .i64 n3), (.int .i64 n4), (.int .i64 n5), (.isl b6 b7 .i64 l8)]))], []⟩ (fun S => finT Try.prog rs_coupletlaw14_CheckNext S kf_coupletlaw14_CheckNext) (retT Try.prog rs_coupletlaw14_CheckNext kf_coupletlaw14_CheckNext)).run = go_coupletlaw14_CheckNext b0 n1 n2 n3 n4 n5 b6 b7 l8 := by kernel_rfl
theorem ok_coupletlaw14_CheckNext (b0 : Bool) (n1 : Int) (n2 : Int) (n3 : Int) (n4 : Int) (n5 : Int) (b6 : Bool) (b7 : Bool) (l8 : List Int) (r : Bool) (h : go_coupletlaw14_CheckNext b0 n1 n2 n3 n4 n5 b6 b7 l8 = some r) : FunEq Try.prog GG 5 [(.agg [(.bool b0), (.int .i64 n1), (.int .i64 n2)]), (.agg [(.int .i64 n3), (.int .i64 n4), (.int .i64 n5), (.isl b6 b7 .i64 l8)])] (em_coupletlaw14_CheckNext r) :=
  fun_of_ev (x := xr_coupletlaw14_CheckNext) (Λ := lm_coupletlaw14_CheckNext) gk_coupletlaw14_CheckNext [] Try.func5 rfl (by kernel_rfl) ir_coupletlaw14_CheckNext (by kernel_rfl) (congrArg Array.toList Try.results5) Try.ntmps5 (⟨trivial, ⟨⟨trivial, ⟨⟨trivial, trivial⟩, trivial⟩⟩, ⟨trivial, ⟨trivial, ⟨⟨trivial, ⟨trivial, trivial⟩⟩, ⟨trivial, trivial⟩⟩⟩⟩⟩⟩) (leaf_of fun v => (by kernel_rfl : rh_coupletlaw14_CheckNext.build v = em_coupletlaw14_CheckNext (ra_coupletlaw14_CheckNext v))) (by kernel_rfl) ((rn_coupletlaw14_CheckNext b0 n1 n2 n3 n4 n5 b6 b7 l8).trans h)
def as_coupletlaw14_CheckNext : List Shp := [(.agg [.bool, (.int .i64), (.int .i64)]), (.agg [(.int .i64), (.int .i64), (.int .i64), (.isl .i64)])]
def ga_coupletlaw14_CheckNext (vs : List PV) : Option Bool := go_coupletlaw14_CheckNext (((tls 0 vs).headD .nilSl).subs.headD .nilSl).tru (((tls 0 vs).headD .nilSl).subs.tail.headD .nilSl).num (((tls 0 vs).headD .nilSl).subs.tail.tail.headD .nilSl).num (((tls 1 vs).headD .nilSl).subs.headD .nilSl).num (((tls 1 vs).headD .nilSl).subs.tail.headD .nilSl).num (((tls 1 vs).headD .nilSl).subs.tail.tail.headD .nilSl).num (((tls 1 vs).headD .nilSl).subs.tail.tail.tail.headD .nilSl).nl (((tls 1 vs).headD .nilSl).subs.tail.tail.tail.headD .nilSl).ex (((tls 1 vs).headD .nilSl).subs.tail.tail.tail.headD .nilSl).ints
theorem at_coupletlaw14_CheckNext : FnAt Try.prog GG 5 as_coupletlaw14_CheckNext ga_coupletlaw14_CheckNext em_coupletlaw14_CheckNext := fun vs h r hr => by
  have e : Shp.buildL as_coupletlaw14_CheckNext vs = [(.agg [(.bool (((tls 0 vs).headD .nilSl).subs.headD .nilSl).tru), (.int .i64 (((tls 0 vs).headD .nilSl).subs.tail.headD .nilSl).num), (.int .i64 (((tls 0 vs).headD .nilSl).subs.tail.tail.headD .nilSl).num)]), (.agg [(.int .i64 (((tls 1 vs).headD .nilSl).subs.headD .nilSl).num), (.int .i64 (((tls 1 vs).headD .nilSl).subs.tail.headD .nilSl).num), (.int .i64 (((tls 1 vs).headD .nilSl).subs.tail.tail.headD .nilSl).num), (.isl (((tls 1 vs).headD .nilSl).subs.tail.tail.tail.headD .nilSl).nl (((tls 1 vs).headD .nilSl).subs.tail.tail.tail.headD .nilSl).ex .i64 (((tls 1 vs).headD .nilSl).subs.tail.tail.tail.headD .nilSl).ints)])] := by kernel_rfl
  rw [← Shp.buildL_eq _ h, e]
  exact ok_coupletlaw14_CheckNext _ _ _ _ _ _ _ _ _ r hr

def xr_coupletlaw14_CheckOnce : XR := (.seq (.ops false [⟨⟨(some 3), (.box 36 (.tmp 0)), none⟩, none⟩, ⟨⟨(some 4), (.box 24 (.tmp 1)), none⟩, none⟩, ⟨⟨(some 5), (.box 24 (.tmp 2)), none⟩, none⟩, ⟨⟨(some 6), (.mv (.c (.bool false))), none⟩, none⟩]) (.seq (.seq (.ops false [⟨⟨(some 9), (.fldA 3 (.tmp 4)), none⟩, none⟩, ⟨⟨(some 10), (.ld false 1 (.tmp 9)), none⟩, (some (.isl .i64))⟩, ⟨⟨(some 11), (.len (.tmp 10)), none⟩, none⟩, ⟨⟨(some 12), (.bin .gtr (.tmp 11) (.c (.int .i64 (40)))), none⟩, none⟩, ⟨⟨(some 13), (.mv (.tmp 12)), none⟩, none⟩, ⟨⟨(some 14), (.fldA 3 (.tmp 5)), (some (13, false))⟩, none⟩, ⟨⟨(some 15), (.ld false 1 (.tmp 14)), (some (13, false))⟩, (some (.isl .i64))⟩, ⟨⟨(some 16), (.len (.tmp 15)), (some (13, false))⟩, none⟩, ⟨⟨(some 17), (.bin .gtr (.tmp 16) (.c (.int .i64 (40)))), (some (13, false))⟩, none⟩, ⟨⟨(some 18), (.pick (.tmp 13) (.c (.bool true)) (.tmp 17)), none⟩, none⟩, ⟨⟨(some 19), (.mv (.tmp 18)), none⟩, none⟩, ⟨⟨(some 20), (.ld true 3 (.tmp 3)), (some (19, false))⟩, (some (.agg [.bool, (.int .i64), (.int .i64)]))⟩, ⟨⟨(some 21), (.ld true 4 (.tmp 4)), (some (19, false))⟩, (some (.agg [(.int .i64), (.int .i64), (.int .i64), (.isl .i64)]))⟩, ⟨⟨(some 22), (.call (.func 16) [(.tmp 20), (.tmp 21)]), (some (19, false))⟩, none⟩, ⟨⟨(some 23), (.bin .neq (.tmp 22) (.c (.int .i64 (0)))), (some (19, false))⟩, none⟩, ⟨⟨(some 24), (.pick (.tmp 19) (.c (.bool true)) (.tmp 23)), none⟩, none⟩]) (.cond (.tmp 24) (.seq (.ops false [⟨⟨(some 25), (.call (.func 9) []), none⟩, none⟩, ⟨⟨(some 6), (.mv (.tmp 25)), none⟩, none⟩]) .ret) .skip)) (.seq (.ops false [⟨⟨(some 26), (.ld true 3 (.tmp 3)), none⟩, (some (.agg [.bool, (.int .i64), (.int .i64)]))⟩, ⟨⟨(some 27), (.ld true 4 (.tmp 4)), none⟩, (some (.agg [(.int .i64), (.int .i64), (.int .i64), (.isl .i64)]))⟩, ⟨⟨(some 28), (.call (.func 17) [(.tmp 26), (.tmp 27)]), none⟩, none⟩, ⟨⟨(some 7), (.alloc 36 [(.bool false), (.int .i64 (0)), (.int .i64 (0))]), none⟩, none⟩, ⟨⟨none, (.st 3 (.tmp 7) (.tmp 28)), none⟩, none⟩]) (.seq (.seq (.ops false [⟨⟨(some 29), (.ld true 3 (.tmp 7)), none⟩, (some (.agg [.bool, (.int .i64), (.int .i64)]))⟩, ⟨⟨(some 30), (.ld true 4 (.tmp 4)), none⟩, (some (.agg [(.int .i64), (.int .i64), (.int .i64), (.isl .i64)]))⟩, ⟨⟨(some 31), (.call (.func 16) [(.tmp 29), (.tmp 30)]), none⟩, none⟩, ⟨⟨(some 32), (.bin .neq (.tmp 31) (.c (.int .i64 (7)))), none⟩, none⟩]) (.cond (.tmp 32) (.seq (.ops false [⟨⟨(some 6), (.mv (.c (.bool false))), none⟩, none⟩]) .ret) .skip)) (.seq (.seq (.ops false [⟨⟨(some 33), (.ld true 3 (.tmp 7)), none⟩, (some (.agg [.bool, (.int .i64), (.int .i64)]))⟩, ⟨⟨(some 34), (.ld true 4 (.tmp 5)), none⟩, (some (.agg [(.int .i64), (.int .i64), (.int .i64), (.isl .i64)]))⟩, ⟨⟨(some 35), (.call (.func 16) [(.tmp 33), (.tmp 34)]), none⟩, none⟩, ⟨⟨(some 36), (.bin .neq (.tmp 35) (.c (.int .i64 (0)))), none⟩, none⟩]) (.cond (.tmp 36) (.seq (.ops true [⟨⟨(some 37), (.ld true 3 (.tmp 7)), none⟩, (some (.agg [.bool, (.int .i64), (.int .i64)]))⟩, ⟨⟨(some 38), (.ld true 4 (.tmp 5)), none⟩, (some (.agg [(.int .i64), (.int .i64), (.int .i64), (.isl .i64)]))⟩, ⟨⟨(some 39), (.call (.func 17) [(.tmp 37), (.tmp 38)]), none⟩, none⟩, ⟨⟨(some 40), (.ld true 3 (.tmp 7)), none⟩, (some (.agg [.bool, (.int .i64), (.int .i64)]))⟩, ⟨⟨(some 41), (.eqAgg false [.bool, (.int .i64), (.int .i64)] (.tmp 39) (.tmp 40)), none⟩, none⟩, ⟨⟨(some 42), (.mv (.tmp 41)), none⟩, none⟩, ⟨⟨(some 43), (.call (.func 9) []), (some (42, true))⟩, none⟩, ⟨⟨(some 44), (.pick (.tmp 42) (.tmp 43) (.c (.bool false))), none⟩, none⟩, ⟨⟨(some 6), (.mv (.tmp 44)), none⟩, none⟩]) .ret) .skip)) (.seq (.ops false [⟨⟨(some 45), (.ld true 3 (.tmp 7)), none⟩, (some (.agg [.bool, (.int .i64), (.int .i64)]))⟩, ⟨⟨(some 46), (.ld true 4 (.tmp 5)), none⟩, (some (.agg [(.int .i64), (.int .i64), (.int .i64), (.isl .i64)]))⟩, ⟨⟨(some 47), (.call (.func 17) [(.tmp 45), (.tmp 46)]), none⟩, none⟩, ⟨⟨(some 8), (.alloc 36 [(.bool false), (.int .i64 (0)), (.int .i64 (0))]), none⟩, none⟩, ⟨⟨none, (.st 3 (.tmp 8) (.tmp 47)), none⟩, none⟩]) (.seq (.ops false [⟨⟨(some 48), (.fldA 0 (.tmp 8)), none⟩, none⟩, ⟨⟨(some 49), (.ld false 1 (.tmp 48)), none⟩, (some .bool)⟩, ⟨⟨(some 50), (.mv (.tmp 49)), none⟩, none⟩, ⟨⟨(some 51), (.fldA 2 (.tmp 8)), (some (50, true))⟩, none⟩, ⟨⟨(some 52), (.ld false 1 (.tmp 51)), (some (50, true))⟩, (some (.int .i64))⟩, ⟨⟨(some 53), (.fldA 1 (.tmp 5)), (some (50, true))⟩, none⟩, ⟨⟨(some 54), (.ld false 1 (.tmp 53)), (some (50, true))⟩, (some (.int .i64))⟩, ⟨⟨(some 55), (.bin .eql (.tmp 52) (.tmp 54)), (some (50, true))⟩, none⟩, ⟨⟨(some 56), (.pick (.tmp 50) (.tmp 55) (.c (.bool false))), none⟩, none⟩, ⟨⟨(some 57), (.mv (.tmp 56)), none⟩, none⟩, ⟨⟨(some 58), (.ld true 3 (.tmp 8)), (some (57, true))⟩, (some (.agg [.bool, (.int .i64), (.int .i64)]))⟩, ⟨⟨(some 59), (.ld true 4 (.tmp 5)), (some (57, true))⟩, (some (.agg [(.int .i64), (.int .i64), (.int .i64), (.isl .i64)]))⟩, ⟨⟨(some 60), (.call (.func 16) [(.tmp 58), (.tmp 59)]), (some (57, true))⟩, none⟩, ⟨⟨(some 61), (.bin .eql (.tmp 60) (.c (.int .i64 (7)))), (some (57, true))⟩, none⟩, ⟨⟨(some 62), (.pick (.tmp 57) (.tmp 61) (.c (.bool false))), none⟩, none⟩, ⟨⟨(some 63), (.mv (.tmp 62)), none⟩, none⟩, ⟨⟨(some 64), (.fldA 0 (.tmp 5)), (some (63, true))⟩, none⟩, ⟨⟨(some 65), (.ld false 1 (.tmp 64)), (some (63, true))⟩, (some (.int .i64))⟩, ⟨⟨(some 66), (.bin .eql (.tmp 65) (.c (.int .i64 (1)))), (some (63, true))⟩, none⟩, ⟨⟨(some 67), (.mv (.tmp 66)), (some (63, true))⟩, none⟩, ⟨⟨(some 68), (.fldA 2 (.tmp 5)), (some (67, false))⟩, none⟩, ⟨⟨(some 69), (.ld false 1 (.tmp 68)), (some (67, false))⟩, (some (.int .i64))⟩, ⟨⟨(some 70), (.fldA 1 (.tmp 7)), (some (67, false))⟩, none⟩, ⟨⟨(some 71), (.ld false 1 (.tmp 70)), (some (67, false))⟩, (some (.int .i64))⟩, ⟨⟨(some 72), (.bin .eql (.tmp 69) (.tmp 71)), (some (67, false))⟩, none⟩, ⟨⟨(some 73), (.pick (.tmp 67) (.c (.bool true)) (.tmp 72)), (some (63, true))⟩, none⟩, ⟨⟨(some 74), (.pick (.tmp 63) (.tmp 73) (.c (.bool false))), none⟩, none⟩, ⟨⟨(some 75), (.mv (.tmp 74)), none⟩, none⟩, ⟨⟨(some 76), (.call (.func 9) []), (some (75, true))⟩, none⟩, ⟨⟨(some 77), (.pick (.tmp 75) (.tmp 76) (.c (.bool false))), none⟩, none⟩, ⟨⟨(some 6), (.mv (.tmp 77)), none⟩, none⟩]) .ret)))))))
def rs_coupletlaw14_CheckOnce : List ResultVar := [(.tmp 6)]
theorem ir_coupletlaw14_CheckOnce : compCode Try.prog (Try.f6.body.getD .skip) [] = some (xr_coupletlaw14_CheckOnce.erase, []) := by kernel_rfl
/-! coupletlaw14_CheckOnce -/
def gm_coupletlaw14_CheckOnce : Gam := (Gam.fn 9 as_coupletlaw14_awake ga_coupletlaw14_awake em_coupletlaw14_awake (Gam.fn 16 as_check_Next ga_check_Next em_check_Next (Gam.fn 17 as_check_Behind ga_check_Behind em_check_Behind Gam.bot)))
theorem gk_coupletlaw14_CheckOnce : GamOk Try.prog GG gm_coupletlaw14_CheckOnce := (GamOk.fn at_coupletlaw14_awake (GamOk.fn at_check_Next (GamOk.fn at_check_Behind GamOk.bot)))
def lm_coupletlaw14_CheckOnce : Lam := fun _ j S kn ke => match j with
  | _ => .fail
/-- coupletlaw14_CheckOnce -/
def go_coupletlaw14_CheckOnce (b0 : Bool) (n1 : Int) (n2 : Int) (n3 : Int) (n4 : Int) (n5 : Int) (b6 : Bool) (b7 : Bool) (l8 : List Int) (n9 : Int) (n10 : Int) (n11 : Int) (b12 : Bool) (b13 : Bool) (l14 : List Int) : Option Bool :=
  bif (decide ((((List.length l8) : Nat) : Int) > 40)) then
   (go_coupletlaw14_awake).bind fun r15 =>
   some r15
  else
   bif (decide ((((List.length l14) : Nat) : Int) > 40)) then
    (go_coupletlaw14_awake).bind fun r16 =>
    some r16
   else
    (go_check_Next b0 n1 n2 n3 n4 n5 b6 b7 l8).bind fun r17 =>
    bif (r17 != 0) then
     (go_coupletlaw14_awake).bind fun r18 =>
     some r18
    else
     (go_check_Behind b0 n1 n2 n3 n4 n5 b6 b7 l8).bind fun r19 =>
     (go_check_Next r19.1 r19.2.1 r19.2.2 n3 n4 n5 b6 b7 l8).bind fun r20 =>
     bif (r20 != 7) then
      some false
     else
      (go_check_Next r19.1 r19.2.1 r19.2.2 n9 n10 n11 b12 b13 l14).bind fun r21 =>
      bif (r21 != 0) then
       (go_check_Behind r19.1 r19.2.1 r19.2.2 n9 n10 n11 b12 b13 l14).bind fun r22 =>
       bif ((r22.1 == r19.1) && ((r22.2.1 == r19.2.1) && ((r22.2.2 == r19.2.2) && true))) then
        (go_coupletlaw14_awake).bind fun r23 =>
        some r23
       else
        some false
      else
       (go_check_Behind r19.1 r19.2.1 r19.2.2 n9 n10 n11 b12 b13 l14).bind fun r24 =>
       bif r24.1 then
        bif (r24.2.2 == n10) then
         (go_check_Next r24.1 r24.2.1 r24.2.2 n9 n10 n11 b12 b13 l14).bind fun r25 =>
         bif (r25 == 7) then
          bif (n9 == 1) then
           (go_coupletlaw14_awake).bind fun r26 =>
           some r26
          else
           bif (n11 == r19.2.1) then
            (go_coupletlaw14_awake).bind fun r27 =>
            some r27
           else
            some false
         else
          some false
        else
         some false
       else
        some false
def em_coupletlaw14_CheckOnce (r : Bool) : PV := (.bool r)
def rh_coupletlaw14_CheckOnce : Shp := .bool
def ra_coupletlaw14_CheckOnce (v : PV) : Bool := v.tru
def kf_coupletlaw14_CheckOnce (v : PV) : Tree Bool := .chk (rh_coupletlaw14_CheckOnce.ok v) (.leaf (ra_coupletlaw14_CheckOnce v))
theorem rn_coupletlaw14_CheckOnce (b0 : Bool) (n1 : Int) (n2 : Int) (n3 : Int) (n4 : Int) (n5 : Int) (b6 : Bool) (b7 : Bool) (l8 : List Int) (n9 : Int) (n10 : Int) (n11 : Int) (b12 : Bool) (b13 : Bool) (l14 : List Int) : (ev GG gm_coupletlaw14_CheckOnce lm_coupletlaw14_CheckOnce xr_coupletlaw14_CheckOnce ⟨slots 78 0 [(0, .p (.agg [(.bool b0), (.int .i64 n1), (.int .i64 n2)])), (1, .p (.agg [(.int .i64 n3), (.int .i64 n4), (.int .i64 n5), (.isl b6 b7 .i64 l8)])), (2, .p (.agg [(.int .i64 n9), (.int .i64 n10), (.int .i64 n11), (.isl b12 b13 .i64 l14)]))], []⟩ (fun S => finT Try.prog rs_coupletlaw14_CheckOnce S kf_coupletlaw14_CheckOnce) (retT Try.prog rs_coupletlaw14_CheckOnce kf_coupletlaw14_CheckOnce)).run = go_coupletlaw14_CheckOnce b0 n1 n2 n3 n4 n5 b6 b7 l8 n9 n10 n11 b12 b13 l14 := by kernel_rfl
theorem ok_coupletlaw14_CheckOnce (b0 : Bool) (n1 : Int) (n2 : Int) (n3 : Int) (n4 : Int) (n5 : Int) (b6 : Bool) (b7 : Bool) (l8 : List Int) (n9 : Int) (n10 : Int) (n11 : Int) (b12 : Bool) (b13 : Bool) (l14 : List Int) (r : Bool) (h : go_coupletlaw14_CheckOnce b0 n1 n2 n3 n4 n5 b6 b7 l8 n9 n10 n11 b12 b13 l14 = some r) : FunEq Try.prog GG 6 [(.agg [(.bool b0), (.int .i64 n1), (.int .i64 n2)]), (.agg [(.int .i64 n3), (.int .i64 n4), (.int .i64 n5), (.isl b6 b7 .i64 l8)]), (.agg [(.int .i64 n9), (.int .i64 n10), (.int .i64 n11), (.isl b12 b13 .i64 l14)])] (em_coupletlaw14_CheckOnce r) :=
  fun_of_ev (x := xr_coupletlaw14_CheckOnce) (Λ := lm_coupletlaw14_CheckOnce) gk_coupletlaw14_CheckOnce [] Try.func6 rfl (by kernel_rfl) ir_coupletlaw14_CheckOnce (by kernel_rfl) (congrArg Array.toList Try.results6) Try.ntmps6 (⟨trivial, ⟨⟨trivial, ⟨⟨trivial, trivial⟩, trivial⟩⟩, ⟨trivial, ⟨⟨trivial, ⟨⟨trivial, trivial⟩, trivial⟩⟩, ⟨⟨trivial, ⟨⟨trivial, trivial⟩, trivial⟩⟩, ⟨trivial, ⟨trivial, trivial⟩⟩⟩⟩⟩⟩⟩) (leaf_of fun v => (by kernel_rfl : rh_coupletlaw14_CheckOnce.build v = em_coupletlaw14_CheckOnce (ra_coupletlaw14_CheckOnce v))) (by kernel_rfl) ((rn_coupletlaw14_CheckOnce b0 n1 n2 n3 n4 n5 b6 b7 l8 n9 n10 n11 b12 b13 l14).trans h)
def as_coupletlaw14_CheckOnce : List Shp := [(.agg [.bool, (.int .i64), (.int .i64)]), (.agg [(.int .i64), (.int .i64), (.int .i64), (.isl .i64)]), (.agg [(.int .i64), (.int .i64), (.int .i64), (.isl .i64)])]
def ga_coupletlaw14_CheckOnce (vs : List PV) : Option Bool := go_coupletlaw14_CheckOnce (((tls 0 vs).headD .nilSl).subs.headD .nilSl).tru (((tls 0 vs).headD .nilSl).subs.tail.headD .nilSl).num (((tls 0 vs).headD .nilSl).subs.tail.tail.headD .nilSl).num (((tls 1 vs).headD .nilSl).subs.headD .nilSl).num (((tls 1 vs).headD .nilSl).subs.tail.headD .nilSl).num (((tls 1 vs).headD .nilSl).subs.tail.tail.headD .nilSl).num (((tls 1 vs).headD .nilSl).subs.tail.tail.tail.headD .nilSl).nl (((tls 1 vs).headD .nilSl).subs.tail.tail.tail.headD .nilSl).ex (((tls 1 vs).headD .nilSl).subs.tail.tail.tail.headD .nilSl).ints (((tls 2 vs).headD .nilSl).subs.headD .nilSl).num (((tls 2 vs).headD .nilSl).subs.tail.headD .nilSl).num (((tls 2 vs).headD .nilSl).subs.tail.tail.headD .nilSl).num (((tls 2 vs).headD .nilSl).subs.tail.tail.tail.headD .nilSl).nl (((tls 2 vs).headD .nilSl).subs.tail.tail.tail.headD .nilSl).ex (((tls 2 vs).headD .nilSl).subs.tail.tail.tail.headD .nilSl).ints
theorem at_coupletlaw14_CheckOnce : FnAt Try.prog GG 6 as_coupletlaw14_CheckOnce ga_coupletlaw14_CheckOnce em_coupletlaw14_CheckOnce := fun vs h r hr => by
  have e : Shp.buildL as_coupletlaw14_CheckOnce vs = [(.agg [(.bool (((tls 0 vs).headD .nilSl).subs.headD .nilSl).tru), (.int .i64 (((tls 0 vs).headD .nilSl).subs.tail.headD .nilSl).num), (.int .i64 (((tls 0 vs).headD .nilSl).subs.tail.tail.headD .nilSl).num)]), (.agg [(.int .i64 (((tls 1 vs).headD .nilSl).subs.headD .nilSl).num), (.int .i64 (((tls 1 vs).headD .nilSl).subs.tail.headD .nilSl).num), (.int .i64 (((tls 1 vs).headD .nilSl).subs.tail.tail.headD .nilSl).num), (.isl (((tls 1 vs).headD .nilSl).subs.tail.tail.tail.headD .nilSl).nl (((tls 1 vs).headD .nilSl).subs.tail.tail.tail.headD .nilSl).ex .i64 (((tls 1 vs).headD .nilSl).subs.tail.tail.tail.headD .nilSl).ints)]), (.agg [(.int .i64 (((tls 2 vs).headD .nilSl).subs.headD .nilSl).num), (.int .i64 (((tls 2 vs).headD .nilSl).subs.tail.headD .nilSl).num), (.int .i64 (((tls 2 vs).headD .nilSl).subs.tail.tail.headD .nilSl).num), (.isl (((tls 2 vs).headD .nilSl).subs.tail.tail.tail.headD .nilSl).nl (((tls 2 vs).headD .nilSl).subs.tail.tail.tail.headD .nilSl).ex .i64 (((tls 2 vs).headD .nilSl).subs.tail.tail.tail.headD .nilSl).ints)])] := by kernel_rfl
  rw [← Shp.buildL_eq _ h, e]
  exact ok_coupletlaw14_CheckOnce _ _ _ _ _ _ _ _ _ _ _ _ _ _ _ r hr

def xr_coupletlaw14_CheckStarts : XR := (.seq (.ops false [⟨⟨(some 1), (.box 24 (.tmp 0)), none⟩, none⟩, ⟨⟨(some 2), (.mv (.c (.bool false))), none⟩, none⟩]) (.seq (.seq (.ops false [⟨⟨(some 5), (.fldA 3 (.tmp 1)), none⟩, none⟩, ⟨⟨(some 6), (.ld false 1 (.tmp 5)), none⟩, (some (.isl .i64))⟩, ⟨⟨(some 7), (.len (.tmp 6)), none⟩, none⟩, ⟨⟨(some 8), (.bin .gtr (.tmp 7) (.c (.int .i64 (40)))), none⟩, none⟩]) (.cond (.tmp 8) (.seq (.ops false [⟨⟨(some 9), (.call (.func 9) []), none⟩, none⟩, ⟨⟨(some 2), (.mv (.tmp 9)), none⟩, none⟩]) .ret) .skip)) (.seq (.ops false [⟨⟨(some 10), (.build [(.bool false), (.int .i64 (0)), (.int .i64 (0))] []), none⟩, none⟩, ⟨⟨(some 11), (.ld true 4 (.tmp 1)), none⟩, (some (.agg [(.int .i64), (.int .i64), (.int .i64), (.isl .i64)]))⟩, ⟨⟨(some 12), (.call (.func 16) [(.tmp 10), (.tmp 11)]), none⟩, none⟩, ⟨⟨(some 3), (.mv (.tmp 12)), none⟩, none⟩]) (.seq (.ops false [⟨⟨(some 13), (.ld true 4 (.tmp 1)), none⟩, (some (.agg [(.int .i64), (.int .i64), (.int .i64), (.isl .i64)]))⟩, ⟨⟨(some 14), (.call (.func 12) [(.tmp 13)]), none⟩, none⟩, ⟨⟨(some 15), (.call (.func 11) [(.tmp 14)]), none⟩, none⟩, ⟨⟨(some 4), (.mv (.tmp 15)), none⟩, none⟩]) (.seq (.seq (.ops false [⟨⟨(some 16), (.mv (.tmp 4)), none⟩, none⟩, ⟨⟨(some 17), (.bin .neq (.tmp 16) (.c (.int .i64 (0)))), none⟩, none⟩]) (.cond (.tmp 17) (.seq (.ops false [⟨⟨(some 18), (.mv (.tmp 3)), none⟩, none⟩, ⟨⟨(some 19), (.mv (.tmp 4)), none⟩, none⟩, ⟨⟨(some 20), (.bin .eql (.tmp 18) (.tmp 19)), none⟩, none⟩, ⟨⟨(some 21), (.mv (.tmp 20)), none⟩, none⟩, ⟨⟨(some 22), (.call (.func 9) []), (some (21, true))⟩, none⟩, ⟨⟨(some 23), (.pick (.tmp 21) (.tmp 22) (.c (.bool false))), none⟩, none⟩, ⟨⟨(some 2), (.mv (.tmp 23)), none⟩, none⟩]) .ret) .skip)) (.seq (.seq (.ops false [⟨⟨(some 24), (.fldA 0 (.tmp 1)), none⟩, none⟩, ⟨⟨(some 25), (.ld false 1 (.tmp 24)), none⟩, (some (.int .i64))⟩, ⟨⟨(some 26), (.bin .eql (.tmp 25) (.c (.int .i64 (1)))), none⟩, none⟩]) (.cond (.tmp 26) (.seq (.ops false [⟨⟨(some 27), (.mv (.tmp 3)), none⟩, none⟩, ⟨⟨(some 28), (.bin .eql (.tmp 27) (.c (.int .i64 (0)))), none⟩, none⟩, ⟨⟨(some 29), (.mv (.tmp 28)), none⟩, none⟩, ⟨⟨(some 30), (.call (.func 9) []), (some (29, true))⟩, none⟩, ⟨⟨(some 31), (.pick (.tmp 29) (.tmp 30) (.c (.bool false))), none⟩, none⟩, ⟨⟨(some 2), (.mv (.tmp 31)), none⟩, none⟩]) .ret) .skip)) (.seq (.ops false [⟨⟨(some 32), (.mv (.tmp 3)), none⟩, none⟩, ⟨⟨(some 33), (.bin .eql (.tmp 32) (.c (.int .i64 (10)))), none⟩, none⟩, ⟨⟨(some 34), (.mv (.tmp 33)), none⟩, none⟩, ⟨⟨(some 35), (.build [(.bool false), (.int .i64 (0)), (.int .i64 (0))] []), (some (34, true))⟩, none⟩, ⟨⟨(some 36), (.ld true 4 (.tmp 1)), (some (34, true))⟩, (some (.agg [(.int .i64), (.int .i64), (.int .i64), (.isl .i64)]))⟩, ⟨⟨(some 37), (.call (.func 17) [(.tmp 35), (.tmp 36)]), (some (34, true))⟩, none⟩, ⟨⟨(some 38), (.build [(.bool false), (.int .i64 (0)), (.int .i64 (0))] []), (some (34, true))⟩, none⟩, ⟨⟨(some 39), (.eqAgg false [.bool, (.int .i64), (.int .i64)] (.tmp 37) (.tmp 38)), (some (34, true))⟩, none⟩, ⟨⟨(some 40), (.pick (.tmp 34) (.tmp 39) (.c (.bool false))), none⟩, none⟩, ⟨⟨(some 41), (.mv (.tmp 40)), none⟩, none⟩, ⟨⟨(some 42), (.call (.func 9) []), (some (41, true))⟩, none⟩, ⟨⟨(some 43), (.pick (.tmp 41) (.tmp 42) (.c (.bool false))), none⟩, none⟩, ⟨⟨(some 2), (.mv (.tmp 43)), none⟩, none⟩]) .ret)))))))
def rs_coupletlaw14_CheckStarts : List ResultVar := [(.tmp 2)]
theorem ir_coupletlaw14_CheckStarts : compCode Try.prog (Try.f7.body.getD .skip) [] = some (xr_coupletlaw14_CheckStarts.erase, []) := by kernel_rfl
/-! coupletlaw14_CheckStarts -/
def gm_coupletlaw14_CheckStarts : Gam := (Gam.fn 9 as_coupletlaw14_awake ga_coupletlaw14_awake em_coupletlaw14_awake (Gam.fn 16 as_check_Next ga_check_Next em_check_Next (Gam.fn 12 as_coupletlaw12_Given ga_coupletlaw12_Given em_coupletlaw12_Given (Gam.fn 11 as_coupletref14_Sound ga_coupletref14_Sound em_coupletref14_Sound (Gam.fn 17 as_check_Behind ga_check_Behind em_check_Behind Gam.bot)))))
theorem gk_coupletlaw14_CheckStarts : GamOk Try.prog GG gm_coupletlaw14_CheckStarts := (GamOk.fn at_coupletlaw14_awake (GamOk.fn at_check_Next (GamOk.fn at_coupletlaw12_Given (GamOk.fn at_coupletref14_Sound (GamOk.fn at_check_Behind GamOk.bot)))))
def lm_coupletlaw14_CheckStarts : Lam := fun _ j S kn ke => match j with
  | _ => .fail
/-- coupletlaw14_CheckStarts -/
def go_coupletlaw14_CheckStarts (n0 : Int) (n1 : Int) (n2 : Int) (b3 : Bool) (b4 : Bool) (l5 : List Int) : Option Bool :=
  bif (decide ((((List.length l5) : Nat) : Int) > 40)) then
   (go_coupletlaw14_awake).bind fun r6 =>
   some r6
  else
   (go_check_Next false 0 0 n0 n1 n2 b3 b4 l5).bind fun r7 =>
   (go_coupletlaw12_Given n0 n1 n2 b3 b4 l5).bind fun r8 =>
   (go_coupletref14_Sound r8.1 r8.2.1 r8.2.2.1 r8.2.2.2.1 r8.2.2.2.2.1 r8.2.2.2.2.2).bind fun r9 =>
   bif (r9 != 0) then
    bif (r7 == r9) then
     (go_coupletlaw14_awake).bind fun r10 =>
     some r10
    else
     some false
   else
    bif (n0 == 1) then
     bif (r7 == 0) then
      (go_coupletlaw14_awake).bind fun r11 =>
      some r11
     else
      some false
    else
     bif (r7 == 10) then
      (go_check_Behind false 0 0 n0 n1 n2 b3 b4 l5).bind fun r12 =>
      bif ((r12.1 == false) && ((r12.2.1 == 0) && ((r12.2.2 == 0) && true))) then
       (go_coupletlaw14_awake).bind fun r13 =>
       some r13
      else
       some false
     else
      some false
def em_coupletlaw14_CheckStarts (r : Bool) : PV := (.bool r)
def rh_coupletlaw14_CheckStarts : Shp := .bool
def ra_coupletlaw14_CheckStarts (v : PV) : Bool := v.tru
def kf_coupletlaw14_CheckStarts (v : PV) : Tree Bool := .chk (rh_coupletlaw14_CheckStarts.ok v) (.leaf (ra_coupletlaw14_CheckStarts v))
theorem rn_coupletlaw14_CheckStarts (n0 : Int) (n1 : Int) (n2 : Int) (b3 : Bool) (b4 : Bool) (l5 : List Int) : (ev GG gm_coupletlaw14_CheckStarts lm_coupletlaw14_CheckStarts xr_coupletlaw14_CheckStarts ⟨slots 44 0 [(0, .p (.agg [(.int .i64 n0), (.int .i64 n1), (.int .i64 n2), (.isl b3 b4 .i64 l5)]))], []⟩ (fun S => finT Try.prog rs_coupletlaw14_CheckStarts S kf_coupletlaw14_CheckStarts) (retT Try.prog rs_coupletlaw14_CheckStarts kf_coupletlaw14_CheckStarts)).run = go_coupletlaw14_CheckStarts n0 n1 n2 b3 b4 l5 := by kernel_rfl
theorem ok_coupletlaw14_CheckStarts (n0 : Int) (n1 : Int) (n2 : Int) (b3 : Bool) (b4 : Bool) (l5 : List Int) (r : Bool) (h : go_coupletlaw14_CheckStarts n0 n1 n2 b3 b4 l5 = some r) : FunEq Try.prog GG 7 [(.agg [(.int .i64 n0), (.int .i64 n1), (.int .i64 n2), (.isl b3 b4 .i64 l5)])] (em_coupletlaw14_CheckStarts r) :=
  fun_of_ev (x := xr_coupletlaw14_CheckStarts) (Λ := lm_coupletlaw14_CheckStarts) gk_coupletlaw14_CheckStarts [] Try.func7 rfl (by kernel_rfl) ir_coupletlaw14_CheckStarts (by kernel_rfl) (congrArg Array.toList Try.results7) Try.ntmps7 (⟨trivial, ⟨⟨trivial, ⟨⟨trivial, trivial⟩, trivial⟩⟩, ⟨trivial, ⟨trivial, ⟨⟨trivial, ⟨⟨trivial, trivial⟩, trivial⟩⟩, ⟨⟨trivial, ⟨⟨trivial, trivial⟩, trivial⟩⟩, ⟨trivial, trivial⟩⟩⟩⟩⟩⟩⟩) (leaf_of fun v => (by kernel_rfl : rh_coupletlaw14_CheckStarts.build v = em_coupletlaw14_CheckStarts (ra_coupletlaw14_CheckStarts v))) (by kernel_rfl) ((rn_coupletlaw14_CheckStarts n0 n1 n2 b3 b4 l5).trans h)
def as_coupletlaw14_CheckStarts : List Shp := [(.agg [(.int .i64), (.int .i64), (.int .i64), (.isl .i64)])]
def ga_coupletlaw14_CheckStarts (vs : List PV) : Option Bool := go_coupletlaw14_CheckStarts (((tls 0 vs).headD .nilSl).subs.headD .nilSl).num (((tls 0 vs).headD .nilSl).subs.tail.headD .nilSl).num (((tls 0 vs).headD .nilSl).subs.tail.tail.headD .nilSl).num (((tls 0 vs).headD .nilSl).subs.tail.tail.tail.headD .nilSl).nl (((tls 0 vs).headD .nilSl).subs.tail.tail.tail.headD .nilSl).ex (((tls 0 vs).headD .nilSl).subs.tail.tail.tail.headD .nilSl).ints
theorem at_coupletlaw14_CheckStarts : FnAt Try.prog GG 7 as_coupletlaw14_CheckStarts ga_coupletlaw14_CheckStarts em_coupletlaw14_CheckStarts := fun vs h r hr => by
  have e : Shp.buildL as_coupletlaw14_CheckStarts vs = [(.agg [(.int .i64 (((tls 0 vs).headD .nilSl).subs.headD .nilSl).num), (.int .i64 (((tls 0 vs).headD .nilSl).subs.tail.headD .nilSl).num), (.int .i64 (((tls 0 vs).headD .nilSl).subs.tail.tail.headD .nilSl).num), (.isl (((tls 0 vs).headD .nilSl).subs.tail.tail.tail.headD .nilSl).nl (((tls 0 vs).headD .nilSl).subs.tail.tail.tail.headD .nilSl).ex .i64 (((tls 0 vs).headD .nilSl).subs.tail.tail.tail.headD .nilSl).ints)])] := by kernel_rfl
  rw [← Shp.buildL_eq _ h, e]
  exact ok_coupletlaw14_CheckStarts _ _ _ _ _ _ r hr

def xb_coupletlaw14_CheckRow_0 : XR := (.seq (.ops false [⟨⟨(some 17), (.bin .lss (.tmp 16) (.tmp 15)), none⟩, none⟩]) (.seq (.cond (.tmp 17) .skip (.exit 0)) (.seq (.block 1 (.seq (.ops false [⟨⟨(some 18), (.ixA 4 (.tmp 14) (.tmp 16)), none⟩, none⟩, ⟨⟨(some 19), (.ld true 4 (.tmp 18)), none⟩, (some (.agg [(.int .i64), (.int .i64), (.int .i64), (.isl .i64)]))⟩, ⟨⟨(some 8), (.alloc 24 [(.int .i64 (0)), (.int .i64 (0)), (.int .i64 (0)), (.isl true true .i64 [])]), none⟩, none⟩, ⟨⟨none, (.st 4 (.tmp 8) (.tmp 19)), none⟩, none⟩]) (.seq (.seq (.ops false [⟨⟨(some 20), (.fldA 3 (.tmp 8)), none⟩, none⟩, ⟨⟨(some 21), (.ld false 1 (.tmp 20)), none⟩, (some (.isl .i64))⟩, ⟨⟨(some 22), (.len (.tmp 21)), none⟩, none⟩, ⟨⟨(some 23), (.bin .gtr (.tmp 22) (.c (.int .i64 (40)))), none⟩, none⟩]) (.cond (.tmp 23) (.seq (.ops false [⟨⟨(some 24), (.call (.func 9) []), none⟩, none⟩, ⟨⟨(some 2), (.mv (.tmp 24)), none⟩, none⟩]) .ret) .skip)) (.seq (.ops false [⟨⟨(some 25), (.ld true 3 (.tmp 3)), none⟩, (some (.agg [.bool, (.int .i64), (.int .i64)]))⟩, ⟨⟨(some 26), (.ld true 4 (.tmp 8)), none⟩, (some (.agg [(.int .i64), (.int .i64), (.int .i64), (.isl .i64)]))⟩, ⟨⟨(some 27), (.call (.func 16) [(.tmp 25), (.tmp 26)]), none⟩, none⟩, ⟨⟨(some 28), (.bin .eql (.tmp 27) (.c (.int .i64 (0)))), none⟩, none⟩, ⟨⟨(some 9), (.mv (.tmp 28)), none⟩, none⟩]) (.seq (.ops false [⟨⟨(some 29), (.ld true 3 (.tmp 3)), none⟩, (some (.agg [.bool, (.int .i64), (.int .i64)]))⟩, ⟨⟨(some 30), (.ld true 4 (.tmp 8)), none⟩, (some (.agg [(.int .i64), (.int .i64), (.int .i64), (.isl .i64)]))⟩, ⟨⟨(some 31), (.call (.func 17) [(.tmp 29), (.tmp 30)]), none⟩, none⟩, ⟨⟨none, (.st 3 (.tmp 3) (.tmp 31)), none⟩, none⟩]) (.seq (.ops false [⟨⟨(some 32), (.mv (.tmp 9)), none⟩, none⟩]) (.cond (.tmp 32) (.seq (.ops false [⟨⟨(some 33), (.ld true 4 (.tmp 8)), none⟩, (some (.agg [(.int .i64), (.int .i64), (.int .i64), (.isl .i64)]))⟩, ⟨⟨none, (.st 4 (.tmp 5) (.tmp 33)), none⟩, none⟩, ⟨⟨(some 6), (.mv (.c (.bool true))), none⟩, none⟩]) (.ops false [⟨⟨(some 34), (.ld true 3 (.tmp 4)), none⟩, (some (.agg [.bool, (.int .i64), (.int .i64)]))⟩, ⟨⟨(some 35), (.ld true 4 (.tmp 8)), none⟩, (some (.agg [(.int .i64), (.int .i64), (.int .i64), (.isl .i64)]))⟩, ⟨⟨(some 36), (.call (.func 17) [(.tmp 34), (.tmp 35)]), none⟩, none⟩, ⟨⟨none, (.st 3 (.tmp 4) (.tmp 36)), none⟩, none⟩])) .skip))))))) (.ops false [⟨⟨(some 37), (.bin .add (.tmp 16) (.c (.int .i64 (1)))), none⟩, none⟩, ⟨⟨(some 16), (.mv (.tmp 37)), none⟩, none⟩]))))
def xr_coupletlaw14_CheckRow : XR := (.seq (.ops false [⟨⟨(some 2), (.mv (.c (.bool false))), none⟩, none⟩]) (.seq (.seq (.ops false [⟨⟨(some 10), (.mv (.tmp 0)), none⟩, none⟩, ⟨⟨(some 11), (.len (.tmp 10)), none⟩, none⟩, ⟨⟨(some 12), (.bin .gtr (.tmp 11) (.c (.int .i64 (12)))), none⟩, none⟩]) (.cond (.tmp 12) (.seq (.ops false [⟨⟨(some 13), (.call (.func 9) []), none⟩, none⟩, ⟨⟨(some 2), (.mv (.tmp 13)), none⟩, none⟩]) .ret) .skip)) (.seq (.ops false [⟨⟨(some 3), (.alloc 36 [(.bool false), (.int .i64 (0)), (.int .i64 (0))]), none⟩, none⟩, ⟨⟨(some 4), (.alloc 36 [(.bool false), (.int .i64 (0)), (.int .i64 (0))]), none⟩, none⟩]) (.seq (.ops false [⟨⟨(some 5), (.alloc 24 [(.int .i64 (0)), (.int .i64 (0)), (.int .i64 (0)), (.isl true true .i64 [])]), none⟩, none⟩]) (.seq (.ops false [⟨⟨(some 6), (.mv (.c (.bool false))), none⟩, none⟩]) (.seq (.seq (.ops false [⟨⟨(some 14), (.mv (.tmp 0)), none⟩, none⟩, ⟨⟨(some 15), (.len (.tmp 14)), none⟩, none⟩, ⟨⟨(some 16), (.mv (.c (.int .i64 (0)))), none⟩, none⟩]) (.block 0 (.loop 0 [3, 4, 5, 6, 14, 15, 16] xb_coupletlaw14_CheckRow_0))) (.seq (.seq (.ops false [⟨⟨(some 38), (.mv (.tmp 6)), none⟩, none⟩, ⟨⟨(some 39), (.un .not (.tmp 38)), none⟩, none⟩]) (.cond (.tmp 39) (.seq (.ops false [⟨⟨(some 40), (.ld true 3 (.tmp 3)), none⟩, (some (.agg [.bool, (.int .i64), (.int .i64)]))⟩, ⟨⟨(some 41), (.build [(.bool false), (.int .i64 (0)), (.int .i64 (0))] []), none⟩, none⟩, ⟨⟨(some 42), (.eqAgg false [.bool, (.int .i64), (.int .i64)] (.tmp 40) (.tmp 41)), none⟩, none⟩, ⟨⟨(some 43), (.mv (.tmp 42)), none⟩, none⟩, ⟨⟨(some 44), (.call (.func 9) []), (some (43, true))⟩, none⟩, ⟨⟨(some 45), (.pick (.tmp 43) (.tmp 44) (.c (.bool false))), none⟩, none⟩, ⟨⟨(some 2), (.mv (.tmp 45)), none⟩, none⟩]) .ret) .skip)) (.seq (.ops false [⟨⟨(some 46), (.ld true 3 (.tmp 3)), none⟩, (some (.agg [.bool, (.int .i64), (.int .i64)]))⟩, ⟨⟨(some 47), (.ld true 3 (.tmp 4)), none⟩, (some (.agg [.bool, (.int .i64), (.int .i64)]))⟩, ⟨⟨(some 48), (.eqAgg false [.bool, (.int .i64), (.int .i64)] (.tmp 46) (.tmp 47)), none⟩, none⟩, ⟨⟨(some 49), (.mv (.tmp 48)), none⟩, none⟩, ⟨⟨(some 50), (.fldA 0 (.tmp 3)), (some (49, true))⟩, none⟩, ⟨⟨(some 51), (.ld false 1 (.tmp 50)), (some (49, true))⟩, (some .bool)⟩, ⟨⟨(some 52), (.pick (.tmp 49) (.tmp 51) (.c (.bool false))), none⟩, none⟩, ⟨⟨(some 53), (.mv (.tmp 52)), none⟩, none⟩, ⟨⟨(some 54), (.fldA 2 (.tmp 3)), (some (53, true))⟩, none⟩, ⟨⟨(some 55), (.ld false 1 (.tmp 54)), (some (53, true))⟩, (some (.int .i64))⟩, ⟨⟨(some 56), (.fldA 1 (.tmp 5)), (some (53, true))⟩, none⟩, ⟨⟨(some 57), (.ld false 1 (.tmp 56)), (some (53, true))⟩, (some (.int .i64))⟩, ⟨⟨(some 58), (.bin .eql (.tmp 55) (.tmp 57)), (some (53, true))⟩, none⟩, ⟨⟨(some 59), (.pick (.tmp 53) (.tmp 58) (.c (.bool false))), none⟩, none⟩, ⟨⟨(some 60), (.mv (.tmp 59)), none⟩, none⟩, ⟨⟨(some 61), (.fldA 1 (.tmp 3)), (some (60, true))⟩, none⟩, ⟨⟨(some 62), (.ld false 1 (.tmp 61)), (some (60, true))⟩, (some (.int .i64))⟩, ⟨⟨(some 63), (.fldA 2 (.tmp 5)), (some (60, true))⟩, none⟩, ⟨⟨(some 64), (.ld false 1 (.tmp 63)), (some (60, true))⟩, (some (.int .i64))⟩, ⟨⟨(some 65), (.bin .eql (.tmp 62) (.tmp 64)), (some (60, true))⟩, none⟩, ⟨⟨(some 66), (.pick (.tmp 60) (.tmp 65) (.c (.bool false))), none⟩, none⟩, ⟨⟨(some 67), (.mv (.tmp 66)), none⟩, none⟩, ⟨⟨(some 68), (.call (.func 9) []), (some (67, true))⟩, none⟩, ⟨⟨(some 69), (.pick (.tmp 67) (.tmp 68) (.c (.bool false))), none⟩, none⟩, ⟨⟨(some 2), (.mv (.tmp 69)), none⟩, none⟩]) .ret))))))))
def rs_coupletlaw14_CheckRow : List ResultVar := [(.tmp 2)]
theorem ir_coupletlaw14_CheckRow : compCode Try.prog (Try.f8.body.getD .skip) [[3, 4, 5, 6, 14, 15, 16]] = some (xr_coupletlaw14_CheckRow.erase, []) := by kernel_rfl
/-! coupletlaw14_CheckRow -/
def gm_coupletlaw14_CheckRow : Gam := (Gam.fn 9 as_coupletlaw14_awake ga_coupletlaw14_awake em_coupletlaw14_awake (Gam.fn 16 as_check_Next ga_check_Next em_check_Next (Gam.fn 17 as_check_Behind ga_check_Behind em_check_Behind Gam.bot)))
theorem gk_coupletlaw14_CheckRow : GamOk Try.prog GG gm_coupletlaw14_CheckRow := (GamOk.fn at_coupletlaw14_awake (GamOk.fn at_check_Next (GamOk.fn at_check_Behind GamOk.bot)))
def st_coupletlaw14_CheckRow_0 (b4 : Bool) (b5 : Bool) (b6 : Bool) (es7 : List PV) (n8 : Int) (n9 : Int) (b10 : Bool) (n11 : Int) (n12 : Int) (b13 : Bool) (n14 : Int) (n15 : Int) (n16 : Int) (n17 : Int) (n18 : Int) (b19 : Bool) (b20 : Bool) (l21 : List Int) : Option (((Bool × Bool × Bool × List PV × Int × Int × Bool × Int × Int × Bool × Int × Int × Int × Int × Int × Bool × Bool × List Int)) ⊕ (((Bool × Bool × Int × Int × Bool × Int × Int × Int × Int × Int × Bool × Bool × List Int)) ⊕ (Bool))) :=
  bif (decide (n9 < n8)) then
   bif (decide (0 ≤ n9)) then
    bif (decide (n9 < (((List.length es7) : Nat) : Int))) then
     bif (decide ((Int.toNat n9) < (List.length es7))) then
      bif (decide ((List.length (PV.cells (List.getD es7 (Int.toNat n9) .nilSl))) = 4)) then
       bif (Shp.ok (.agg [(.int .i64), (.int .i64), (.int .i64), (.isl .i64)]) (.agg (PV.cells (List.getD es7 (Int.toNat n9) .nilSl)))) then
        bif (decide ((((List.length (PV.ints (List.headD (List.tail (List.tail (List.tail (PV.subs (.agg (PV.cells (List.getD es7 (Int.toNat n9) .nilSl))))))) .nilSl))) : Nat) : Int) > 40)) then
         (go_coupletlaw14_awake).bind fun r22 =>
         some (Sum.inr (Sum.inr r22))
        else
         (go_check_Next b10 n11 n12 (PV.num (List.headD (PV.subs (.agg (PV.cells (List.getD es7 (Int.toNat n9) .nilSl)))) .nilSl)) (PV.num (List.headD (List.tail (PV.subs (.agg (PV.cells (List.getD es7 (Int.toNat n9) .nilSl))))) .nilSl)) (PV.num (List.headD (List.tail (List.tail (PV.subs (.agg (PV.cells (List.getD es7 (Int.toNat n9) .nilSl)))))) .nilSl)) (PV.nl (List.headD (List.tail (List.tail (List.tail (PV.subs (.agg (PV.cells (List.getD es7 (Int.toNat n9) .nilSl))))))) .nilSl)) (PV.ex (List.headD (List.tail (List.tail (List.tail (PV.subs (.agg (PV.cells (List.getD es7 (Int.toNat n9) .nilSl))))))) .nilSl)) (PV.ints (List.headD (List.tail (List.tail (List.tail (PV.subs (.agg (PV.cells (List.getD es7 (Int.toNat n9) .nilSl))))))) .nilSl))).bind fun r23 =>
         (go_check_Behind b10 n11 n12 (PV.num (List.headD (PV.subs (.agg (PV.cells (List.getD es7 (Int.toNat n9) .nilSl)))) .nilSl)) (PV.num (List.headD (List.tail (PV.subs (.agg (PV.cells (List.getD es7 (Int.toNat n9) .nilSl))))) .nilSl)) (PV.num (List.headD (List.tail (List.tail (PV.subs (.agg (PV.cells (List.getD es7 (Int.toNat n9) .nilSl)))))) .nilSl)) (PV.nl (List.headD (List.tail (List.tail (List.tail (PV.subs (.agg (PV.cells (List.getD es7 (Int.toNat n9) .nilSl))))))) .nilSl)) (PV.ex (List.headD (List.tail (List.tail (List.tail (PV.subs (.agg (PV.cells (List.getD es7 (Int.toNat n9) .nilSl))))))) .nilSl)) (PV.ints (List.headD (List.tail (List.tail (List.tail (PV.subs (.agg (PV.cells (List.getD es7 (Int.toNat n9) .nilSl))))))) .nilSl))).bind fun r24 =>
         bif (r23 == 0) then
          (go_check_Behind b13 n14 n15 (PV.num (List.headD (PV.subs (.agg (PV.cells (List.getD es7 (Int.toNat n9) .nilSl)))) .nilSl)) (PV.num (List.headD (List.tail (PV.subs (.agg (PV.cells (List.getD es7 (Int.toNat n9) .nilSl))))) .nilSl)) (PV.num (List.headD (List.tail (List.tail (PV.subs (.agg (PV.cells (List.getD es7 (Int.toNat n9) .nilSl)))))) .nilSl)) (PV.nl (List.headD (List.tail (List.tail (List.tail (PV.subs (.agg (PV.cells (List.getD es7 (Int.toNat n9) .nilSl))))))) .nilSl)) (PV.ex (List.headD (List.tail (List.tail (List.tail (PV.subs (.agg (PV.cells (List.getD es7 (Int.toNat n9) .nilSl))))))) .nilSl)) (PV.ints (List.headD (List.tail (List.tail (List.tail (PV.subs (.agg (PV.cells (List.getD es7 (Int.toNat n9) .nilSl))))))) .nilSl))).bind fun r25 =>
          some (Sum.inl (true, b5, b6, es7, n8, (IntKind.wrap .i64 (n9 + 1)), r24.1, r24.2.1, r24.2.2, r25.1, r25.2.1, r25.2.2, (PV.num (List.headD (PV.subs (.agg (PV.cells (List.getD es7 (Int.toNat n9) .nilSl)))) .nilSl)), (PV.num (List.headD (List.tail (PV.subs (.agg (PV.cells (List.getD es7 (Int.toNat n9) .nilSl))))) .nilSl)), (PV.num (List.headD (List.tail (List.tail (PV.subs (.agg (PV.cells (List.getD es7 (Int.toNat n9) .nilSl)))))) .nilSl)), (PV.nl (List.headD (List.tail (List.tail (List.tail (PV.subs (.agg (PV.cells (List.getD es7 (Int.toNat n9) .nilSl))))))) .nilSl)), (PV.ex (List.headD (List.tail (List.tail (List.tail (PV.subs (.agg (PV.cells (List.getD es7 (Int.toNat n9) .nilSl))))))) .nilSl)), (PV.ints (List.headD (List.tail (List.tail (List.tail (PV.subs (.agg (PV.cells (List.getD es7 (Int.toNat n9) .nilSl))))))) .nilSl))))
         else
          some (Sum.inl (b4, b5, b6, es7, n8, (IntKind.wrap .i64 (n9 + 1)), r24.1, r24.2.1, r24.2.2, b13, n14, n15, n16, n17, n18, b19, b20, l21))
       else none
      else none
     else none
    else none
   else none
  else
   some (Sum.inr (Sum.inl (b4, b10, n11, n12, b13, n14, n15, n16, n17, n18, b19, b20, l21)))
def lp_coupletlaw14_CheckRow_0 (b4 : Bool) (b5 : Bool) (b6 : Bool) (es7 : List PV) (n8 : Int) (n9 : Int) (b10 : Bool) (n11 : Int) (n12 : Int) (b13 : Bool) (n14 : Int) (n15 : Int) (n16 : Int) (n17 : Int) (n18 : Int) (b19 : Bool) (b20 : Bool) (l21 : List Int) : Option (((Bool × Bool × Int × Int × Bool × Int × Int × Int × Int × Int × Bool × Bool × List Int)) ⊕ (Bool)) := loopN (X := (Bool × Bool × Bool × List PV × Int × Int × Bool × Int × Int × Bool × Int × Int × Int × Int × Int × Bool × Bool × List Int)) (fun x => st_coupletlaw14_CheckRow_0 x.1 x.2.1 x.2.2.1 x.2.2.2.1 x.2.2.2.2.1 x.2.2.2.2.2.1 x.2.2.2.2.2.2.1 x.2.2.2.2.2.2.2.1 x.2.2.2.2.2.2.2.2.1 x.2.2.2.2.2.2.2.2.2.1 x.2.2.2.2.2.2.2.2.2.2.1 x.2.2.2.2.2.2.2.2.2.2.2.1 x.2.2.2.2.2.2.2.2.2.2.2.2.1 x.2.2.2.2.2.2.2.2.2.2.2.2.2.1 x.2.2.2.2.2.2.2.2.2.2.2.2.2.2.1 x.2.2.2.2.2.2.2.2.2.2.2.2.2.2.2.1 x.2.2.2.2.2.2.2.2.2.2.2.2.2.2.2.2.1 x.2.2.2.2.2.2.2.2.2.2.2.2.2.2.2.2.2) (b4, b5, b6, es7, n8, n9, b10, n11, n12, b13, n14, n15, n16, n17, n18, b19, b20, l21)
def sh_coupletlaw14_CheckRow_0 : StSh := ⟨70, [(3, (.ptr 0 0)), (4, (.ptr 1 0)), (5, (.ptr 2 0)), (6, (.p .bool)), (14, (.p (.sl 4))), (15, (.p (.int .i64))), (16, (.p (.int .i64)))], [(.box 36 [(.p .bool), (.p (.int .i64)), (.p (.int .i64))]), (.box 36 [(.p .bool), (.p (.int .i64)), (.p (.int .i64))]), (.box 24 [(.p (.int .i64)), (.p (.int .i64)), (.p (.int .i64)), (.p (.isl .i64))])]⟩
def sx_coupletlaw14_CheckRow_0 (x : (Bool × Bool × Bool × List PV × Int × Int × Bool × Int × Int × Bool × Int × Int × Int × Int × Int × Bool × Bool × List Int)) : St := ⟨slots 70 0 [(3, (.ptr 0 0)), (4, (.ptr 1 0)), (5, (.ptr 2 0)), (6, (.p (.bool x.1))), (14, (.p (.sl x.2.1 x.2.2.1 4 x.2.2.2.1))), (15, (.p (.int .i64 x.2.2.2.2.1))), (16, (.p (.int .i64 x.2.2.2.2.2.1)))], [(.box 36 [(.p (.bool x.2.2.2.2.2.2.1)), (.p (.int .i64 x.2.2.2.2.2.2.2.1)), (.p (.int .i64 x.2.2.2.2.2.2.2.2.1))]), (.box 36 [(.p (.bool x.2.2.2.2.2.2.2.2.2.1)), (.p (.int .i64 x.2.2.2.2.2.2.2.2.2.2.1)), (.p (.int .i64 x.2.2.2.2.2.2.2.2.2.2.2.1))]), (.box 24 [(.p (.int .i64 x.2.2.2.2.2.2.2.2.2.2.2.2.1)), (.p (.int .i64 x.2.2.2.2.2.2.2.2.2.2.2.2.2.1)), (.p (.int .i64 x.2.2.2.2.2.2.2.2.2.2.2.2.2.2.1)), (.p (.isl x.2.2.2.2.2.2.2.2.2.2.2.2.2.2.2.1 x.2.2.2.2.2.2.2.2.2.2.2.2.2.2.2.2.1 .i64 x.2.2.2.2.2.2.2.2.2.2.2.2.2.2.2.2.2))])]⟩
def sa_coupletlaw14_CheckRow_0 (S : St) : (Bool × Bool × Bool × List PV × Int × Int × Bool × Int × Int × Bool × Int × Int × Int × Int × Int × Bool × Bool × List Int) := (((tls 6 S.t).headD .any).pv.tru, ((tls 14 S.t).headD .any).pv.nl, ((tls 14 S.t).headD .any).pv.ex, ((tls 14 S.t).headD .any).pv.elts, ((tls 15 S.t).headD .any).pv.num, ((tls 16 S.t).headD .any).pv.num, (((tls 0 S.own).headD .gone).subs.headD .any).pv.tru, (((tls 0 S.own).headD .gone).subs.tail.headD .any).pv.num, (((tls 0 S.own).headD .gone).subs.tail.tail.headD .any).pv.num, (((tls 1 S.own).headD .gone).subs.headD .any).pv.tru, (((tls 1 S.own).headD .gone).subs.tail.headD .any).pv.num, (((tls 1 S.own).headD .gone).subs.tail.tail.headD .any).pv.num, (((tls 2 S.own).headD .gone).subs.headD .any).pv.num, (((tls 2 S.own).headD .gone).subs.tail.headD .any).pv.num, (((tls 2 S.own).headD .gone).subs.tail.tail.headD .any).pv.num, (((tls 2 S.own).headD .gone).subs.tail.tail.tail.headD .any).pv.nl, (((tls 2 S.own).headD .gone).subs.tail.tail.tail.headD .any).pv.ex, (((tls 2 S.own).headD .gone).subs.tail.tail.tail.headD .any).pv.ints)
def tz_coupletlaw14_CheckRow_0_1 : StSh := ⟨70, [(2, (.p .bool))], []⟩
def tx_coupletlaw14_CheckRow_0_1 (x : Bool) : St := ⟨slots 70 0 [(2, (.p (.bool x)))], []⟩
def ta_coupletlaw14_CheckRow_0_1 (S : St) : Bool := ((tls 2 S.t).headD .any).pv.tru
def tz_coupletlaw14_CheckRow_0_0 : StSh := ⟨70, [(3, (.ptr 0 0)), (4, (.ptr 1 0)), (5, (.ptr 2 0)), (6, (.p .bool))], [(.box 36 [(.p .bool), (.p (.int .i64)), (.p (.int .i64))]), (.box 36 [(.p .bool), (.p (.int .i64)), (.p (.int .i64))]), (.box 24 [(.p (.int .i64)), (.p (.int .i64)), (.p (.int .i64)), (.p (.isl .i64))])]⟩
def tx_coupletlaw14_CheckRow_0_0 (x : (Bool × Bool × Int × Int × Bool × Int × Int × Int × Int × Int × Bool × Bool × List Int)) : St := ⟨slots 70 0 [(3, (.ptr 0 0)), (4, (.ptr 1 0)), (5, (.ptr 2 0)), (6, (.p (.bool x.1)))], [(.box 36 [(.p (.bool x.2.1)), (.p (.int .i64 x.2.2.1)), (.p (.int .i64 x.2.2.2.1))]), (.box 36 [(.p (.bool x.2.2.2.2.1)), (.p (.int .i64 x.2.2.2.2.2.1)), (.p (.int .i64 x.2.2.2.2.2.2.1))]), (.box 24 [(.p (.int .i64 x.2.2.2.2.2.2.2.1)), (.p (.int .i64 x.2.2.2.2.2.2.2.2.1)), (.p (.int .i64 x.2.2.2.2.2.2.2.2.2.1)), (.p (.isl x.2.2.2.2.2.2.2.2.2.2.1 x.2.2.2.2.2.2.2.2.2.2.2.1 .i64 x.2.2.2.2.2.2.2.2.2.2.2.2))])]⟩
def ta_coupletlaw14_CheckRow_0_0 (S : St) : (Bool × Bool × Int × Int × Bool × Int × Int × Int × Int × Int × Bool × Bool × List Int) := (((tls 6 S.t).headD .any).pv.tru, (((tls 0 S.own).headD .gone).subs.headD .any).pv.tru, (((tls 0 S.own).headD .gone).subs.tail.headD .any).pv.num, (((tls 0 S.own).headD .gone).subs.tail.tail.headD .any).pv.num, (((tls 1 S.own).headD .gone).subs.headD .any).pv.tru, (((tls 1 S.own).headD .gone).subs.tail.headD .any).pv.num, (((tls 1 S.own).headD .gone).subs.tail.tail.headD .any).pv.num, (((tls 2 S.own).headD .gone).subs.headD .any).pv.num, (((tls 2 S.own).headD .gone).subs.tail.headD .any).pv.num, (((tls 2 S.own).headD .gone).subs.tail.tail.headD .any).pv.num, (((tls 2 S.own).headD .gone).subs.tail.tail.tail.headD .any).pv.nl, (((tls 2 S.own).headD .gone).subs.tail.tail.tail.headD .any).pv.ex, (((tls 2 S.own).headD .gone).subs.tail.tail.tail.headD .any).pv.ints)
def kb_coupletlaw14_CheckRow_0 : Exit → St → Tree (((Bool × Bool × Bool × List PV × Int × Int × Bool × Int × Int × Bool × Int × Int × Int × Int × Int × Bool × Bool × List Int)) ⊕ (((Bool × Bool × Int × Int × Bool × Int × Int × Int × Int × Int × Bool × Bool × List Int)) ⊕ (Bool))) := (exOne (.exit 0) [3, 4, 5, 6] tz_coupletlaw14_CheckRow_0_0 ta_coupletlaw14_CheckRow_0_0 (fun y => Sum.inr ((Sum.inl y))) (exOne .ret [2] tz_coupletlaw14_CheckRow_0_1 ta_coupletlaw14_CheckRow_0_1 (fun y => Sum.inr ((Sum.inr y))) exNil))
def ky_coupletlaw14_CheckRow_0 : Dec (((Bool × Bool × Int × Int × Bool × Int × Int × Int × Int × Int × Bool × Bool × List Int)) ⊕ (Bool)) := fun _ y ke => .sum y (fun a => ke ((.exit 0) : EK).ex (tx_coupletlaw14_CheckRow_0_0 a)) (fun y' => ke (.ret : EK).ex (tx_coupletlaw14_CheckRow_0_1 y'))
theorem kk_coupletlaw14_CheckRow_0 : ExOk Sum.inr kb_coupletlaw14_CheckRow_0 ky_coupletlaw14_CheckRow_0 := (ExOk.one (acc := ta_coupletlaw14_CheckRow_0_0) (bY := tx_coupletlaw14_CheckRow_0_0) (inj1 := fun y => (Sum.inl y)) (fun S => by kernel_rfl) (fun y _ ke => .inr (by kernel_rfl)) (ExOk.one (acc := ta_coupletlaw14_CheckRow_0_1) (bY := tx_coupletlaw14_CheckRow_0_1) (inj1 := fun y => (Sum.inr y)) (fun S => by kernel_rfl) (fun y _ ke => .inr (by kernel_rfl)) ExOk.nil))
def lm_coupletlaw14_CheckRow : Lam := fun _ j S kn ke => match j with
  | 0 => prepT [3, 4, 5, 6, 14, 15, 16] [] S fun S => .chk (sh_coupletlaw14_CheckRow_0.ok S) (.bind (loopN (fun x => st_coupletlaw14_CheckRow_0 x.1 x.2.1 x.2.2.1 x.2.2.2.1 x.2.2.2.2.1 x.2.2.2.2.2.1 x.2.2.2.2.2.2.1 x.2.2.2.2.2.2.2.1 x.2.2.2.2.2.2.2.2.1 x.2.2.2.2.2.2.2.2.2.1 x.2.2.2.2.2.2.2.2.2.2.1 x.2.2.2.2.2.2.2.2.2.2.2.1 x.2.2.2.2.2.2.2.2.2.2.2.2.1 x.2.2.2.2.2.2.2.2.2.2.2.2.2.1 x.2.2.2.2.2.2.2.2.2.2.2.2.2.2.1 x.2.2.2.2.2.2.2.2.2.2.2.2.2.2.2.1 x.2.2.2.2.2.2.2.2.2.2.2.2.2.2.2.2.1 x.2.2.2.2.2.2.2.2.2.2.2.2.2.2.2.2.2) (sa_coupletlaw14_CheckRow_0 S)) fun y => ky_coupletlaw14_CheckRow_0 _ y ke)
  | _ => .fail
theorem sr_coupletlaw14_CheckRow_0 (x : (Bool × Bool × Bool × List PV × Int × Int × Bool × Int × Int × Bool × Int × Int × Int × Int × Int × Bool × Bool × List Int)) : (ev GG gm_coupletlaw14_CheckRow lm_coupletlaw14_CheckRow xb_coupletlaw14_CheckRow_0 (sx_coupletlaw14_CheckRow_0 x) (fun S => forgetT [3, 4, 5, 6, 14, 15, 16] S fun S => prepT [3, 4, 5, 6, 14, 15, 16] [] S fun S => .chk (sh_coupletlaw14_CheckRow_0.ok S) (.leaf (.inl (sa_coupletlaw14_CheckRow_0 S)))) kb_coupletlaw14_CheckRow_0).run = st_coupletlaw14_CheckRow_0 x.1 x.2.1 x.2.2.1 x.2.2.2.1 x.2.2.2.2.1 x.2.2.2.2.2.1 x.2.2.2.2.2.2.1 x.2.2.2.2.2.2.2.1 x.2.2.2.2.2.2.2.2.1 x.2.2.2.2.2.2.2.2.2.1 x.2.2.2.2.2.2.2.2.2.2.1 x.2.2.2.2.2.2.2.2.2.2.2.1 x.2.2.2.2.2.2.2.2.2.2.2.2.1 x.2.2.2.2.2.2.2.2.2.2.2.2.2.1 x.2.2.2.2.2.2.2.2.2.2.2.2.2.2.1 x.2.2.2.2.2.2.2.2.2.2.2.2.2.2.2.1 x.2.2.2.2.2.2.2.2.2.2.2.2.2.2.2.2.1 x.2.2.2.2.2.2.2.2.2.2.2.2.2.2.2.2.2 := by kernel_rfl
theorem la_coupletlaw14_CheckRow_0 : LamAt Try.prog GG lm_coupletlaw14_CheckRow 0 (.loop [3, 4, 5, 6, 14, 15, 16] xb_coupletlaw14_CheckRow_0.erase) := lam_loop (body := xb_coupletlaw14_CheckRow_0) (Λ' := lm_coupletlaw14_CheckRow) gk_coupletlaw14_CheckRow (⟨trivial, ⟨⟨trivial, trivial⟩, ⟨⟨trivial, ⟨⟨trivial, ⟨⟨trivial, trivial⟩, trivial⟩⟩, ⟨trivial, ⟨trivial, ⟨trivial, ⟨⟨trivial, trivial⟩, trivial⟩⟩⟩⟩⟩⟩, trivial⟩⟩⟩) (fun S => (by kernel_rfl : sh_coupletlaw14_CheckRow_0.build S = sx_coupletlaw14_CheckRow_0 (sa_coupletlaw14_CheckRow_0 S))) kk_coupletlaw14_CheckRow_0 sr_coupletlaw14_CheckRow_0 (fun _ _ _ => rfl)
/-- coupletlaw14_CheckRow -/
def go_coupletlaw14_CheckRow (b0 : Bool) (b1 : Bool) (es2 : List PV) : Option Bool :=
  bif (decide ((((List.length es2) : Nat) : Int) > 12)) then
   (go_coupletlaw14_awake).bind fun r3 =>
   some r3
  else
   (lp_coupletlaw14_CheckRow_0 false b0 b1 es2 (((List.length es2) : Nat) : Int) 0 false 0 0 false 0 0 0 0 0 true true []).bind fun y26 =>
   Sum.elim (fun z27 =>
    bif (!z27.1) then
     bif ((z27.2.1 == false) && ((z27.2.2.1 == 0) && ((z27.2.2.2.1 == 0) && true))) then
      (go_coupletlaw14_awake).bind fun r28 =>
      some r28
     else
      some false
    else
     bif ((z27.2.1 == z27.2.2.2.2.1) && ((z27.2.2.1 == z27.2.2.2.2.2.1) && ((z27.2.2.2.1 == z27.2.2.2.2.2.2.1) && true))) then
      bif z27.2.1 then
       bif (z27.2.2.2.1 == z27.2.2.2.2.2.2.2.2.1) then
        bif (z27.2.2.1 == z27.2.2.2.2.2.2.2.2.2.1) then
         (go_coupletlaw14_awake).bind fun r29 =>
         some r29
        else
         some false
       else
        some false
      else
       some false
     else
      some false) (fun z30 =>
    some z30) y26
def em_coupletlaw14_CheckRow (r : Bool) : PV := (.bool r)
def rh_coupletlaw14_CheckRow : Shp := .bool
def ra_coupletlaw14_CheckRow (v : PV) : Bool := v.tru
def kf_coupletlaw14_CheckRow (v : PV) : Tree Bool := .chk (rh_coupletlaw14_CheckRow.ok v) (.leaf (ra_coupletlaw14_CheckRow v))
theorem rn_coupletlaw14_CheckRow (b0 : Bool) (b1 : Bool) (es2 : List PV) : (ev GG gm_coupletlaw14_CheckRow lm_coupletlaw14_CheckRow xr_coupletlaw14_CheckRow ⟨slots 70 0 [(0, .p (.sl b0 b1 4 es2))], []⟩ (fun S => finT Try.prog rs_coupletlaw14_CheckRow S kf_coupletlaw14_CheckRow) (retT Try.prog rs_coupletlaw14_CheckRow kf_coupletlaw14_CheckRow)).run = go_coupletlaw14_CheckRow b0 b1 es2 := by kernel_rfl
theorem ok_coupletlaw14_CheckRow (b0 : Bool) (b1 : Bool) (es2 : List PV) (r : Bool) (h : go_coupletlaw14_CheckRow b0 b1 es2 = some r) : FunEq Try.prog GG 8 [(.sl b0 b1 4 es2)] (em_coupletlaw14_CheckRow r) :=
  fun_of_ev (x := xr_coupletlaw14_CheckRow) (Λ := lm_coupletlaw14_CheckRow) gk_coupletlaw14_CheckRow [[3, 4, 5, 6, 14, 15, 16]] Try.func8 rfl (by kernel_rfl) ir_coupletlaw14_CheckRow (by kernel_rfl) (congrArg Array.toList Try.results8) Try.ntmps8 (⟨trivial, ⟨⟨trivial, ⟨⟨trivial, trivial⟩, trivial⟩⟩, ⟨trivial, ⟨trivial, ⟨trivial, ⟨⟨trivial, la_coupletlaw14_CheckRow_0⟩, ⟨⟨trivial, ⟨⟨trivial, trivial⟩, trivial⟩⟩, ⟨trivial, trivial⟩⟩⟩⟩⟩⟩⟩⟩) (leaf_of fun v => (by kernel_rfl : rh_coupletlaw14_CheckRow.build v = em_coupletlaw14_CheckRow (ra_coupletlaw14_CheckRow v))) (by kernel_rfl) ((rn_coupletlaw14_CheckRow b0 b1 es2).trans h)
def as_coupletlaw14_CheckRow : List Shp := [(.sl 4)]
def ga_coupletlaw14_CheckRow (vs : List PV) : Option Bool := go_coupletlaw14_CheckRow ((tls 0 vs).headD .nilSl).nl ((tls 0 vs).headD .nilSl).ex ((tls 0 vs).headD .nilSl).elts
theorem at_coupletlaw14_CheckRow : FnAt Try.prog GG 8 as_coupletlaw14_CheckRow ga_coupletlaw14_CheckRow em_coupletlaw14_CheckRow := fun vs h r hr => by
  have e : Shp.buildL as_coupletlaw14_CheckRow vs = [(.sl ((tls 0 vs).headD .nilSl).nl ((tls 0 vs).headD .nilSl).ex 4 ((tls 0 vs).headD .nilSl).elts)] := by kernel_rfl
  rw [← Shp.buildL_eq _ h, e]
  exact ok_coupletlaw14_CheckRow _ _ _ r hr
end Go.Proofs
