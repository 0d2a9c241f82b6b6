import Derived.Test.YtlfffpkfipdboaaDoorWGF1
import Derived.Test.YtlfffpkfipdboaaDoorWSFs
import Derived.Test.YtlfffpkfipdboaaDoorWSFm
import Derived.Test.YtlfffpkfipdboaaDoorWLFn
import Derived.Test.YtlfffpkfipdboaaDoorWLP2
import Derived.Test.YtlfffpkfipdboaaDoorFxRng
import Derived.Test.YtlfffpkfipdboaaDoorChecked
set_option linter.unusedVariables false
set_option maxRecDepth 100000
noncomputable section
namespace Go.Proofs
open Go Go.Fx
def xb_coupletlaw20_Few_0 : XR := (.seq (.seq (.ops false [⟨⟨(some 4), (.mv (.tmp 3)), none⟩, none⟩, ⟨⟨(some 5), (.mv (.tmp 0)), none⟩, none⟩, ⟨⟨(some 6), (.len (.tmp 5)), none⟩, none⟩, ⟨⟨(some 7), (.bin .lss (.tmp 4) (.tmp 6)), none⟩, none⟩, ⟨⟨(some 8), (.mv (.tmp 7)), none⟩, none⟩, ⟨⟨(some 9), (.mv (.tmp 3)), (some (8, true))⟩, none⟩, ⟨⟨(some 10), (.bin .leq (.tmp 9) (.c (.int .i64 (20)))), (some (8, true))⟩, none⟩, ⟨⟨(some 11), (.pick (.tmp 8) (.tmp 10) (.c (.bool false))), none⟩, none⟩]) (.cond (.tmp 11) .skip (.exit 0))) (.seq (.block 1 (.seq (.ops false [⟨⟨(some 14), (.mv (.tmp 0)), none⟩, none⟩, ⟨⟨(some 15), (.mv (.tmp 3)), none⟩, none⟩, ⟨⟨(some 16), (.ixA 5 (.tmp 14) (.tmp 15)), none⟩, none⟩, ⟨⟨(some 17), (.fldA 1 (.tmp 16)), none⟩, none⟩, ⟨⟨(some 18), (.ld false 1 (.tmp 17)), none⟩, (some (.isl .u8))⟩, ⟨⟨(some 19), (.len (.tmp 18)), none⟩, none⟩, ⟨⟨(some 20), (.bin .gtr (.tmp 19) (.c (.int .i64 (601)))), none⟩, none⟩, ⟨⟨(some 21), (.mv (.tmp 20)), none⟩, none⟩, ⟨⟨(some 22), (.mv (.tmp 0)), (some (21, false))⟩, none⟩, ⟨⟨(some 23), (.mv (.tmp 3)), (some (21, false))⟩, none⟩, ⟨⟨(some 24), (.ixA 5 (.tmp 22) (.tmp 23)), (some (21, false))⟩, none⟩, ⟨⟨(some 25), (.fldA 0 (.tmp 24)), (some (21, false))⟩, none⟩, ⟨⟨(some 26), (.ld false 1 (.tmp 25)), (some (21, false))⟩, (some .str)⟩, ⟨⟨(some 27), (.lenS (.tmp 26)), (some (21, false))⟩, none⟩, ⟨⟨(some 28), (.bin .gtr (.tmp 27) (.c (.int .i64 (100)))), (some (21, false))⟩, none⟩, ⟨⟨(some 29), (.pick (.tmp 21) (.c (.bool true)) (.tmp 28)), none⟩, none⟩]) (.cond (.tmp 29) (.seq (.ops false [⟨⟨(some 2), (.mv (.c (.bool false))), none⟩, none⟩]) .ret) .skip))) (.ops false [⟨⟨(some 12), (.mv (.tmp 3)), none⟩, none⟩, ⟨⟨(some 13), (.bin .add (.tmp 12) (.c (.int .i64 (1)))), none⟩, none⟩, ⟨⟨(some 3), (.mv (.tmp 13)), none⟩, none⟩])))
def xr_coupletlaw20_Few : XR := (.seq (.ops false [⟨⟨(some 2), (.mv (.c (.bool false))), none⟩, none⟩]) (.seq (.seq (.ops false [⟨⟨(some 3), (.mv (.c (.int .i64 (0)))), none⟩, none⟩]) (.block 0 (.loop 0 [0, 3] xb_coupletlaw20_Few_0))) (.seq (.ops false [⟨⟨(some 30), (.mv (.tmp 0)), none⟩, none⟩, ⟨⟨(some 31), (.len (.tmp 30)), none⟩, none⟩, ⟨⟨(some 32), (.bin .leq (.tmp 31) (.c (.int .i64 (20)))), none⟩, none⟩, ⟨⟨(some 2), (.mv (.tmp 32)), none⟩, none⟩]) .ret)))
def rs_coupletlaw20_Few : List ResultVar := [(.tmp 2)]
theorem ir_coupletlaw20_Few : compCode Tryd.prog (Tryd.f12.body.getD .skip) [[0, 3]] = some (xr_coupletlaw20_Few.erase, []) := by kernel_rfl
def gm_coupletlaw20_Few : Gam := Gam.bot
theorem gk_coupletlaw20_Few : GamOk Tryd.prog GG gm_coupletlaw20_Few := GamOk.bot
def st_coupletlaw20_Few_0 (b3 : Bool) (b4 : Bool) (es5 : List PV) (n6 : Int) : Option (((Bool × Bool × List PV × Int)) ⊕ (((Bool × Bool × List PV)) ⊕ (Bool))) :=
  bif (decide (n6 < (((List.length es5) : Nat) : Int))) then
   bif (decide (n6 ≤ 20)) then
    bif (decide (0 ≤ n6)) then
     bif (decide (n6 < (((List.length es5) : Nat) : Int))) then
      bif (decide ((Int.toNat n6) < (List.length es5))) then
       bif (Shp.ok (.isl .u8) (List.getD (PV.cells (List.getD es5 (Int.toNat n6) .nilSl)) 1 .nilSl)) then
        bif (decide ((((List.length (PV.ints (List.getD (PV.cells (List.getD es5 (Int.toNat n6) .nilSl)) 1 .nilSl))) : Nat) : Int) > 601)) then
         some (Sum.inr (Sum.inr false))
        else
         bif (decide (0 ≤ n6)) then
          bif (decide (n6 < (((List.length es5) : Nat) : Int))) then
           bif (decide ((Int.toNat n6) < (List.length es5))) then
            bif (Shp.ok .str (List.getD (PV.cells (List.getD es5 (Int.toNat n6) .nilSl)) 0 .nilSl)) then
             bif (decide ((((List.length (PV.chars (List.getD (PV.cells (List.getD es5 (Int.toNat n6) .nilSl)) 0 .nilSl))) : Nat) : Int) > 100)) then
              some (Sum.inr (Sum.inr false))
             else
              some (Sum.inl (b3, b4, es5, (IntKind.wrap .i64 (n6 + 1))))
            else none
           else none
          else none
         else none
       else none
      else none
     else none
    else none
   else
    some (Sum.inr (Sum.inl (b3, b4, es5)))
  else
   some (Sum.inr (Sum.inl (b3, b4, es5)))
def lp_coupletlaw20_Few_0 (b3 : Bool) (b4 : Bool) (es5 : List PV) (n6 : Int) : Option (((Bool × Bool × List PV)) ⊕ (Bool)) := loopN (X := (Bool × Bool × List PV × Int)) (fun x => st_coupletlaw20_Few_0 x.1 x.2.1 x.2.2.1 x.2.2.2) (b3, b4, es5, n6)
def sh_coupletlaw20_Few_0 : StSh := ⟨33, [(0, (.p (.sl 5))), (3, (.p (.int .i64)))], []⟩
def sx_coupletlaw20_Few_0 (x : (Bool × Bool × List PV × Int)) : St := ⟨slots 33 0 [(0, (.p (.sl x.1 x.2.1 5 x.2.2.1))), (3, (.p (.int .i64 x.2.2.2)))], []⟩
def sa_coupletlaw20_Few_0 (S : St) : (Bool × Bool × List PV × Int) := (((tls 0 S.t).headD .any).pv.nl, ((tls 0 S.t).headD .any).pv.ex, ((tls 0 S.t).headD .any).pv.elts, ((tls 3 S.t).headD .any).pv.num)
def tz_coupletlaw20_Few_0_1 : StSh := ⟨33, [(2, (.p .bool))], []⟩
def tx_coupletlaw20_Few_0_1 (x : Bool) : St := ⟨slots 33 0 [(2, (.p (.bool x)))], []⟩
def ta_coupletlaw20_Few_0_1 (S : St) : Bool := ((tls 2 S.t).headD .any).pv.tru
def tz_coupletlaw20_Few_0_0 : StSh := ⟨33, [(0, (.p (.sl 5)))], []⟩
def tx_coupletlaw20_Few_0_0 (x : (Bool × Bool × List PV)) : St := ⟨slots 33 0 [(0, (.p (.sl x.1 x.2.1 5 x.2.2)))], []⟩
def ta_coupletlaw20_Few_0_0 (S : St) : (Bool × Bool × List PV) := (((tls 0 S.t).headD .any).pv.nl, ((tls 0 S.t).headD .any).pv.ex, ((tls 0 S.t).headD .any).pv.elts)
def kb_coupletlaw20_Few_0 : Exit → St → Tree (((Bool × Bool × List PV × Int)) ⊕ (((Bool × Bool × List PV)) ⊕ (Bool))) := (exOne (.exit 0) [0] tz_coupletlaw20_Few_0_0 ta_coupletlaw20_Few_0_0 (fun y => Sum.inr ((Sum.inl y))) (exOne .ret [2] tz_coupletlaw20_Few_0_1 ta_coupletlaw20_Few_0_1 (fun y => Sum.inr ((Sum.inr y))) exNil))
def ky_coupletlaw20_Few_0 : Dec (((Bool × Bool × List PV)) ⊕ (Bool)) := fun _ y ke => .sum y (fun a => ke ((.exit 0) : EK).ex (tx_coupletlaw20_Few_0_0 a)) (fun y' => ke (.ret : EK).ex (tx_coupletlaw20_Few_0_1 y'))
theorem kk_coupletlaw20_Few_0 : ExOk Sum.inr kb_coupletlaw20_Few_0 ky_coupletlaw20_Few_0 := (ExOk.one (acc := ta_coupletlaw20_Few_0_0) (bY := tx_coupletlaw20_Few_0_0) (inj1 := fun y => (Sum.inl y)) (fun S => by kernel_rfl) (fun y _ ke => .inr (by kernel_rfl)) (ExOk.one (acc := ta_coupletlaw20_Few_0_1) (bY := tx_coupletlaw20_Few_0_1) (inj1 := fun y => (Sum.inr y)) (fun S => by kernel_rfl) (fun y _ ke => .inr (by kernel_rfl)) ExOk.nil))
def lm_coupletlaw20_Few : Lam := fun _ j S kn ke => match j with
  | 0 => prepT [0, 3] [] S fun S => .chk (sh_coupletlaw20_Few_0.ok S) (.bind (loopN (fun x => st_coupletlaw20_Few_0 x.1 x.2.1 x.2.2.1 x.2.2.2) (sa_coupletlaw20_Few_0 S)) fun y => ky_coupletlaw20_Few_0 _ y ke)
  | _ => .fail
theorem sr_coupletlaw20_Few_0 (x : (Bool × Bool × List PV × Int)) : (ev GG gm_coupletlaw20_Few lm_coupletlaw20_Few xb_coupletlaw20_Few_0 (sx_coupletlaw20_Few_0 x) (fun S => forgetT [0, 3] S fun S => prepT [0, 3] [] S fun S => .chk (sh_coupletlaw20_Few_0.ok S) (.leaf (.inl (sa_coupletlaw20_Few_0 S)))) kb_coupletlaw20_Few_0).run = st_coupletlaw20_Few_0 x.1 x.2.1 x.2.2.1 x.2.2.2 := by kernel_rfl
theorem la_coupletlaw20_Few_0 : LamAt Tryd.prog GG lm_coupletlaw20_Few 0 (.loop [0, 3] xb_coupletlaw20_Few_0.erase) := lam_loop (body := xb_coupletlaw20_Few_0) (Λ' := lm_coupletlaw20_Few) gk_coupletlaw20_Few (⟨⟨trivial, ⟨trivial, trivial⟩⟩, ⟨⟨trivial, ⟨⟨trivial, trivial⟩, trivial⟩⟩, trivial⟩⟩) (fun S => (by kernel_rfl : sh_coupletlaw20_Few_0.build S = sx_coupletlaw20_Few_0 (sa_coupletlaw20_Few_0 S))) kk_coupletlaw20_Few_0 sr_coupletlaw20_Few_0 (fun _ _ _ => rfl)
def go_coupletlaw20_Few (b0 : Bool) (b1 : Bool) (es2 : List PV) : Option Bool :=
  (lp_coupletlaw20_Few_0 b0 b1 es2 0).bind fun y7 =>
  Sum.elim (fun z8 =>
   some (decide ((((List.length z8.2.2) : Nat) : Int) ≤ 20))) (fun z9 =>
   some z9) y7
def em_coupletlaw20_Few (r : Bool) : PV := (.bool r)
def rh_coupletlaw20_Few : Shp := .bool
def ra_coupletlaw20_Few (v : PV) : Bool := v.tru
def kf_coupletlaw20_Few (v : PV) : Tree Bool := .chk (rh_coupletlaw20_Few.ok v) (.leaf (ra_coupletlaw20_Few v))
theorem rn_coupletlaw20_Few (b0 : Bool) (b1 : Bool) (es2 : List PV) : (ev GG gm_coupletlaw20_Few lm_coupletlaw20_Few xr_coupletlaw20_Few ⟨slots 33 0 [(0, .p (.sl b0 b1 5 es2))], []⟩ (fun S => finT Tryd.prog rs_coupletlaw20_Few S kf_coupletlaw20_Few) (retT Tryd.prog rs_coupletlaw20_Few kf_coupletlaw20_Few)).run = go_coupletlaw20_Few b0 b1 es2 := by kernel_rfl
theorem ok_coupletlaw20_Few (b0 : Bool) (b1 : Bool) (es2 : List PV) (r : Bool) (h : go_coupletlaw20_Few b0 b1 es2 = some r) : FunEq Tryd.prog GG 12 [(.sl b0 b1 5 es2)] (em_coupletlaw20_Few r) :=
  fun_of_ev (x := xr_coupletlaw20_Few) (Λ := lm_coupletlaw20_Few) gk_coupletlaw20_Few [[0, 3]] Tryd.func12 rfl (by kernel_rfl) ir_coupletlaw20_Few (by kernel_rfl) (congrArg Array.toList Tryd.results12) Tryd.ntmps12 (⟨trivial, ⟨⟨trivial, la_coupletlaw20_Few_0⟩, ⟨trivial, trivial⟩⟩⟩) (leaf_of fun v => (by kernel_rfl : rh_coupletlaw20_Few.build v = em_coupletlaw20_Few (ra_coupletlaw20_Few v))) (by kernel_rfl) ((rn_coupletlaw20_Few b0 b1 es2).trans h)
def as_coupletlaw20_Few : List Shp := [(.sl 5)]
def ga_coupletlaw20_Few (vs : List PV) : Option Bool := go_coupletlaw20_Few ((tls 0 vs).headD .nilSl).nl ((tls 0 vs).headD .nilSl).ex ((tls 0 vs).headD .nilSl).elts
theorem at_coupletlaw20_Few : FnAt Tryd.prog GG 12 as_coupletlaw20_Few ga_coupletlaw20_Few em_coupletlaw20_Few := fun vs h r hr => by
  have e : Shp.buildL as_coupletlaw20_Few vs = [(.sl ((tls 0 vs).headD .nilSl).nl ((tls 0 vs).headD .nilSl).ex 5 ((tls 0 vs).headD .nilSl).elts)] := by kernel_rfl
  rw [← Shp.buildL_eq _ h, e]
  exact .inl ⟨by decide, ok_coupletlaw20_Few _ _ _ r hr⟩
def xr_coupletref20_few : XR := (.seq (.ops false [⟨⟨(some 2), (.mv (.c (.bool false))), none⟩, none⟩]) (.seq (.ops false [⟨⟨(some 3), (.mv (.tmp 0)), none⟩, none⟩, ⟨⟨(some 4), (.bin .gtr (.tmp 3) (.c (.int .i64 (-10000000000000000)))), none⟩, none⟩, ⟨⟨(some 5), (.mv (.tmp 4)), none⟩, none⟩, ⟨⟨(some 6), (.mv (.tmp 0)), (some (5, true))⟩, none⟩, ⟨⟨(some 7), (.bin .lss (.tmp 6) (.c (.int .i64 (10000000000000000)))), (some (5, true))⟩, none⟩, ⟨⟨(some 8), (.pick (.tmp 5) (.tmp 7) (.c (.bool false))), none⟩, none⟩, ⟨⟨(some 2), (.mv (.tmp 8)), none⟩, none⟩]) .ret))
def rs_coupletref20_few : List ResultVar := [(.tmp 2)]
theorem ir_coupletref20_few : compCode Tryd.prog (Tryd.f22.body.getD .skip) [] = some (xr_coupletref20_few.erase, []) := by kernel_rfl
def gm_coupletref20_few : Gam := Gam.bot
theorem gk_coupletref20_few : GamOk Tryd.prog GG gm_coupletref20_few := GamOk.bot
def lm_coupletref20_few : Lam := fun _ j S kn ke => match j with
  | _ => .fail
def go_coupletref20_few (n0 : Int) : Option Bool :=
  bif (decide (n0 > (-10000000000000000))) then
   some (decide (n0 < 10000000000000000))
  else
   some false
def em_coupletref20_few (r : Bool) : PV := (.bool r)
def rh_coupletref20_few : Shp := .bool
def ra_coupletref20_few (v : PV) : Bool := v.tru
def kf_coupletref20_few (v : PV) : Tree Bool := .chk (rh_coupletref20_few.ok v) (.leaf (ra_coupletref20_few v))
theorem rn_coupletref20_few (n0 : Int) : (ev GG gm_coupletref20_few lm_coupletref20_few xr_coupletref20_few ⟨slots 9 0 [(0, .p (.int .i64 n0))], []⟩ (fun S => finT Tryd.prog rs_coupletref20_few S kf_coupletref20_few) (retT Tryd.prog rs_coupletref20_few kf_coupletref20_few)).run = go_coupletref20_few n0 := by kernel_rfl
theorem ok_coupletref20_few (n0 : Int) (r : Bool) (h : go_coupletref20_few n0 = some r) : FunEq Tryd.prog GG 22 [(.int .i64 n0)] (em_coupletref20_few r) :=
  fun_of_ev (x := xr_coupletref20_few) (Λ := lm_coupletref20_few) gk_coupletref20_few [] Tryd.func22 rfl (by kernel_rfl) ir_coupletref20_few (by kernel_rfl) (congrArg Array.toList Tryd.results22) Tryd.ntmps22 (⟨trivial, ⟨trivial, trivial⟩⟩) (leaf_of fun v => (by kernel_rfl : rh_coupletref20_few.build v = em_coupletref20_few (ra_coupletref20_few v))) (by kernel_rfl) ((rn_coupletref20_few n0).trans h)
def as_coupletref20_few : List Shp := [(.int .i64)]
def ga_coupletref20_few (vs : List PV) : Option Bool := go_coupletref20_few ((tls 0 vs).headD .nilSl).num
theorem at_coupletref20_few : FnAt Tryd.prog GG 22 as_coupletref20_few ga_coupletref20_few em_coupletref20_few := fun vs h r hr => by
  have e : Shp.buildL as_coupletref20_few vs = [(.int .i64 ((tls 0 vs).headD .nilSl).num)] := by kernel_rfl
  rw [← Shp.buildL_eq _ h, e]
  exact .inl ⟨by decide, ok_coupletref20_few _ r hr⟩
def xr_coupletref20_Right : XR := (.seq (.ops false [⟨⟨(some 1), (.box 31 (.tmp 0)), none⟩, none⟩, ⟨⟨(some 2), (.mv (.c (.bool false))), none⟩, none⟩]) (.seq (.ops false [⟨⟨(some 4), (.fldA 2 (.tmp 1)), none⟩, none⟩, ⟨⟨(some 5), (.ld false 1 (.tmp 4)), none⟩, (some (.int .i64))⟩, ⟨⟨(some 6), (.bin .eql (.tmp 5) (.c (.int .i64 (0)))), none⟩, none⟩, ⟨⟨(some 7), (.mv (.tmp 6)), none⟩, none⟩, ⟨⟨(some 8), (.fldA 3 (.tmp 1)), (some (7, true))⟩, none⟩, ⟨⟨(some 9), (.ld false 1 (.tmp 8)), (some (7, true))⟩, (some (.int .i64))⟩, ⟨⟨(some 10), (.bin .eql (.tmp 9) (.c (.int .i64 (0)))), (some (7, true))⟩, none⟩, ⟨⟨(some 11), (.pick (.tmp 7) (.tmp 10) (.c (.bool false))), none⟩, none⟩, ⟨⟨(some 12), (.mv (.tmp 11)), none⟩, none⟩, ⟨⟨(some 13), (.fldA 4 (.tmp 1)), (some (12, true))⟩, none⟩, ⟨⟨(some 14), (.ld false 1 (.tmp 13)), (some (12, true))⟩, (some (.int .i64))⟩, ⟨⟨(some 15), (.bin .eql (.tmp 14) (.c (.int .i64 (0)))), (some (12, true))⟩, none⟩, ⟨⟨(some 16), (.pick (.tmp 12) (.tmp 15) (.c (.bool false))), none⟩, none⟩, ⟨⟨(some 3), (.mv (.tmp 16)), none⟩, none⟩]) (.seq (.seq (.ops false [⟨⟨(some 17), (.fldA 0 (.tmp 1)), none⟩, none⟩, ⟨⟨(some 18), (.ld false 1 (.tmp 17)), none⟩, (some .str)⟩, ⟨⟨(some 19), (.binS .eql (.tmp 18) (.c (.str [(102), (101), (101), (100)]))), none⟩, none⟩]) (.cond (.tmp 19) (.seq (.ops false [⟨⟨(some 20), (.mv (.tmp 3)), none⟩, none⟩, ⟨⟨(some 21), (.mv (.tmp 20)), none⟩, none⟩, ⟨⟨(some 22), (.fldA 1 (.tmp 1)), (some (21, true))⟩, none⟩, ⟨⟨(some 23), (.ld false 1 (.tmp 22)), (some (21, true))⟩, (some (.isl .u8))⟩, ⟨⟨(some 24), (.len (.tmp 23)), (some (21, true))⟩, none⟩, ⟨⟨(some 25), (.bin .gtr (.tmp 24) (.c (.int .i64 (0)))), (some (21, true))⟩, none⟩, ⟨⟨(some 26), (.pick (.tmp 21) (.tmp 25) (.c (.bool false))), none⟩, none⟩, ⟨⟨(some 27), (.mv (.tmp 26)), none⟩, none⟩, ⟨⟨(some 28), (.fldA 1 (.tmp 1)), (some (27, true))⟩, none⟩, ⟨⟨(some 29), (.ld false 1 (.tmp 28)), (some (27, true))⟩, (some (.isl .u8))⟩, ⟨⟨(some 30), (.len (.tmp 29)), (some (27, true))⟩, none⟩, ⟨⟨(some 31), (.bin .leq (.tmp 30) (.c (.int .i64 (600)))), (some (27, true))⟩, none⟩, ⟨⟨(some 32), (.pick (.tmp 27) (.tmp 31) (.c (.bool false))), none⟩, none⟩, ⟨⟨(some 2), (.mv (.tmp 32)), none⟩, none⟩]) .ret) .skip)) (.seq (.seq (.ops false [⟨⟨(some 33), (.fldA 1 (.tmp 1)), none⟩, none⟩, ⟨⟨(some 34), (.ld false 1 (.tmp 33)), none⟩, (some (.isl .u8))⟩, ⟨⟨(some 35), (.len (.tmp 34)), none⟩, none⟩, ⟨⟨(some 36), (.bin .gtr (.tmp 35) (.c (.int .i64 (0)))), none⟩, none⟩]) (.cond (.tmp 36) (.seq (.ops false [⟨⟨(some 2), (.mv (.c (.bool false))), none⟩, none⟩]) .ret) .skip)) (.seq (.ops false [⟨⟨(some 37), (.fldA 0 (.tmp 1)), none⟩, none⟩, ⟨⟨(some 38), (.ld false 1 (.tmp 37)), none⟩, (some .str)⟩, ⟨⟨(some 39), (.binS .eql (.tmp 38) (.c (.str [(114), (101), (115), (101), (116)]))), none⟩, none⟩, ⟨⟨(some 40), (.mv (.tmp 39)), none⟩, none⟩, ⟨⟨(some 41), (.mv (.tmp 3)), (some (40, true))⟩, none⟩, ⟨⟨(some 42), (.pick (.tmp 40) (.tmp 41) (.c (.bool false))), none⟩, none⟩, ⟨⟨(some 43), (.mv (.tmp 42)), none⟩, none⟩, ⟨⟨(some 44), (.fldA 0 (.tmp 1)), (some (43, false))⟩, none⟩, ⟨⟨(some 45), (.ld false 1 (.tmp 44)), (some (43, false))⟩, (some .str)⟩, ⟨⟨(some 46), (.binS .eql (.tmp 45) (.c (.str [(102), (97), (117), (108), (116)]))), (some (43, false))⟩, none⟩, ⟨⟨(some 47), (.mv (.tmp 46)), (some (43, false))⟩, none⟩, ⟨⟨(some 48), (.fldA 2 (.tmp 1)), (some (47, true))⟩, none⟩, ⟨⟨(some 49), (.ld false 1 (.tmp 48)), (some (47, true))⟩, (some (.int .i64))⟩, ⟨⟨(some 50), (.call (.func 22) [(.tmp 49)]), (some (47, true))⟩, none⟩, ⟨⟨(some 51), (.pick (.tmp 47) (.tmp 50) (.c (.bool false))), (some (43, false))⟩, none⟩, ⟨⟨(some 52), (.mv (.tmp 51)), (some (43, false))⟩, none⟩, ⟨⟨(some 53), (.fldA 3 (.tmp 1)), (some (52, true))⟩, none⟩, ⟨⟨(some 54), (.ld false 1 (.tmp 53)), (some (52, true))⟩, (some (.int .i64))⟩, ⟨⟨(some 55), (.call (.func 22) [(.tmp 54)]), (some (52, true))⟩, none⟩, ⟨⟨(some 56), (.pick (.tmp 52) (.tmp 55) (.c (.bool false))), (some (43, false))⟩, none⟩, ⟨⟨(some 57), (.mv (.tmp 56)), (some (43, false))⟩, none⟩, ⟨⟨(some 58), (.fldA 4 (.tmp 1)), (some (57, true))⟩, none⟩, ⟨⟨(some 59), (.ld false 1 (.tmp 58)), (some (57, true))⟩, (some (.int .i64))⟩, ⟨⟨(some 60), (.call (.func 22) [(.tmp 59)]), (some (57, true))⟩, none⟩, ⟨⟨(some 61), (.pick (.tmp 57) (.tmp 60) (.c (.bool false))), (some (43, false))⟩, none⟩, ⟨⟨(some 62), (.pick (.tmp 43) (.c (.bool true)) (.tmp 61)), none⟩, none⟩, ⟨⟨(some 2), (.mv (.tmp 62)), none⟩, none⟩]) .ret)))))
def rs_coupletref20_Right : List ResultVar := [(.tmp 2)]
theorem ir_coupletref20_Right : compCode Tryd.prog (Tryd.f13.body.getD .skip) [] = some (xr_coupletref20_Right.erase, []) := by kernel_rfl
def gm_coupletref20_Right : Gam := (Gam.fn 22 as_coupletref20_few ga_coupletref20_few em_coupletref20_few Gam.bot)
theorem gk_coupletref20_Right : GamOk Tryd.prog GG gm_coupletref20_Right := (GamOk.fn at_coupletref20_few GamOk.bot)
def lm_coupletref20_Right : Lam := fun _ j S kn ke => match j with
  | _ => .fail
def go_coupletref20_Right (l0 : List Int) (b1 : Bool) (b2 : Bool) (l3 : List Int) (n4 : Int) (n5 : Int) (n6 : Int) : Option Bool :=
  bif (n4 == 0) then
   bif (n5 == 0) then
    bif (l0 == [102, 101, 101, 100]) then
     bif (n6 == 0) then
      bif (decide ((((List.length l3) : Nat) : Int) > 0)) then
       some (decide ((((List.length l3) : Nat) : Int) ≤ 600))
      else
       some false
     else
      some false
    else
     bif (decide ((((List.length l3) : Nat) : Int) > 0)) then
      some false
     else
      bif (l0 == [114, 101, 115, 101, 116]) then
       bif (n6 == 0) then
        some true
       else
        bif (l0 == [102, 97, 117, 108, 116]) then
         (go_coupletref20_few n4).bind fun r7 =>
         bif r7 then
          (go_coupletref20_few n5).bind fun r8 =>
          bif r8 then
           (go_coupletref20_few n6).bind fun r9 =>
           some r9
          else
           some false
         else
          some false
        else
         some false
      else
       bif (l0 == [102, 97, 117, 108, 116]) then
        (go_coupletref20_few n4).bind fun r10 =>
        bif r10 then
         (go_coupletref20_few n5).bind fun r11 =>
         bif r11 then
          (go_coupletref20_few n6).bind fun r12 =>
          some r12
         else
          some false
        else
         some false
       else
        some false
   else
    bif (l0 == [102, 101, 101, 100]) then
     some false
    else
     bif (decide ((((List.length l3) : Nat) : Int) > 0)) then
      some false
     else
      bif (l0 == [114, 101, 115, 101, 116]) then
       bif (l0 == [102, 97, 117, 108, 116]) then
        (go_coupletref20_few n4).bind fun r13 =>
        bif r13 then
         (go_coupletref20_few n5).bind fun r14 =>
         bif r14 then
          (go_coupletref20_few n6).bind fun r15 =>
          some r15
         else
          some false
        else
         some false
       else
        some false
      else
       bif (l0 == [102, 97, 117, 108, 116]) then
        (go_coupletref20_few n4).bind fun r16 =>
        bif r16 then
         (go_coupletref20_few n5).bind fun r17 =>
         bif r17 then
          (go_coupletref20_few n6).bind fun r18 =>
          some r18
         else
          some false
        else
         some false
       else
        some false
  else
   bif (l0 == [102, 101, 101, 100]) then
    some false
   else
    bif (decide ((((List.length l3) : Nat) : Int) > 0)) then
     some false
    else
     bif (l0 == [114, 101, 115, 101, 116]) then
      bif (l0 == [102, 97, 117, 108, 116]) then
       (go_coupletref20_few n4).bind fun r19 =>
       bif r19 then
        (go_coupletref20_few n5).bind fun r20 =>
        bif r20 then
         (go_coupletref20_few n6).bind fun r21 =>
         some r21
        else
         some false
       else
        some false
      else
       some false
     else
      bif (l0 == [102, 97, 117, 108, 116]) then
       (go_coupletref20_few n4).bind fun r22 =>
       bif r22 then
        (go_coupletref20_few n5).bind fun r23 =>
        bif r23 then
         (go_coupletref20_few n6).bind fun r24 =>
         some r24
        else
         some false
       else
        some false
      else
       some false
def em_coupletref20_Right (r : Bool) : PV := (.bool r)
def rh_coupletref20_Right : Shp := .bool
def ra_coupletref20_Right (v : PV) : Bool := v.tru
def kf_coupletref20_Right (v : PV) : Tree Bool := .chk (rh_coupletref20_Right.ok v) (.leaf (ra_coupletref20_Right v))
theorem rn_coupletref20_Right (l0 : List Int) (b1 : Bool) (b2 : Bool) (l3 : List Int) (n4 : Int) (n5 : Int) (n6 : Int) : (ev GG gm_coupletref20_Right lm_coupletref20_Right xr_coupletref20_Right ⟨slots 63 0 [(0, .p (.agg [(.str l0), (.isl b1 b2 .u8 l3), (.int .i64 n4), (.int .i64 n5), (.int .i64 n6)]))], []⟩ (fun S => finT Tryd.prog rs_coupletref20_Right S kf_coupletref20_Right) (retT Tryd.prog rs_coupletref20_Right kf_coupletref20_Right)).run = go_coupletref20_Right l0 b1 b2 l3 n4 n5 n6 := by kernel_rfl
theorem ok_coupletref20_Right (l0 : List Int) (b1 : Bool) (b2 : Bool) (l3 : List Int) (n4 : Int) (n5 : Int) (n6 : Int) (r : Bool) (h : go_coupletref20_Right l0 b1 b2 l3 n4 n5 n6 = some r) : FunEq Tryd.prog GG 13 [(.agg [(.str l0), (.isl b1 b2 .u8 l3), (.int .i64 n4), (.int .i64 n5), (.int .i64 n6)])] (em_coupletref20_Right r) :=
  fun_of_ev (x := xr_coupletref20_Right) (Λ := lm_coupletref20_Right) gk_coupletref20_Right [] Tryd.func13 rfl (by kernel_rfl) ir_coupletref20_Right (by kernel_rfl) (congrArg Array.toList Tryd.results13) Tryd.ntmps13 (⟨trivial, ⟨trivial, ⟨⟨trivial, ⟨⟨trivial, trivial⟩, trivial⟩⟩, ⟨⟨trivial, ⟨⟨trivial, trivial⟩, trivial⟩⟩, ⟨trivial, trivial⟩⟩⟩⟩⟩) (leaf_of fun v => (by kernel_rfl : rh_coupletref20_Right.build v = em_coupletref20_Right (ra_coupletref20_Right v))) (by kernel_rfl) ((rn_coupletref20_Right l0 b1 b2 l3 n4 n5 n6).trans h)
def as_coupletref20_Right : List Shp := [(.agg [.str, (.isl .u8), (.int .i64), (.int .i64), (.int .i64)])]
def ga_coupletref20_Right (vs : List PV) : Option Bool := go_coupletref20_Right (((tls 0 vs).headD .nilSl).subs.headD .nilSl).chars (((tls 0 vs).headD .nilSl).subs.tail.headD .nilSl).nl (((tls 0 vs).headD .nilSl).subs.tail.headD .nilSl).ex (((tls 0 vs).headD .nilSl).subs.tail.headD .nilSl).ints (((tls 0 vs).headD .nilSl).subs.tail.tail.headD .nilSl).num (((tls 0 vs).headD .nilSl).subs.tail.tail.tail.headD .nilSl).num (((tls 0 vs).headD .nilSl).subs.tail.tail.tail.tail.headD .nilSl).num
theorem at_coupletref20_Right : FnAt Tryd.prog GG 13 as_coupletref20_Right ga_coupletref20_Right em_coupletref20_Right := fun vs h r hr => by
  have e : Shp.buildL as_coupletref20_Right vs = [(.agg [(.str (((tls 0 vs).headD .nilSl).subs.headD .nilSl).chars), (.isl (((tls 0 vs).headD .nilSl).subs.tail.headD .nilSl).nl (((tls 0 vs).headD .nilSl).subs.tail.headD .nilSl).ex .u8 (((tls 0 vs).headD .nilSl).subs.tail.headD .nilSl).ints), (.int .i64 (((tls 0 vs).headD .nilSl).subs.tail.tail.headD .nilSl).num), (.int .i64 (((tls 0 vs).headD .nilSl).subs.tail.tail.tail.headD .nilSl).num), (.int .i64 (((tls 0 vs).headD .nilSl).subs.tail.tail.tail.tail.headD .nilSl).num)])] := by kernel_rfl
  rw [← Shp.buildL_eq _ h, e]
  exact .inl ⟨by decide, ok_coupletref20_Right _ _ _ _ _ _ _ r hr⟩
def xb_coupletlaw20_FlightPrints_0 : XR := (.seq (.ops false [⟨⟨(some 21), (.bin .lss (.tmp 20) (.tmp 19)), none⟩, none⟩]) (.seq (.cond (.tmp 21) .skip (.exit 0)) (.seq (.block 1 (.seq (.ops false [⟨⟨(some 22), (.ixA 5 (.tmp 18) (.tmp 20)), none⟩, none⟩, ⟨⟨(some 23), (.ld true 5 (.tmp 22)), none⟩, (some (.agg [.str, (.isl .u8), (.int .i64), (.int .i64), (.int .i64)]))⟩, ⟨⟨(some 5), (.alloc 35 [(.str []), (.isl true true .u8 []), (.int .i64 (0)), (.int .i64 (0)), (.int .i64 (0))]), none⟩, none⟩, ⟨⟨none, (.st 5 (.tmp 5) (.tmp 23)), none⟩, none⟩]) (.seq (.ops false [⟨⟨(some 24), (.fldA 0 (.tmp 5)), none⟩, none⟩, ⟨⟨(some 25), (.ld false 1 (.tmp 24)), none⟩, (some .str)⟩, ⟨⟨(some 26), (.fldA 1 (.tmp 5)), none⟩, none⟩, ⟨⟨(some 27), (.ld false 1 (.tmp 26)), none⟩, (some (.isl .u8))⟩, ⟨⟨(some 28), (.fldA 2 (.tmp 5)), none⟩, none⟩, ⟨⟨(some 29), (.ld false 1 (.tmp 28)), none⟩, (some (.int .i64))⟩, ⟨⟨(some 30), (.fldA 3 (.tmp 5)), none⟩, none⟩, ⟨⟨(some 31), (.ld false 1 (.tmp 30)), none⟩, (some (.int .i64))⟩, ⟨⟨(some 32), (.fldA 4 (.tmp 5)), none⟩, none⟩, ⟨⟨(some 33), (.ld false 1 (.tmp 32)), none⟩, (some (.int .i64))⟩, ⟨⟨(some 34), (.build [(.str []), (.isl true true .u8 []), (.int .i64 (0)), (.int .i64 (0)), (.int .i64 (0))] [(0, (1, (.tmp 25))), (1, (1, (.tmp 27))), (2, (1, (.tmp 29))), (3, (1, (.tmp 31))), (4, (1, (.tmp 33)))]), none⟩, none⟩, ⟨⟨(some 35), (.call (.func 13) [(.tmp 34)]), none⟩, none⟩, ⟨⟨(some 6), (.mv (.tmp 35)), none⟩, none⟩]) (.seq (.seq (.ops false [⟨⟨(some 36), (.ld true 5 (.tmp 5)), none⟩, (some (.agg [.str, (.isl .u8), (.int .i64), (.int .i64), (.int .i64)]))⟩, ⟨⟨(some 37), (.call (.func 14) [(.tmp 36)]), none⟩, none⟩, ⟨⟨(some 38), (.mv (.tmp 6)), none⟩, none⟩, ⟨⟨(some 39), (.binB true (.tmp 37) (.tmp 38)), none⟩, none⟩]) (.cond (.tmp 39) (.seq (.ops false [⟨⟨(some 2), (.mv (.c (.bool false))), none⟩, none⟩]) .ret) .skip)) (.ops false [⟨⟨(some 40), (.mv (.tmp 3)), none⟩, none⟩, ⟨⟨(some 41), (.mv (.tmp 40)), none⟩, none⟩, ⟨⟨(some 42), (.mv (.tmp 6)), (some (41, true))⟩, none⟩, ⟨⟨(some 43), (.pick (.tmp 41) (.tmp 42) (.c (.bool false))), none⟩, none⟩, ⟨⟨(some 3), (.mv (.tmp 43)), none⟩, none⟩]))))) (.ops false [⟨⟨(some 44), (.bin .add (.tmp 20) (.c (.int .i64 (1)))), none⟩, none⟩, ⟨⟨(some 20), (.mv (.tmp 44)), none⟩, none⟩]))))
def xb_coupletlaw20_FlightPrints_1 : XR := (.seq (.ops false [⟨⟨(some 90), (.bin .lss (.tmp 89) (.tmp 88)), none⟩, none⟩]) (.seq (.cond (.tmp 90) .skip (.exit 2)) (.seq (.block 3 (.seq (.ops false [⟨⟨(some 91), (.mv (.tmp 89)), none⟩, none⟩, ⟨⟨(some 92), (.ixA 5 (.tmp 87) (.tmp 89)), none⟩, none⟩, ⟨⟨(some 93), (.ld true 5 (.tmp 92)), none⟩, (some (.agg [.str, (.isl .u8), (.int .i64), (.int .i64), (.int .i64)]))⟩, ⟨⟨(some 13), (.alloc 35 [(.str []), (.isl true true .u8 []), (.int .i64 (0)), (.int .i64 (0)), (.int .i64 (0))]), none⟩, none⟩, ⟨⟨(some 12), (.mv (.tmp 91)), none⟩, none⟩, ⟨⟨none, (.st 5 (.tmp 13) (.tmp 93)), none⟩, none⟩]) (.seq (.ops true [⟨⟨(some 94), (.mv (.tmp 9)), none⟩, none⟩, ⟨⟨(some 95), (.mv (.tmp 12)), none⟩, none⟩, ⟨⟨(some 96), (.ixA 5 (.tmp 94) (.tmp 95)), none⟩, none⟩, ⟨⟨(some 97), (.ld true 5 (.tmp 96)), none⟩, (some (.agg [.str, (.isl .u8), (.int .i64), (.int .i64), (.int .i64)]))⟩, ⟨⟨(some 98), (.fldA 0 (.tmp 13)), none⟩, none⟩, ⟨⟨(some 99), (.ld false 1 (.tmp 98)), none⟩, (some .str)⟩, ⟨⟨(some 100), (.fldA 1 (.tmp 13)), none⟩, none⟩, ⟨⟨(some 101), (.ld false 1 (.tmp 100)), none⟩, (some (.isl .u8))⟩, ⟨⟨(some 102), (.fldA 2 (.tmp 13)), none⟩, none⟩, ⟨⟨(some 103), (.ld false 1 (.tmp 102)), none⟩, (some (.int .i64))⟩, ⟨⟨(some 104), (.fldA 3 (.tmp 13)), none⟩, none⟩, ⟨⟨(some 105), (.ld false 1 (.tmp 104)), none⟩, (some (.int .i64))⟩, ⟨⟨(some 106), (.fldA 4 (.tmp 13)), none⟩, none⟩, ⟨⟨(some 107), (.ld false 1 (.tmp 106)), none⟩, (some (.int .i64))⟩, ⟨⟨(some 108), (.build [(.str []), (.isl true true .u8 []), (.int .i64 (0)), (.int .i64 (0)), (.int .i64 (0))] [(0, (1, (.tmp 99))), (1, (1, (.tmp 101))), (2, (1, (.tmp 103))), (3, (1, (.tmp 105))), (4, (1, (.tmp 107)))]), none⟩, none⟩, ⟨⟨(some 109), (.call (.func 11) [(.tmp 97), (.tmp 108)]), none⟩, none⟩, ⟨⟨(some 110), (.un .not (.tmp 109)), none⟩, none⟩]) (.cond (.tmp 110) (.seq (.ops false [⟨⟨(some 2), (.mv (.c (.bool false))), none⟩, none⟩]) .ret) .skip)))) (.ops false [⟨⟨(some 111), (.bin .add (.tmp 89) (.c (.int .i64 (1)))), none⟩, none⟩, ⟨⟨(some 89), (.mv (.tmp 111)), none⟩, none⟩]))))
def xr_coupletlaw20_FlightPrints : XR := (.seq (.ops false [⟨⟨(some 2), (.mv (.c (.bool false))), none⟩, none⟩]) (.seq (.seq (.ops false [⟨⟨(some 14), (.mv (.tmp 0)), none⟩, none⟩, ⟨⟨(some 15), (.call (.func 12) [(.tmp 14)]), none⟩, none⟩, ⟨⟨(some 16), (.un .not (.tmp 15)), none⟩, none⟩]) (.cond (.tmp 16) (.seq (.ops false [⟨⟨(some 17), (.call (.func 7) []), none⟩, none⟩, ⟨⟨(some 2), (.mv (.tmp 17)), none⟩, none⟩]) .ret) .skip)) (.seq (.ops false [⟨⟨(some 3), (.mv (.c (.bool true))), none⟩, none⟩]) (.seq (.seq (.ops false [⟨⟨(some 18), (.mv (.tmp 0)), none⟩, none⟩, ⟨⟨(some 19), (.len (.tmp 18)), none⟩, none⟩, ⟨⟨(some 20), (.mv (.c (.int .i64 (0)))), none⟩, none⟩]) (.block 0 (.loop 0 [0, 3, 18, 19, 20] xb_coupletlaw20_FlightPrints_0))) (.seq (.ops false [⟨⟨(some 46), (.mv (.tmp 0)), none⟩, none⟩, ⟨⟨(some 47), (.call (.func 15) [(.tmp 46)]), none⟩, none⟩, ⟨⟨(some 45), (.mv (.tmp 47)), none⟩, none⟩, ⟨⟨(some 48), (.ext (.tmp 45) 0), none⟩, none⟩, ⟨⟨(some 49), (.ext (.tmp 45) 1), none⟩, none⟩, ⟨⟨(some 7), (.mv (.tmp 48)), none⟩, none⟩, ⟨⟨(some 8), (.mv (.tmp 49)), none⟩, none⟩]) (.seq (.seq (.ops false [⟨⟨(some 50), (.mv (.tmp 3)), none⟩, none⟩, ⟨⟨(some 51), (.un .not (.tmp 50)), none⟩, none⟩]) (.cond (.tmp 51) (.seq (.ops false [⟨⟨(some 52), (.mv (.tmp 7)), none⟩, none⟩, ⟨⟨(some 53), (.binS .eql (.tmp 52) (.c (.str []))), none⟩, none⟩, ⟨⟨(some 54), (.mv (.tmp 53)), none⟩, none⟩, ⟨⟨(some 55), (.mv (.tmp 8)), (some (54, true))⟩, none⟩, ⟨⟨(some 56), (.bin .eql (.tmp 55) (.c (.int .i64 (1)))), (some (54, true))⟩, none⟩, ⟨⟨(some 57), (.pick (.tmp 54) (.tmp 56) (.c (.bool false))), none⟩, none⟩, ⟨⟨(some 58), (.mv (.tmp 57)), none⟩, none⟩, ⟨⟨(some 59), (.call (.func 7) []), (some (58, true))⟩, none⟩, ⟨⟨(some 60), (.pick (.tmp 58) (.tmp 59) (.c (.bool false))), none⟩, none⟩, ⟨⟨(some 2), (.mv (.tmp 60)), none⟩, none⟩]) .ret) .skip)) (.seq (.ops false [⟨⟨(some 62), (.mv (.tmp 7)), none⟩, none⟩, ⟨⟨(some 63), (.call (.func 8) [(.tmp 62)]), none⟩, none⟩, ⟨⟨(some 61), (.mv (.tmp 63)), none⟩, none⟩, ⟨⟨(some 64), (.ext (.tmp 61) 0), none⟩, none⟩, ⟨⟨(some 65), (.ext (.tmp 61) 1), none⟩, none⟩, ⟨⟨(some 66), (.ext (.tmp 61) 2), none⟩, none⟩, ⟨⟨(some 9), (.mv (.tmp 64)), none⟩, none⟩, ⟨⟨(some 10), (.mv (.tmp 65)), none⟩, none⟩, ⟨⟨(some 11), (.mv (.tmp 66)), none⟩, none⟩]) (.seq (.seq (.ops false [⟨⟨(some 67), (.mv (.tmp 8)), none⟩, none⟩, ⟨⟨(some 68), (.bin .neq (.tmp 67) (.c (.int .i64 (0)))), none⟩, none⟩, ⟨⟨(some 69), (.mv (.tmp 68)), none⟩, none⟩, ⟨⟨(some 70), (.mv (.tmp 11)), (some (69, false))⟩, none⟩, ⟨⟨(some 71), (.bin .neq (.tmp 70) (.c (.int .i64 (0)))), (some (69, false))⟩, none⟩, ⟨⟨(some 72), (.pick (.tmp 69) (.c (.bool true)) (.tmp 71)), none⟩, none⟩, ⟨⟨(some 73), (.mv (.tmp 72)), none⟩, none⟩, ⟨⟨(some 74), (.mv (.tmp 9)), (some (73, false))⟩, none⟩, ⟨⟨(some 75), (.len (.tmp 74)), (some (73, false))⟩, none⟩, ⟨⟨(some 76), (.mv (.tmp 0)), (some (73, false))⟩, none⟩, ⟨⟨(some 77), (.len (.tmp 76)), (some (73, false))⟩, none⟩, ⟨⟨(some 78), (.bin .neq (.tmp 75) (.tmp 77)), (some (73, false))⟩, none⟩, ⟨⟨(some 79), (.pick (.tmp 73) (.c (.bool true)) (.tmp 78)), none⟩, none⟩, ⟨⟨(some 80), (.mv (.tmp 79)), none⟩, none⟩, ⟨⟨(some 81), (.mv (.tmp 10)), (some (80, false))⟩, none⟩, ⟨⟨(some 82), (.mv (.tmp 0)), (some (80, false))⟩, none⟩, ⟨⟨(some 83), (.len (.tmp 82)), (some (80, false))⟩, none⟩, ⟨⟨(some 84), (.maxs [(.tmp 83), (.c (.int .i64 (1)))]), (some (80, false))⟩, none⟩, ⟨⟨(some 85), (.bin .neq (.tmp 81) (.tmp 84)), (some (80, false))⟩, none⟩, ⟨⟨(some 86), (.pick (.tmp 80) (.c (.bool true)) (.tmp 85)), none⟩, none⟩]) (.cond (.tmp 86) (.seq (.ops false [⟨⟨(some 2), (.mv (.c (.bool false))), none⟩, none⟩]) .ret) .skip)) (.seq (.seq (.ops false [⟨⟨(some 87), (.mv (.tmp 0)), none⟩, none⟩, ⟨⟨(some 88), (.len (.tmp 87)), none⟩, none⟩, ⟨⟨(some 89), (.mv (.c (.int .i64 (0)))), none⟩, none⟩]) (.block 2 (.loop 1 [9, 87, 88, 89] xb_coupletlaw20_FlightPrints_1))) (.seq (.ops false [⟨⟨(some 112), (.call (.func 7) []), none⟩, none⟩, ⟨⟨(some 2), (.mv (.tmp 112)), none⟩, none⟩]) .ret))))))))))
def rs_coupletlaw20_FlightPrints : List ResultVar := [(.tmp 2)]
theorem ir_coupletlaw20_FlightPrints : compCode Tryd.prog (Tryd.f4.body.getD .skip) [[0, 3, 18, 19, 20], [9, 87, 88, 89]] = some (xr_coupletlaw20_FlightPrints.erase, []) := by kernel_rfl
def gm_coupletlaw20_FlightPrints : Gam := (Gam.fn 12 as_coupletlaw20_Few ga_coupletlaw20_Few em_coupletlaw20_Few (Gam.fn 7 as_coupletlaw20_awake ga_coupletlaw20_awake em_coupletlaw20_awake (Gam.fn 13 as_coupletref20_Right ga_coupletref20_Right em_coupletref20_Right (Gam.fn 14 as_flight_Right ga_flight_Right em_flight_Right (Gam.fn 15 as_flight_Print ga_flight_Print em_flight_Print (Gam.fn 8 as_flight_Parse ga_flight_Parse em_flight_Parse (Gam.fn 11 as_coupletlaw20_same ga_coupletlaw20_same em_coupletlaw20_same Gam.bot)))))))
theorem gk_coupletlaw20_FlightPrints : GamOk Tryd.prog GG gm_coupletlaw20_FlightPrints := (GamOk.fn at_coupletlaw20_Few (GamOk.fn at_coupletlaw20_awake (GamOk.fn at_coupletref20_Right (GamOk.fn at_flight_Right (GamOk.fn at_flight_Print (GamOk.fn at_flight_Parse (GamOk.fn at_coupletlaw20_same GamOk.bot)))))))
def st_coupletlaw20_FlightPrints_1 (b21 : Bool) (b22 : Bool) (es23 : List PV) (b24 : Bool) (b25 : Bool) (es26 : List PV) (n27 : Int) (n28 : Int) : Option (((Bool × Bool × List PV × Bool × Bool × List PV × Int × Int)) ⊕ ((Unit) ⊕ (Bool))) :=
  bif (decide (n28 < n27)) then
   bif (decide (0 ≤ n28)) then
    bif (decide (n28 < (((List.length es26) : Nat) : Int))) then
     bif (decide ((Int.toNat n28) < (List.length es26))) then
      bif (decide ((List.length (PV.cells (List.getD es26 (Int.toNat n28) .nilSl))) = 5)) then
       bif (Shp.ok (.agg [.str, (.isl .u8), (.int .i64), (.int .i64), (.int .i64)]) (.agg (PV.cells (List.getD es26 (Int.toNat n28) .nilSl)))) then
        bif (decide (0 ≤ n28)) then
         bif (decide (n28 < (((List.length es23) : Nat) : Int))) then
          bif (decide ((Int.toNat n28) < (List.length es23))) then
           bif (decide ((List.length (PV.cells (List.getD es23 (Int.toNat n28) .nilSl))) = 5)) then
            bif (Shp.ok (.agg [.str, (.isl .u8), (.int .i64), (.int .i64), (.int .i64)]) (.agg (PV.cells (List.getD es23 (Int.toNat n28) .nilSl)))) then
             (go_coupletlaw20_same (PV.chars (List.headD (PV.subs (.agg (PV.cells (List.getD es23 (Int.toNat n28) .nilSl)))) .nilSl)) (PV.nl (List.headD (List.tail (PV.subs (.agg (PV.cells (List.getD es23 (Int.toNat n28) .nilSl))))) .nilSl)) (PV.ex (List.headD (List.tail (PV.subs (.agg (PV.cells (List.getD es23 (Int.toNat n28) .nilSl))))) .nilSl)) (PV.ints (List.headD (List.tail (PV.subs (.agg (PV.cells (List.getD es23 (Int.toNat n28) .nilSl))))) .nilSl)) (PV.num (List.headD (List.tail (List.tail (PV.subs (.agg (PV.cells (List.getD es23 (Int.toNat n28) .nilSl)))))) .nilSl)) (PV.num (List.headD (List.tail (List.tail (List.tail (PV.subs (.agg (PV.cells (List.getD es23 (Int.toNat n28) .nilSl))))))) .nilSl)) (PV.num (List.headD (List.tail (List.tail (List.tail (List.tail (PV.subs (.agg (PV.cells (List.getD es23 (Int.toNat n28) .nilSl)))))))) .nilSl)) (PV.chars (List.headD (PV.subs (.agg (PV.cells (List.getD es26 (Int.toNat n28) .nilSl)))) .nilSl)) (PV.nl (List.headD (List.tail (PV.subs (.agg (PV.cells (List.getD es26 (Int.toNat n28) .nilSl))))) .nilSl)) (PV.ex (List.headD (List.tail (PV.subs (.agg (PV.cells (List.getD es26 (Int.toNat n28) .nilSl))))) .nilSl)) (PV.ints (List.headD (List.tail (PV.subs (.agg (PV.cells (List.getD es26 (Int.toNat n28) .nilSl))))) .nilSl)) (PV.num (List.headD (List.tail (List.tail (PV.subs (.agg (PV.cells (List.getD es26 (Int.toNat n28) .nilSl)))))) .nilSl)) (PV.num (List.headD (List.tail (List.tail (List.tail (PV.subs (.agg (PV.cells (List.getD es26 (Int.toNat n28) .nilSl))))))) .nilSl)) (PV.num (List.headD (List.tail (List.tail (List.tail (List.tail (PV.subs (.agg (PV.cells (List.getD es26 (Int.toNat n28) .nilSl)))))))) .nilSl))).bind fun r29 =>
             bif (!r29) then
              some (Sum.inr (Sum.inr false))
             else
              some (Sum.inl (b21, b22, es23, b24, b25, es26, n27, (IntKind.wrap .i64 (n28 + 1))))
            else none
           else none
          else none
         else none
        else none
       else none
      else none
     else none
    else none
   else none
  else
   some (Sum.inr (Sum.inl ()))
def lp_coupletlaw20_FlightPrints_1 (b21 : Bool) (b22 : Bool) (es23 : List PV) (b24 : Bool) (b25 : Bool) (es26 : List PV) (n27 : Int) (n28 : Int) : Option ((Unit) ⊕ (Bool)) := loopN (X := (Bool × Bool × List PV × Bool × Bool × List PV × Int × Int)) (fun x => st_coupletlaw20_FlightPrints_1 x.1 x.2.1 x.2.2.1 x.2.2.2.1 x.2.2.2.2.1 x.2.2.2.2.2.1 x.2.2.2.2.2.2.1 x.2.2.2.2.2.2.2) (b21, b22, es23, b24, b25, es26, n27, n28)
def sh_coupletlaw20_FlightPrints_1 : StSh := ⟨113, [(9, (.p (.sl 5))), (87, (.p (.sl 5))), (88, (.p (.int .i64))), (89, (.p (.int .i64)))], []⟩
def sx_coupletlaw20_FlightPrints_1 (x : (Bool × Bool × List PV × Bool × Bool × List PV × Int × Int)) : St := ⟨slots 113 0 [(9, (.p (.sl x.1 x.2.1 5 x.2.2.1))), (87, (.p (.sl x.2.2.2.1 x.2.2.2.2.1 5 x.2.2.2.2.2.1))), (88, (.p (.int .i64 x.2.2.2.2.2.2.1))), (89, (.p (.int .i64 x.2.2.2.2.2.2.2)))], []⟩
def sa_coupletlaw20_FlightPrints_1 (S : St) : (Bool × Bool × List PV × Bool × Bool × List PV × Int × Int) := (((tls 9 S.t).headD .any).pv.nl, ((tls 9 S.t).headD .any).pv.ex, ((tls 9 S.t).headD .any).pv.elts, ((tls 87 S.t).headD .any).pv.nl, ((tls 87 S.t).headD .any).pv.ex, ((tls 87 S.t).headD .any).pv.elts, ((tls 88 S.t).headD .any).pv.num, ((tls 89 S.t).headD .any).pv.num)
def tz_coupletlaw20_FlightPrints_1_1 : StSh := ⟨113, [(2, (.p .bool))], []⟩
def tx_coupletlaw20_FlightPrints_1_1 (x : Bool) : St := ⟨slots 113 0 [(2, (.p (.bool x)))], []⟩
def ta_coupletlaw20_FlightPrints_1_1 (S : St) : Bool := ((tls 2 S.t).headD .any).pv.tru
def tz_coupletlaw20_FlightPrints_1_0 : StSh := ⟨113, [], []⟩
def tx_coupletlaw20_FlightPrints_1_0 (x : Unit) : St := ⟨slots 113 0 [], []⟩
def ta_coupletlaw20_FlightPrints_1_0 (S : St) : Unit := ()
def kb_coupletlaw20_FlightPrints_1 : Exit → St → Tree (((Bool × Bool × List PV × Bool × Bool × List PV × Int × Int)) ⊕ ((Unit) ⊕ (Bool))) := (exOne (.exit 2) [] tz_coupletlaw20_FlightPrints_1_0 ta_coupletlaw20_FlightPrints_1_0 (fun y => Sum.inr ((Sum.inl y))) (exOne .ret [2] tz_coupletlaw20_FlightPrints_1_1 ta_coupletlaw20_FlightPrints_1_1 (fun y => Sum.inr ((Sum.inr y))) exNil))
def ky_coupletlaw20_FlightPrints_1 : Dec ((Unit) ⊕ (Bool)) := fun _ y ke => .sum y (fun a => ke ((.exit 2) : EK).ex (tx_coupletlaw20_FlightPrints_1_0 a)) (fun y' => ke (.ret : EK).ex (tx_coupletlaw20_FlightPrints_1_1 y'))
theorem kk_coupletlaw20_FlightPrints_1 : ExOk Sum.inr kb_coupletlaw20_FlightPrints_1 ky_coupletlaw20_FlightPrints_1 := (ExOk.one (acc := ta_coupletlaw20_FlightPrints_1_0) (bY := tx_coupletlaw20_FlightPrints_1_0) (inj1 := fun y => (Sum.inl y)) (fun S => by kernel_rfl) (fun y _ ke => .inr (by kernel_rfl)) (ExOk.one (acc := ta_coupletlaw20_FlightPrints_1_1) (bY := tx_coupletlaw20_FlightPrints_1_1) (inj1 := fun y => (Sum.inr y)) (fun S => by kernel_rfl) (fun y _ ke => .inr (by kernel_rfl)) ExOk.nil))
def st_coupletlaw20_FlightPrints_0 (b5 : Bool) (b6 : Bool) (es7 : List PV) (b8 : Bool) (b9 : Bool) (b10 : Bool) (es11 : List PV) (n12 : Int) (n13 : Int) : Option (((Bool × Bool × List PV × Bool × Bool × Bool × List PV × Int × Int)) ⊕ (((Bool × Bool × List PV × Bool)) ⊕ (Bool))) :=
  bif (decide (n13 < n12)) then
   bif (decide (0 ≤ n13)) then
    bif (decide (n13 < (((List.length es11) : Nat) : Int))) then
     bif (decide ((Int.toNat n13) < (List.length es11))) then
      bif (decide ((List.length (PV.cells (List.getD es11 (Int.toNat n13) .nilSl))) = 5)) then
       bif (Shp.ok (.agg [.str, (.isl .u8), (.int .i64), (.int .i64), (.int .i64)]) (.agg (PV.cells (List.getD es11 (Int.toNat n13) .nilSl)))) then
        (go_coupletref20_Right (PV.chars (List.headD (PV.subs (.agg (PV.cells (List.getD es11 (Int.toNat n13) .nilSl)))) .nilSl)) (PV.nl (List.headD (List.tail (PV.subs (.agg (PV.cells (List.getD es11 (Int.toNat n13) .nilSl))))) .nilSl)) (PV.ex (List.headD (List.tail (PV.subs (.agg (PV.cells (List.getD es11 (Int.toNat n13) .nilSl))))) .nilSl)) (PV.ints (List.headD (List.tail (PV.subs (.agg (PV.cells (List.getD es11 (Int.toNat n13) .nilSl))))) .nilSl)) (PV.num (List.headD (List.tail (List.tail (PV.subs (.agg (PV.cells (List.getD es11 (Int.toNat n13) .nilSl)))))) .nilSl)) (PV.num (List.headD (List.tail (List.tail (List.tail (PV.subs (.agg (PV.cells (List.getD es11 (Int.toNat n13) .nilSl))))))) .nilSl)) (PV.num (List.headD (List.tail (List.tail (List.tail (List.tail (PV.subs (.agg (PV.cells (List.getD es11 (Int.toNat n13) .nilSl)))))))) .nilSl))).bind fun r14 =>
        (go_flight_Right (PV.chars (List.headD (PV.subs (.agg (PV.cells (List.getD es11 (Int.toNat n13) .nilSl)))) .nilSl)) (PV.nl (List.headD (List.tail (PV.subs (.agg (PV.cells (List.getD es11 (Int.toNat n13) .nilSl))))) .nilSl)) (PV.ex (List.headD (List.tail (PV.subs (.agg (PV.cells (List.getD es11 (Int.toNat n13) .nilSl))))) .nilSl)) (PV.ints (List.headD (List.tail (PV.subs (.agg (PV.cells (List.getD es11 (Int.toNat n13) .nilSl))))) .nilSl)) (PV.num (List.headD (List.tail (List.tail (PV.subs (.agg (PV.cells (List.getD es11 (Int.toNat n13) .nilSl)))))) .nilSl)) (PV.num (List.headD (List.tail (List.tail (List.tail (PV.subs (.agg (PV.cells (List.getD es11 (Int.toNat n13) .nilSl))))))) .nilSl)) (PV.num (List.headD (List.tail (List.tail (List.tail (List.tail (PV.subs (.agg (PV.cells (List.getD es11 (Int.toNat n13) .nilSl)))))))) .nilSl))).bind fun r15 =>
        bif (!(r15 == r14)) then
         some (Sum.inr (Sum.inr false))
        else
         bif b8 then
          some (Sum.inl (b5, b6, es7, r14, b9, b10, es11, n12, (IntKind.wrap .i64 (n13 + 1))))
         else
          some (Sum.inl (b5, b6, es7, false, b9, b10, es11, n12, (IntKind.wrap .i64 (n13 + 1))))
       else none
      else none
     else none
    else none
   else none
  else
   some (Sum.inr (Sum.inl (b5, b6, es7, b8)))
def lp_coupletlaw20_FlightPrints_0 (b5 : Bool) (b6 : Bool) (es7 : List PV) (b8 : Bool) (b9 : Bool) (b10 : Bool) (es11 : List PV) (n12 : Int) (n13 : Int) : Option (((Bool × Bool × List PV × Bool)) ⊕ (Bool)) := loopN (X := (Bool × Bool × List PV × Bool × Bool × Bool × List PV × Int × Int)) (fun x => st_coupletlaw20_FlightPrints_0 x.1 x.2.1 x.2.2.1 x.2.2.2.1 x.2.2.2.2.1 x.2.2.2.2.2.1 x.2.2.2.2.2.2.1 x.2.2.2.2.2.2.2.1 x.2.2.2.2.2.2.2.2) (b5, b6, es7, b8, b9, b10, es11, n12, n13)
def sh_coupletlaw20_FlightPrints_0 : StSh := ⟨113, [(0, (.p (.sl 5))), (3, (.p .bool)), (18, (.p (.sl 5))), (19, (.p (.int .i64))), (20, (.p (.int .i64)))], []⟩
def sx_coupletlaw20_FlightPrints_0 (x : (Bool × Bool × List PV × Bool × Bool × Bool × List PV × Int × Int)) : St := ⟨slots 113 0 [(0, (.p (.sl x.1 x.2.1 5 x.2.2.1))), (3, (.p (.bool x.2.2.2.1))), (18, (.p (.sl x.2.2.2.2.1 x.2.2.2.2.2.1 5 x.2.2.2.2.2.2.1))), (19, (.p (.int .i64 x.2.2.2.2.2.2.2.1))), (20, (.p (.int .i64 x.2.2.2.2.2.2.2.2)))], []⟩
def sa_coupletlaw20_FlightPrints_0 (S : St) : (Bool × Bool × List PV × Bool × Bool × Bool × List PV × Int × Int) := (((tls 0 S.t).headD .any).pv.nl, ((tls 0 S.t).headD .any).pv.ex, ((tls 0 S.t).headD .any).pv.elts, ((tls 3 S.t).headD .any).pv.tru, ((tls 18 S.t).headD .any).pv.nl, ((tls 18 S.t).headD .any).pv.ex, ((tls 18 S.t).headD .any).pv.elts, ((tls 19 S.t).headD .any).pv.num, ((tls 20 S.t).headD .any).pv.num)
def tz_coupletlaw20_FlightPrints_0_1 : StSh := ⟨113, [(2, (.p .bool))], []⟩
def tx_coupletlaw20_FlightPrints_0_1 (x : Bool) : St := ⟨slots 113 0 [(2, (.p (.bool x)))], []⟩
def ta_coupletlaw20_FlightPrints_0_1 (S : St) : Bool := ((tls 2 S.t).headD .any).pv.tru
def tz_coupletlaw20_FlightPrints_0_0 : StSh := ⟨113, [(0, (.p (.sl 5))), (3, (.p .bool))], []⟩
def tx_coupletlaw20_FlightPrints_0_0 (x : (Bool × Bool × List PV × Bool)) : St := ⟨slots 113 0 [(0, (.p (.sl x.1 x.2.1 5 x.2.2.1))), (3, (.p (.bool x.2.2.2)))], []⟩
def ta_coupletlaw20_FlightPrints_0_0 (S : St) : (Bool × Bool × List PV × Bool) := (((tls 0 S.t).headD .any).pv.nl, ((tls 0 S.t).headD .any).pv.ex, ((tls 0 S.t).headD .any).pv.elts, ((tls 3 S.t).headD .any).pv.tru)
def kb_coupletlaw20_FlightPrints_0 : Exit → St → Tree (((Bool × Bool × List PV × Bool × Bool × Bool × List PV × Int × Int)) ⊕ (((Bool × Bool × List PV × Bool)) ⊕ (Bool))) := (exOne (.exit 0) [0, 3] tz_coupletlaw20_FlightPrints_0_0 ta_coupletlaw20_FlightPrints_0_0 (fun y => Sum.inr ((Sum.inl y))) (exOne .ret [2] tz_coupletlaw20_FlightPrints_0_1 ta_coupletlaw20_FlightPrints_0_1 (fun y => Sum.inr ((Sum.inr y))) exNil))
def ky_coupletlaw20_FlightPrints_0 : Dec (((Bool × Bool × List PV × Bool)) ⊕ (Bool)) := fun _ y ke => .sum y (fun a => ke ((.exit 0) : EK).ex (tx_coupletlaw20_FlightPrints_0_0 a)) (fun y' => ke (.ret : EK).ex (tx_coupletlaw20_FlightPrints_0_1 y'))
theorem kk_coupletlaw20_FlightPrints_0 : ExOk Sum.inr kb_coupletlaw20_FlightPrints_0 ky_coupletlaw20_FlightPrints_0 := (ExOk.one (acc := ta_coupletlaw20_FlightPrints_0_0) (bY := tx_coupletlaw20_FlightPrints_0_0) (inj1 := fun y => (Sum.inl y)) (fun S => by kernel_rfl) (fun y _ ke => .inr (by kernel_rfl)) (ExOk.one (acc := ta_coupletlaw20_FlightPrints_0_1) (bY := tx_coupletlaw20_FlightPrints_0_1) (inj1 := fun y => (Sum.inr y)) (fun S => by kernel_rfl) (fun y _ ke => .inr (by kernel_rfl)) ExOk.nil))
def lm_coupletlaw20_FlightPrints : Lam := fun _ j S kn ke => match j with
  | 0 => prepT [0, 3, 18, 19, 20] [] S fun S => .chk (sh_coupletlaw20_FlightPrints_0.ok S) (.bind (loopN (fun x => st_coupletlaw20_FlightPrints_0 x.1 x.2.1 x.2.2.1 x.2.2.2.1 x.2.2.2.2.1 x.2.2.2.2.2.1 x.2.2.2.2.2.2.1 x.2.2.2.2.2.2.2.1 x.2.2.2.2.2.2.2.2) (sa_coupletlaw20_FlightPrints_0 S)) fun y => ky_coupletlaw20_FlightPrints_0 _ y ke)
  | 1 => prepT [9, 87, 88, 89] [] S fun S => .chk (sh_coupletlaw20_FlightPrints_1.ok S) (.bind (loopN (fun x => st_coupletlaw20_FlightPrints_1 x.1 x.2.1 x.2.2.1 x.2.2.2.1 x.2.2.2.2.1 x.2.2.2.2.2.1 x.2.2.2.2.2.2.1 x.2.2.2.2.2.2.2) (sa_coupletlaw20_FlightPrints_1 S)) fun y => ky_coupletlaw20_FlightPrints_1 _ y ke)
  | _ => .fail
theorem sr_coupletlaw20_FlightPrints_1 (x : (Bool × Bool × List PV × Bool × Bool × List PV × Int × Int)) : (ev GG gm_coupletlaw20_FlightPrints lm_coupletlaw20_FlightPrints xb_coupletlaw20_FlightPrints_1 (sx_coupletlaw20_FlightPrints_1 x) (fun S => forgetT [9, 87, 88, 89] S fun S => prepT [9, 87, 88, 89] [] S fun S => .chk (sh_coupletlaw20_FlightPrints_1.ok S) (.leaf (.inl (sa_coupletlaw20_FlightPrints_1 S)))) kb_coupletlaw20_FlightPrints_1).run = st_coupletlaw20_FlightPrints_1 x.1 x.2.1 x.2.2.1 x.2.2.2.1 x.2.2.2.2.1 x.2.2.2.2.2.1 x.2.2.2.2.2.2.1 x.2.2.2.2.2.2.2 := by kernel_rfl
theorem la_coupletlaw20_FlightPrints_1 : LamAt Tryd.prog GG lm_coupletlaw20_FlightPrints 1 (.loop [9, 87, 88, 89] xb_coupletlaw20_FlightPrints_1.erase) := lam_loop (body := xb_coupletlaw20_FlightPrints_1) (Λ' := lm_coupletlaw20_FlightPrints) gk_coupletlaw20_FlightPrints (⟨trivial, ⟨⟨trivial, trivial⟩, ⟨⟨trivial, ⟨trivial, ⟨⟨trivial, trivial⟩, trivial⟩⟩⟩, trivial⟩⟩⟩) (fun S => (by kernel_rfl : sh_coupletlaw20_FlightPrints_1.build S = sx_coupletlaw20_FlightPrints_1 (sa_coupletlaw20_FlightPrints_1 S))) kk_coupletlaw20_FlightPrints_1 sr_coupletlaw20_FlightPrints_1 (fun _ _ _ => rfl)
theorem sr_coupletlaw20_FlightPrints_0 (x : (Bool × Bool × List PV × Bool × Bool × Bool × List PV × Int × Int)) : (ev GG gm_coupletlaw20_FlightPrints lm_coupletlaw20_FlightPrints xb_coupletlaw20_FlightPrints_0 (sx_coupletlaw20_FlightPrints_0 x) (fun S => forgetT [0, 3, 18, 19, 20] S fun S => prepT [0, 3, 18, 19, 20] [] S fun S => .chk (sh_coupletlaw20_FlightPrints_0.ok S) (.leaf (.inl (sa_coupletlaw20_FlightPrints_0 S)))) kb_coupletlaw20_FlightPrints_0).run = st_coupletlaw20_FlightPrints_0 x.1 x.2.1 x.2.2.1 x.2.2.2.1 x.2.2.2.2.1 x.2.2.2.2.2.1 x.2.2.2.2.2.2.1 x.2.2.2.2.2.2.2.1 x.2.2.2.2.2.2.2.2 := by kernel_rfl
theorem la_coupletlaw20_FlightPrints_0 : LamAt Tryd.prog GG lm_coupletlaw20_FlightPrints 0 (.loop [0, 3, 18, 19, 20] xb_coupletlaw20_FlightPrints_0.erase) := lam_loop (body := xb_coupletlaw20_FlightPrints_0) (Λ' := lm_coupletlaw20_FlightPrints) gk_coupletlaw20_FlightPrints (⟨trivial, ⟨⟨trivial, trivial⟩, ⟨⟨trivial, ⟨trivial, ⟨⟨trivial, ⟨⟨trivial, trivial⟩, trivial⟩⟩, trivial⟩⟩⟩, trivial⟩⟩⟩) (fun S => (by kernel_rfl : sh_coupletlaw20_FlightPrints_0.build S = sx_coupletlaw20_FlightPrints_0 (sa_coupletlaw20_FlightPrints_0 S))) kk_coupletlaw20_FlightPrints_0 sr_coupletlaw20_FlightPrints_0 (fun _ _ _ => rfl)
def go_coupletlaw20_FlightPrints (b0 : Bool) (b1 : Bool) (es2 : List PV) : Option Bool :=
  (go_coupletlaw20_Few b0 b1 es2).bind fun r3 =>
  bif (!r3) then
   (go_coupletlaw20_awake).bind fun r4 =>
   some r4
  else
   (lp_coupletlaw20_FlightPrints_0 b0 b1 es2 true b0 b1 es2 (((List.length es2) : Nat) : Int) 0).bind fun y16 =>
   Sum.elim (fun z17 =>
    (go_flight_Print z17.1 z17.2.1 z17.2.2.1).bind fun r18 =>
    bif (!z17.2.2.2) then
     bif (r18.1 == []) then
      bif (r18.2 == 1) then
       (go_coupletlaw20_awake).bind fun r19 =>
       some r19
      else
       some false
     else
      some false
    else
     (go_flight_Parse r18.1).bind fun r20 =>
     bif (r18.2 != 0) then
      some false
     else
      bif (r20.2.2.2.2 != 0) then
       some false
      else
       bif ((((List.length r20.2.2.1) : Nat) : Int) != (((List.length z17.2.2.1) : Nat) : Int)) then
        some false
       else
        bif (r20.2.2.2.1 != (max (((List.length z17.2.2.1) : Nat) : Int) 1)) then
         some false
        else
         (lp_coupletlaw20_FlightPrints_1 r20.1 r20.2.1 r20.2.2.1 z17.1 z17.2.1 z17.2.2.1 (((List.length z17.2.2.1) : Nat) : Int) 0).bind fun y30 =>
         Sum.elim (fun z31 =>
          (go_coupletlaw20_awake).bind fun r32 =>
          some r32) (fun z33 =>
          some z33) y30) (fun z34 =>
    some z34) y16
def em_coupletlaw20_FlightPrints (r : Bool) : PV := (.bool r)
def rh_coupletlaw20_FlightPrints : Shp := .bool
def ra_coupletlaw20_FlightPrints (v : PV) : Bool := v.tru
def kf_coupletlaw20_FlightPrints (v : PV) : Tree Bool := .chk (rh_coupletlaw20_FlightPrints.ok v) (.leaf (ra_coupletlaw20_FlightPrints v))
theorem rn_coupletlaw20_FlightPrints (b0 : Bool) (b1 : Bool) (es2 : List PV) : (ev GG gm_coupletlaw20_FlightPrints lm_coupletlaw20_FlightPrints xr_coupletlaw20_FlightPrints ⟨slots 113 0 [(0, .p (.sl b0 b1 5 es2))], []⟩ (fun S => finT Tryd.prog rs_coupletlaw20_FlightPrints S kf_coupletlaw20_FlightPrints) (retT Tryd.prog rs_coupletlaw20_FlightPrints kf_coupletlaw20_FlightPrints)).run = go_coupletlaw20_FlightPrints b0 b1 es2 := by kernel_rfl
theorem ok_coupletlaw20_FlightPrints (b0 : Bool) (b1 : Bool) (es2 : List PV) (r : Bool) (h : go_coupletlaw20_FlightPrints b0 b1 es2 = some r) : FunEq Tryd.prog GG 4 [(.sl b0 b1 5 es2)] (em_coupletlaw20_FlightPrints r) :=
  fun_of_ev (x := xr_coupletlaw20_FlightPrints) (Λ := lm_coupletlaw20_FlightPrints) gk_coupletlaw20_FlightPrints [[0, 3, 18, 19, 20], [9, 87, 88, 89]] Tryd.func4 rfl (by kernel_rfl) ir_coupletlaw20_FlightPrints (by kernel_rfl) (congrArg Array.toList Tryd.results4) Tryd.ntmps4 (⟨trivial, ⟨⟨trivial, ⟨⟨trivial, trivial⟩, trivial⟩⟩, ⟨trivial, ⟨⟨trivial, la_coupletlaw20_FlightPrints_0⟩, ⟨trivial, ⟨⟨trivial, ⟨⟨trivial, trivial⟩, trivial⟩⟩, ⟨trivial, ⟨⟨trivial, ⟨⟨trivial, trivial⟩, trivial⟩⟩, ⟨⟨trivial, la_coupletlaw20_FlightPrints_1⟩, ⟨trivial, trivial⟩⟩⟩⟩⟩⟩⟩⟩⟩⟩) (leaf_of fun v => (by kernel_rfl : rh_coupletlaw20_FlightPrints.build v = em_coupletlaw20_FlightPrints (ra_coupletlaw20_FlightPrints v))) (by kernel_rfl) ((rn_coupletlaw20_FlightPrints b0 b1 es2).trans h)
end Go.Proofs
end
