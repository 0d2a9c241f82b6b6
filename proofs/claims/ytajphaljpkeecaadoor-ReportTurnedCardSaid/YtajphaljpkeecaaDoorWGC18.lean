import Derived.Test.YtajphaljpkeecaaDoorWCTab
import Derived.Test.YtajphaljpkeecaaDoorWGC0
import Derived.Test.YtajphaljpkeecaaDoorFxRng
import Derived.Test.YtajphaljpkeecaaDoorChecked
set_option linter.unusedVariables false
set_option maxRecDepth 100000
noncomputable section
namespace Go.Proofs
open Go Go.Fx
def xb_slices_Concat__int_int_0 : XR := (.seq (.ops false [⟨⟨(some 12), (.bin .lss (.tmp 11) (.tmp 10)), none⟩, none⟩]) (.seq (.cond (.tmp 12) .skip (.exit 0)) (.seq (.block 1 (.seq (.ops false [⟨⟨(some 13), (.ixA 1 (.tmp 9) (.tmp 11)), none⟩, none⟩, ⟨⟨(some 14), (.ld false 1 (.tmp 13)), none⟩, (some (.isl .i64))⟩, ⟨⟨(some 5), (.mv (.tmp 14)), none⟩, none⟩]) (.seq (.ops false [⟨⟨(some 15), (.mv (.tmp 3)), none⟩, none⟩, ⟨⟨(some 16), (.mv (.tmp 5)), none⟩, none⟩, ⟨⟨(some 17), (.len (.tmp 16)), none⟩, none⟩, ⟨⟨(some 18), (.bin .add (.tmp 15) (.tmp 17)), none⟩, none⟩, ⟨⟨(some 3), (.mv (.tmp 18)), none⟩, none⟩]) (.seq (.ops false [⟨⟨(some 19), (.mv (.tmp 3)), none⟩, none⟩, ⟨⟨(some 20), (.bin .lss (.tmp 19) (.c (.int .i64 (0)))), none⟩, none⟩]) (.cond (.tmp 20) (.ops false [⟨⟨(some 21), .bad, none⟩, none⟩, ⟨⟨none, .bad, none⟩, none⟩]) .skip))))) (.ops false [⟨⟨(some 22), (.bin .add (.tmp 11) (.c (.int .i64 (1)))), none⟩, none⟩, ⟨⟨(some 11), (.mv (.tmp 22)), none⟩, none⟩]))))
def xb_slices_Concat__int_int_1 : XR := (.seq (.ops false [⟨⟨(some 28), (.bin .lss (.tmp 27) (.tmp 26)), none⟩, none⟩]) (.seq (.cond (.tmp 28) .skip (.exit 2)) (.seq (.block 3 (.seq (.ops false [⟨⟨(some 29), (.ixA 1 (.tmp 25) (.tmp 27)), none⟩, none⟩, ⟨⟨(some 30), (.ld false 1 (.tmp 29)), none⟩, (some (.isl .i64))⟩, ⟨⟨(some 8), (.mv (.tmp 30)), none⟩, none⟩]) (.ops false [⟨⟨(some 31), (.mv (.tmp 6)), none⟩, none⟩, ⟨⟨(some 32), (.mv (.tmp 8)), none⟩, none⟩, ⟨⟨(some 33), (.app 3 (some .i64) 1 8 (.tmp 31) (.tmp 32)), none⟩, none⟩, ⟨⟨(some 6), (.mv (.tmp 33)), none⟩, none⟩]))) (.ops false [⟨⟨(some 34), (.bin .add (.tmp 27) (.c (.int .i64 (1)))), none⟩, none⟩, ⟨⟨(some 27), (.mv (.tmp 34)), none⟩, none⟩]))))
def xr_slices_Concat__int_int : XR := (.seq (.ops false [⟨⟨(some 2), (.mv (.c (.isl true true .i64 []))), none⟩, none⟩]) (.seq (.ops false [⟨⟨(some 3), (.mv (.c (.int .i64 (0)))), none⟩, none⟩]) (.seq (.seq (.ops false [⟨⟨(some 9), (.mv (.tmp 0)), none⟩, none⟩, ⟨⟨(some 10), (.len (.tmp 9)), none⟩, none⟩, ⟨⟨(some 11), (.mv (.c (.int .i64 (0)))), none⟩, none⟩]) (.block 0 (.loop 0 [0, 3, 9, 10, 11] xb_slices_Concat__int_int_0))) (.seq (.ops false [⟨⟨(some 23), (.mv (.tmp 3)), none⟩, none⟩, ⟨⟨(some 24), (.callR 70 3 (.c (.isl true true .i64 [])) [(.tmp 23)]), none⟩, none⟩, ⟨⟨(some 6), (.mv (.tmp 24)), none⟩, none⟩]) (.seq (.seq (.ops false [⟨⟨(some 25), (.mv (.tmp 0)), none⟩, none⟩, ⟨⟨(some 26), (.len (.tmp 25)), none⟩, none⟩, ⟨⟨(some 27), (.mv (.c (.int .i64 (0)))), none⟩, none⟩]) (.block 2 (.loop 1 [6, 25, 26, 27] xb_slices_Concat__int_int_1))) (.seq (.ops false [⟨⟨(some 35), (.mv (.tmp 6)), none⟩, none⟩, ⟨⟨(some 2), (.mv (.tmp 35)), none⟩, none⟩]) .ret))))))
def rs_slices_Concat__int_int : List ResultVar := [(.tmp 2)]
theorem ir_slices_Concat__int_int : compCode Tryd.prog (Tryd.f59.body.getD .skip) [[0, 3, 9, 10, 11], [6, 25, 26, 27]] = some (xr_slices_Concat__int_int.erase, []) := by kernel_rfl
def gm_slices_Concat__int_int : Gam := (Gam.fn 1000070 as_slices_Grow ga_slices_Grow em_slices_Grow Gam.bot)
theorem gk_slices_Concat__int_int : GamOk Tryd.prog GG gm_slices_Concat__int_int := (GamOk.fn at_slices_Grow GamOk.bot)
def st_slices_Concat__int_int_1 (b14 : Bool) (b15 : Bool) (es16 : List PV) (n17 : Int) (n18 : Int) (b19 : Bool) (b20 : Bool) (l21 : List Int) : Option (((Bool × Bool × List PV × Int × Int × Bool × Bool × List Int)) ⊕ (((Bool × Bool × List Int)))) :=
  bif (decide (n18 < n17)) then
   bif (decide (0 ≤ n18)) then
    bif (decide (n18 < (((List.length es16) : Nat) : Int))) then
     bif (decide ((Int.toNat n18) < (List.length es16))) then
      bif (PV.scal (List.getD es16 (Int.toNat n18) .nilSl)) then
       bif (Shp.ok (.isl .i64) (List.getD es16 (Int.toNat n18) .nilSl)) then
        bif (decide ((((List.length l21) + (List.length (PV.ints (List.getD es16 (Int.toNat n18) .nilSl)))) * 8) ≤ 140737488355328)) then
         bif (decide (((List.length l21) + (List.length (PV.ints (List.getD es16 (Int.toNat n18) .nilSl)))) ≤ 4611686018427387904)) then
          some (Sum.inl (b14, b15, es16, n17, (IntKind.wrap .i64 (n18 + 1)), (b19 && (List.isEmpty (PV.ints (List.getD es16 (Int.toNat n18) .nilSl)))), false, (l21 ++ (PV.ints (List.getD es16 (Int.toNat n18) .nilSl)))))
         else none
        else none
       else none
      else none
     else none
    else none
   else none
  else
   some (Sum.inr (b19, b20, l21))
def lp_slices_Concat__int_int_1 (b14 : Bool) (b15 : Bool) (es16 : List PV) (n17 : Int) (n18 : Int) (b19 : Bool) (b20 : Bool) (l21 : List Int) : Option (((Bool × Bool × List Int))) := loopN (X := (Bool × Bool × List PV × Int × Int × Bool × Bool × List Int)) (fun x => st_slices_Concat__int_int_1 x.1 x.2.1 x.2.2.1 x.2.2.2.1 x.2.2.2.2.1 x.2.2.2.2.2.1 x.2.2.2.2.2.2.1 x.2.2.2.2.2.2.2) (b14, b15, es16, n17, n18, b19, b20, l21)
def sh_slices_Concat__int_int_1 : StSh := ⟨36, [(6, (.row 0)), (25, (.p (.sl 1))), (26, (.p (.int .i64))), (27, (.p (.int .i64)))], [(.irow 3 .i64)]⟩
def sx_slices_Concat__int_int_1 (x : (Bool × Bool × List PV × Int × Int × Bool × Bool × List Int)) : St := ⟨slots 36 0 [(6, (.row 0)), (25, (.p (.sl x.1 x.2.1 1 x.2.2.1))), (26, (.p (.int .i64 x.2.2.2.1))), (27, (.p (.int .i64 x.2.2.2.2.1)))], [(.irow 3 .i64 x.2.2.2.2.2.1 x.2.2.2.2.2.2.1 x.2.2.2.2.2.2.2)]⟩
def sa_slices_Concat__int_int_1 (S : St) : (Bool × Bool × List PV × Int × Int × Bool × Bool × List Int) := (((tls 25 S.t).headD .any).pv.nl, ((tls 25 S.t).headD .any).pv.ex, ((tls 25 S.t).headD .any).pv.elts, ((tls 26 S.t).headD .any).pv.num, ((tls 27 S.t).headD .any).pv.num, ((tls 0 S.own).headD .gone).pvD.nl, ((tls 0 S.own).headD .gone).pvD.ex, ((tls 0 S.own).headD .gone).pvD.ints)
def tz_slices_Concat__int_int_1_0 : StSh := ⟨36, [(6, (.row 0))], [(.irow 3 .i64)]⟩
def tx_slices_Concat__int_int_1_0 (x : (Bool × Bool × List Int)) : St := ⟨slots 36 0 [(6, (.row 0))], [(.irow 3 .i64 x.1 x.2.1 x.2.2)]⟩
def ta_slices_Concat__int_int_1_0 (S : St) : (Bool × Bool × List Int) := (((tls 0 S.own).headD .gone).pvD.nl, ((tls 0 S.own).headD .gone).pvD.ex, ((tls 0 S.own).headD .gone).pvD.ints)
def kb_slices_Concat__int_int_1 : Exit → St → Tree (((Bool × Bool × List PV × Int × Int × Bool × Bool × List Int)) ⊕ (((Bool × Bool × List Int)))) := (exOne (.exit 2) [6] tz_slices_Concat__int_int_1_0 ta_slices_Concat__int_int_1_0 (fun y => Sum.inr (y)) exNil)
def ky_slices_Concat__int_int_1 : Dec (((Bool × Bool × List Int))) := fun _ y ke => ke ((.exit 2) : EK).ex (tx_slices_Concat__int_int_1_0 y)
theorem kk_slices_Concat__int_int_1 : ExOk Sum.inr kb_slices_Concat__int_int_1 ky_slices_Concat__int_int_1 := (ExOk.one (acc := ta_slices_Concat__int_int_1_0) (bY := tx_slices_Concat__int_int_1_0) (inj1 := fun y => y) (fun S => by kernel_rfl) (fun y _ ke => .inr (by kernel_rfl)) ExOk.nil)
def st_slices_Concat__int_int_0 (b3 : Bool) (b4 : Bool) (es5 : List PV) (n6 : Int) (b7 : Bool) (b8 : Bool) (es9 : List PV) (n10 : Int) (n11 : Int) : Option (((Bool × Bool × List PV × Int × Bool × Bool × List PV × Int × Int)) ⊕ (((Bool × Bool × List PV × Int)))) :=
  bif (decide (n11 < n10)) then
   bif (decide (0 ≤ n11)) then
    bif (decide (n11 < (((List.length es9) : Nat) : Int))) then
     bif (decide ((Int.toNat n11) < (List.length es9))) then
      bif (PV.scal (List.getD es9 (Int.toNat n11) .nilSl)) then
       bif (Shp.ok (.isl .i64) (List.getD es9 (Int.toNat n11) .nilSl)) then
        bif (decide ((IntKind.wrap .i64 (n6 + (((List.length (PV.ints (List.getD es9 (Int.toNat n11) .nilSl))) : Nat) : Int))) < 0)) then
         none
        else
         some (Sum.inl (b3, b4, es5, (IntKind.wrap .i64 (n6 + (((List.length (PV.ints (List.getD es9 (Int.toNat n11) .nilSl))) : Nat) : Int))), b7, b8, es9, n10, (IntKind.wrap .i64 (n11 + 1))))
       else none
      else none
     else none
    else none
   else none
  else
   some (Sum.inr (b3, b4, es5, n6))
def lp_slices_Concat__int_int_0 (b3 : Bool) (b4 : Bool) (es5 : List PV) (n6 : Int) (b7 : Bool) (b8 : Bool) (es9 : List PV) (n10 : Int) (n11 : Int) : Option (((Bool × Bool × List PV × Int))) := loopN (X := (Bool × Bool × List PV × Int × Bool × Bool × List PV × Int × Int)) (fun x => st_slices_Concat__int_int_0 x.1 x.2.1 x.2.2.1 x.2.2.2.1 x.2.2.2.2.1 x.2.2.2.2.2.1 x.2.2.2.2.2.2.1 x.2.2.2.2.2.2.2.1 x.2.2.2.2.2.2.2.2) (b3, b4, es5, n6, b7, b8, es9, n10, n11)
def sh_slices_Concat__int_int_0 : StSh := ⟨36, [(0, (.p (.sl 1))), (3, (.p (.int .i64))), (9, (.p (.sl 1))), (10, (.p (.int .i64))), (11, (.p (.int .i64)))], []⟩
def sx_slices_Concat__int_int_0 (x : (Bool × Bool × List PV × Int × Bool × Bool × List PV × Int × Int)) : St := ⟨slots 36 0 [(0, (.p (.sl x.1 x.2.1 1 x.2.2.1))), (3, (.p (.int .i64 x.2.2.2.1))), (9, (.p (.sl x.2.2.2.2.1 x.2.2.2.2.2.1 1 x.2.2.2.2.2.2.1))), (10, (.p (.int .i64 x.2.2.2.2.2.2.2.1))), (11, (.p (.int .i64 x.2.2.2.2.2.2.2.2)))], []⟩
def sa_slices_Concat__int_int_0 (S : St) : (Bool × Bool × List PV × Int × Bool × Bool × List PV × Int × Int) := (((tls 0 S.t).headD .any).pv.nl, ((tls 0 S.t).headD .any).pv.ex, ((tls 0 S.t).headD .any).pv.elts, ((tls 3 S.t).headD .any).pv.num, ((tls 9 S.t).headD .any).pv.nl, ((tls 9 S.t).headD .any).pv.ex, ((tls 9 S.t).headD .any).pv.elts, ((tls 10 S.t).headD .any).pv.num, ((tls 11 S.t).headD .any).pv.num)
def tz_slices_Concat__int_int_0_0 : StSh := ⟨36, [(0, (.p (.sl 1))), (3, (.p (.int .i64)))], []⟩
def tx_slices_Concat__int_int_0_0 (x : (Bool × Bool × List PV × Int)) : St := ⟨slots 36 0 [(0, (.p (.sl x.1 x.2.1 1 x.2.2.1))), (3, (.p (.int .i64 x.2.2.2)))], []⟩
def ta_slices_Concat__int_int_0_0 (S : St) : (Bool × Bool × List PV × Int) := (((tls 0 S.t).headD .any).pv.nl, ((tls 0 S.t).headD .any).pv.ex, ((tls 0 S.t).headD .any).pv.elts, ((tls 3 S.t).headD .any).pv.num)
def kb_slices_Concat__int_int_0 : Exit → St → Tree (((Bool × Bool × List PV × Int × Bool × Bool × List PV × Int × Int)) ⊕ (((Bool × Bool × List PV × Int)))) := (exOne (.exit 0) [0, 3] tz_slices_Concat__int_int_0_0 ta_slices_Concat__int_int_0_0 (fun y => Sum.inr (y)) exNil)
def ky_slices_Concat__int_int_0 : Dec (((Bool × Bool × List PV × Int))) := fun _ y ke => ke ((.exit 0) : EK).ex (tx_slices_Concat__int_int_0_0 y)
theorem kk_slices_Concat__int_int_0 : ExOk Sum.inr kb_slices_Concat__int_int_0 ky_slices_Concat__int_int_0 := (ExOk.one (acc := ta_slices_Concat__int_int_0_0) (bY := tx_slices_Concat__int_int_0_0) (inj1 := fun y => y) (fun S => by kernel_rfl) (fun y _ ke => .inr (by kernel_rfl)) ExOk.nil)
def lm_slices_Concat__int_int : Lam := fun _ j S kn ke => match j with
  | 0 => prepT [0, 3, 9, 10, 11] [] S fun S => .chk (sh_slices_Concat__int_int_0.ok S) (.bind (loopN (fun x => st_slices_Concat__int_int_0 x.1 x.2.1 x.2.2.1 x.2.2.2.1 x.2.2.2.2.1 x.2.2.2.2.2.1 x.2.2.2.2.2.2.1 x.2.2.2.2.2.2.2.1 x.2.2.2.2.2.2.2.2) (sa_slices_Concat__int_int_0 S)) fun y => ky_slices_Concat__int_int_0 _ y ke)
  | 1 => prepT [6, 25, 26, 27] [] S fun S => .chk (sh_slices_Concat__int_int_1.ok S) (.bind (loopN (fun x => st_slices_Concat__int_int_1 x.1 x.2.1 x.2.2.1 x.2.2.2.1 x.2.2.2.2.1 x.2.2.2.2.2.1 x.2.2.2.2.2.2.1 x.2.2.2.2.2.2.2) (sa_slices_Concat__int_int_1 S)) fun y => ky_slices_Concat__int_int_1 _ y ke)
  | _ => .fail
theorem sr_slices_Concat__int_int_1 (x : (Bool × Bool × List PV × Int × Int × Bool × Bool × List Int)) : (ev GG gm_slices_Concat__int_int lm_slices_Concat__int_int xb_slices_Concat__int_int_1 (sx_slices_Concat__int_int_1 x) (fun S => forgetT [6, 25, 26, 27] S fun S => prepT [6, 25, 26, 27] [] S fun S => .chk (sh_slices_Concat__int_int_1.ok S) (.leaf (.inl (sa_slices_Concat__int_int_1 S)))) kb_slices_Concat__int_int_1).run = st_slices_Concat__int_int_1 x.1 x.2.1 x.2.2.1 x.2.2.2.1 x.2.2.2.2.1 x.2.2.2.2.2.1 x.2.2.2.2.2.2.1 x.2.2.2.2.2.2.2 := by kernel_rfl
theorem la_slices_Concat__int_int_1 : LamAt Tryd.prog GG lm_slices_Concat__int_int 1 (.loop [6, 25, 26, 27] xb_slices_Concat__int_int_1.erase) := lam_loop (body := xb_slices_Concat__int_int_1) (Λ' := lm_slices_Concat__int_int) gk_slices_Concat__int_int (⟨trivial, ⟨⟨trivial, trivial⟩, ⟨⟨trivial, trivial⟩, trivial⟩⟩⟩) (fun S => (by kernel_rfl : sh_slices_Concat__int_int_1.build S = sx_slices_Concat__int_int_1 (sa_slices_Concat__int_int_1 S))) kk_slices_Concat__int_int_1 sr_slices_Concat__int_int_1 (fun _ _ _ => rfl)
theorem sr_slices_Concat__int_int_0 (x : (Bool × Bool × List PV × Int × Bool × Bool × List PV × Int × Int)) : (ev GG gm_slices_Concat__int_int lm_slices_Concat__int_int xb_slices_Concat__int_int_0 (sx_slices_Concat__int_int_0 x) (fun S => forgetT [0, 3, 9, 10, 11] S fun S => prepT [0, 3, 9, 10, 11] [] S fun S => .chk (sh_slices_Concat__int_int_0.ok S) (.leaf (.inl (sa_slices_Concat__int_int_0 S)))) kb_slices_Concat__int_int_0).run = st_slices_Concat__int_int_0 x.1 x.2.1 x.2.2.1 x.2.2.2.1 x.2.2.2.2.1 x.2.2.2.2.2.1 x.2.2.2.2.2.2.1 x.2.2.2.2.2.2.2.1 x.2.2.2.2.2.2.2.2 := by kernel_rfl
theorem la_slices_Concat__int_int_0 : LamAt Tryd.prog GG lm_slices_Concat__int_int 0 (.loop [0, 3, 9, 10, 11] xb_slices_Concat__int_int_0.erase) := lam_loop (body := xb_slices_Concat__int_int_0) (Λ' := lm_slices_Concat__int_int) gk_slices_Concat__int_int (⟨trivial, ⟨⟨trivial, trivial⟩, ⟨⟨trivial, ⟨trivial, ⟨trivial, ⟨trivial, trivial⟩⟩⟩⟩, trivial⟩⟩⟩) (fun S => (by kernel_rfl : sh_slices_Concat__int_int_0.build S = sx_slices_Concat__int_int_0 (sa_slices_Concat__int_int_0 S))) kk_slices_Concat__int_int_0 sr_slices_Concat__int_int_0 (fun _ _ _ => rfl)
def go_slices_Concat__int_int (b0 : Bool) (b1 : Bool) (es2 : List PV) : Option (Bool × Bool × List Int) :=
  (lp_slices_Concat__int_int_0 b0 b1 es2 0 b0 b1 es2 (((List.length es2) : Nat) : Int) 0).bind fun y12 =>
  (go_slices_Grow true true [] y12.2.2.2).bind fun r13 =>
  (lp_slices_Concat__int_int_1 y12.1 y12.2.1 y12.2.2.1 (((List.length y12.2.2.1) : Nat) : Int) 0 r13.1 false r13.2.2).bind fun y22 =>
  some (y22.1, y22.2.1, y22.2.2)
def em_slices_Concat__int_int (r : (Bool × Bool × List Int)) : PV := (.isl r.1 r.2.1 .i64 r.2.2)
def rh_slices_Concat__int_int : Shp := (.isl .i64)
def ra_slices_Concat__int_int (v : PV) : (Bool × Bool × List Int) := (v.nl, v.ex, v.ints)
def kf_slices_Concat__int_int (v : PV) : Tree (Bool × Bool × List Int) := .chk (rh_slices_Concat__int_int.ok v) (.leaf (ra_slices_Concat__int_int v))
theorem rn_slices_Concat__int_int (b0 : Bool) (b1 : Bool) (es2 : List PV) : (ev GG gm_slices_Concat__int_int lm_slices_Concat__int_int xr_slices_Concat__int_int ⟨slots 36 0 [(0, .p (.sl b0 b1 1 es2))], []⟩ (fun S => finT Tryd.prog rs_slices_Concat__int_int S kf_slices_Concat__int_int) (retT Tryd.prog rs_slices_Concat__int_int kf_slices_Concat__int_int)).run = go_slices_Concat__int_int b0 b1 es2 := by kernel_rfl
theorem ok_slices_Concat__int_int (b0 : Bool) (b1 : Bool) (es2 : List PV) (r : (Bool × Bool × List Int)) (h : go_slices_Concat__int_int b0 b1 es2 = some r) : FunEq Tryd.prog GG 59 [(.sl b0 b1 1 es2)] (em_slices_Concat__int_int r) :=
  fun_of_ev (x := xr_slices_Concat__int_int) (Λ := lm_slices_Concat__int_int) gk_slices_Concat__int_int [[0, 3, 9, 10, 11], [6, 25, 26, 27]] Tryd.func59 rfl (by kernel_rfl) ir_slices_Concat__int_int (by kernel_rfl) (congrArg Array.toList Tryd.results59) Tryd.ntmps59 (⟨trivial, ⟨trivial, ⟨⟨trivial, la_slices_Concat__int_int_0⟩, ⟨trivial, ⟨⟨trivial, la_slices_Concat__int_int_1⟩, ⟨trivial, trivial⟩⟩⟩⟩⟩⟩) (leaf_of fun v => (by kernel_rfl : rh_slices_Concat__int_int.build v = em_slices_Concat__int_int (ra_slices_Concat__int_int v))) (by kernel_rfl) ((rn_slices_Concat__int_int b0 b1 es2).trans h)
def as_slices_Concat__int_int : List Shp := [(.sl 1)]
def ga_slices_Concat__int_int (vs : List PV) : Option (Bool × Bool × List Int) := go_slices_Concat__int_int ((tls 0 vs).headD .nilSl).nl ((tls 0 vs).headD .nilSl).ex ((tls 0 vs).headD .nilSl).elts
theorem at_slices_Concat__int_int : FnAt Tryd.prog GG 59 as_slices_Concat__int_int ga_slices_Concat__int_int em_slices_Concat__int_int := fun vs h r hr => by
  have e : Shp.buildL as_slices_Concat__int_int vs = [(.sl ((tls 0 vs).headD .nilSl).nl ((tls 0 vs).headD .nilSl).ex 1 ((tls 0 vs).headD .nilSl).elts)] := by kernel_rfl
  rw [← Shp.buildL_eq _ h, e]
  exact .inl ⟨by decide, ok_slices_Concat__int_int _ _ _ r hr⟩
def xr_report_Right_1 : XR := (.seq (.ops false [⟨⟨(some 2), (.mv (.c (.bool false))), none⟩, none⟩]) (.seq (.ops false [⟨⟨(some 3), (.mv (.tmp 0)), none⟩, none⟩, ⟨⟨(some 4), (.bin .gtr (.tmp 3) (.c (.int .i64 (1125899906842624)))), none⟩, none⟩, ⟨⟨(some 5), (.mv (.tmp 4)), none⟩, none⟩, ⟨⟨(some 6), (.mv (.tmp 0)), (some (5, false))⟩, none⟩, ⟨⟨(some 7), (.bin .lss (.tmp 6) (.c (.int .i64 (-1125899906842624)))), (some (5, false))⟩, none⟩, ⟨⟨(some 8), (.pick (.tmp 5) (.c (.bool true)) (.tmp 7)), none⟩, none⟩, ⟨⟨(some 2), (.mv (.tmp 8)), none⟩, none⟩]) .ret))
def rs_report_Right_1 : List ResultVar := [(.tmp 2)]
theorem ir_report_Right_1 : compCode Tryd.prog (Tryd.f60.body.getD .skip) [] = some (xr_report_Right_1.erase, []) := by kernel_rfl
def gm_report_Right_1 : Gam := Gam.bot
theorem gk_report_Right_1 : GamOk Tryd.prog GG gm_report_Right_1 := GamOk.bot
def lm_report_Right_1 : Lam := fun _ j S kn ke => match j with
  | _ => .fail
def go_report_Right_1 (n0 : Int) : Option Bool :=
  bif (decide (n0 > 1125899906842624)) then
   some true
  else
   some (decide (n0 < (-1125899906842624)))
def em_report_Right_1 (r : Bool) : PV := (.bool r)
def rh_report_Right_1 : Shp := .bool
def ra_report_Right_1 (v : PV) : Bool := v.tru
def kf_report_Right_1 (v : PV) : Tree Bool := .chk (rh_report_Right_1.ok v) (.leaf (ra_report_Right_1 v))
theorem rn_report_Right_1 (n0 : Int) : (ev GG gm_report_Right_1 lm_report_Right_1 xr_report_Right_1 ⟨slots 9 0 [(0, .p (.int .i64 n0))], []⟩ (fun S => finT Tryd.prog rs_report_Right_1 S kf_report_Right_1) (retT Tryd.prog rs_report_Right_1 kf_report_Right_1)).run = go_report_Right_1 n0 := by kernel_rfl
theorem ok_report_Right_1 (n0 : Int) (r : Bool) (h : go_report_Right_1 n0 = some r) : FunEq Tryd.prog GG 60 [(.int .i64 n0)] (em_report_Right_1 r) :=
  fun_of_ev (x := xr_report_Right_1) (Λ := lm_report_Right_1) gk_report_Right_1 [] Tryd.func60 rfl (by kernel_rfl) ir_report_Right_1 (by kernel_rfl) (congrArg Array.toList Tryd.results60) Tryd.ntmps60 (⟨trivial, ⟨trivial, trivial⟩⟩) (leaf_of fun v => (by kernel_rfl : rh_report_Right_1.build v = em_report_Right_1 (ra_report_Right_1 v))) (by kernel_rfl) ((rn_report_Right_1 n0).trans h)
def as_report_Right_1 : List Shp := [(.int .i64)]
def ga_report_Right_1 (vs : List PV) : Option Bool := go_report_Right_1 ((tls 0 vs).headD .nilSl).num
theorem at_report_Right_1 : FnAt Tryd.prog GG 60 as_report_Right_1 ga_report_Right_1 em_report_Right_1 := fun vs h r hr => by
  have e : Shp.buildL as_report_Right_1 vs = [(.int .i64 ((tls 0 vs).headD .nilSl).num)] := by kernel_rfl
  rw [← Shp.buildL_eq _ h, e]
  exact .inl ⟨by decide, ok_report_Right_1 _ r hr⟩
def xb_slices_IndexFunc__int_int_0 : XR := (.seq (.ops false [⟨⟨(some 9), (.bin .lss (.tmp 8) (.tmp 7)), none⟩, none⟩]) (.seq (.cond (.tmp 9) .skip (.exit 0)) (.seq (.block 1 (.seq (.ops false [⟨⟨(some 10), (.mv (.tmp 8)), none⟩, none⟩, ⟨⟨(some 5), (.mv (.tmp 10)), none⟩, none⟩]) (.seq (.ops false [⟨⟨(some 11), (.mv (.tmp 1)), none⟩, none⟩, ⟨⟨(some 12), (.mv (.tmp 0)), none⟩, none⟩, ⟨⟨(some 13), (.mv (.tmp 5)), none⟩, none⟩, ⟨⟨(some 14), (.ixA 1 (.tmp 12) (.tmp 13)), none⟩, none⟩, ⟨⟨(some 15), (.ld false 1 (.tmp 14)), none⟩, (some (.int .i64))⟩, ⟨⟨(some 16), (.call (.tmp 11) [(.tmp 15)]), none⟩, none⟩]) (.cond (.tmp 16) (.seq (.ops false [⟨⟨(some 17), (.mv (.tmp 5)), none⟩, none⟩, ⟨⟨(some 4), (.mv (.tmp 17)), none⟩, none⟩]) .ret) .skip)))) (.ops false [⟨⟨(some 18), (.bin .add (.tmp 8) (.c (.int .i64 (1)))), none⟩, none⟩, ⟨⟨(some 8), (.mv (.tmp 18)), none⟩, none⟩]))))
def xr_slices_IndexFunc__int_int : XR := (.seq (.ops false [⟨⟨(some 4), (.mv (.c (.int .i64 (0)))), none⟩, none⟩]) (.seq (.seq (.ops false [⟨⟨(some 6), (.mv (.tmp 0)), none⟩, none⟩, ⟨⟨(some 7), (.len (.tmp 6)), none⟩, none⟩, ⟨⟨(some 8), (.mv (.c (.int .i64 (0)))), none⟩, none⟩]) (.block 0 (.loop 0 [0, 1, 7, 8] xb_slices_IndexFunc__int_int_0))) (.seq (.ops false [⟨⟨(some 4), (.mv (.c (.int .i64 (-1)))), none⟩, none⟩]) .ret)))
def rs_slices_IndexFunc__int_int : List ResultVar := [(.tmp 4)]
theorem ir_slices_IndexFunc__int_int : compCode Tryd.prog (Tryd.f66.body.getD .skip) [[0, 1, 7, 8]] = some (xr_slices_IndexFunc__int_int.erase, []) := by kernel_rfl
def gm_slices_IndexFunc__int_int : Gam := (Gam.fn 60 as_report_Right_1 ga_report_Right_1 em_report_Right_1 Gam.bot)
theorem gk_slices_IndexFunc__int_int : GamOk Tryd.prog GG gm_slices_IndexFunc__int_int := (GamOk.fn at_report_Right_1 GamOk.bot)
def st_slices_IndexFunc__int_int_0 (b3 : Bool) (b4 : Bool) (l5 : List Int) (n6 : Int) (n7 : Int) : Option (((Bool × Bool × List Int × Int × Int)) ⊕ ((Unit) ⊕ (Int))) :=
  bif (decide (n7 < n6)) then
   bif (decide (0 ≤ n7)) then
    bif (decide (n7 < (((List.length l5) : Nat) : Int))) then
     bif (decide ((Int.toNat n7) < (List.length l5))) then
      (go_report_Right_1 (List.getD l5 (Int.toNat n7) 0)).bind fun r8 =>
      bif r8 then
       some (Sum.inr (Sum.inr n7))
      else
       some (Sum.inl (b3, b4, l5, n6, (IntKind.wrap .i64 (n7 + 1))))
     else none
    else none
   else none
  else
   some (Sum.inr (Sum.inl ()))
def lp_slices_IndexFunc__int_int_0 (b3 : Bool) (b4 : Bool) (l5 : List Int) (n6 : Int) (n7 : Int) : Option ((Unit) ⊕ (Int)) := loopN (X := (Bool × Bool × List Int × Int × Int)) (fun x => st_slices_IndexFunc__int_int_0 x.1 x.2.1 x.2.2.1 x.2.2.2.1 x.2.2.2.2) (b3, b4, l5, n6, n7)
def sh_slices_IndexFunc__int_int_0 : StSh := ⟨19, [(0, (.p (.isl .i64))), (1, (.p (.fn 60 []))), (7, (.p (.int .i64))), (8, (.p (.int .i64)))], []⟩
def sx_slices_IndexFunc__int_int_0 (x : (Bool × Bool × List Int × Int × Int)) : St := ⟨slots 19 0 [(0, (.p (.isl x.1 x.2.1 .i64 x.2.2.1))), (1, (.p (.fn 60 []))), (7, (.p (.int .i64 x.2.2.2.1))), (8, (.p (.int .i64 x.2.2.2.2)))], []⟩
def sa_slices_IndexFunc__int_int_0 (S : St) : (Bool × Bool × List Int × Int × Int) := (((tls 0 S.t).headD .any).pv.nl, ((tls 0 S.t).headD .any).pv.ex, ((tls 0 S.t).headD .any).pv.ints, ((tls 7 S.t).headD .any).pv.num, ((tls 8 S.t).headD .any).pv.num)
def tz_slices_IndexFunc__int_int_0_1 : StSh := ⟨19, [(4, (.p (.int .i64)))], []⟩
def tx_slices_IndexFunc__int_int_0_1 (x : Int) : St := ⟨slots 19 0 [(4, (.p (.int .i64 x)))], []⟩
def ta_slices_IndexFunc__int_int_0_1 (S : St) : Int := ((tls 4 S.t).headD .any).pv.num
def tz_slices_IndexFunc__int_int_0_0 : StSh := ⟨19, [], []⟩
def tx_slices_IndexFunc__int_int_0_0 (x : Unit) : St := ⟨slots 19 0 [], []⟩
def ta_slices_IndexFunc__int_int_0_0 (S : St) : Unit := ()
def kb_slices_IndexFunc__int_int_0 : Exit → St → Tree (((Bool × Bool × List Int × Int × Int)) ⊕ ((Unit) ⊕ (Int))) := (exOne (.exit 0) [] tz_slices_IndexFunc__int_int_0_0 ta_slices_IndexFunc__int_int_0_0 (fun y => Sum.inr ((Sum.inl y))) (exOne .ret [4] tz_slices_IndexFunc__int_int_0_1 ta_slices_IndexFunc__int_int_0_1 (fun y => Sum.inr ((Sum.inr y))) exNil))
def ky_slices_IndexFunc__int_int_0 : Dec ((Unit) ⊕ (Int)) := fun _ y ke => .sum y (fun a => ke ((.exit 0) : EK).ex (tx_slices_IndexFunc__int_int_0_0 a)) (fun y' => ke (.ret : EK).ex (tx_slices_IndexFunc__int_int_0_1 y'))
theorem kk_slices_IndexFunc__int_int_0 : ExOk Sum.inr kb_slices_IndexFunc__int_int_0 ky_slices_IndexFunc__int_int_0 := (ExOk.one (acc := ta_slices_IndexFunc__int_int_0_0) (bY := tx_slices_IndexFunc__int_int_0_0) (inj1 := fun y => (Sum.inl y)) (fun S => by kernel_rfl) (fun y _ ke => .inr (by kernel_rfl)) (ExOk.one (acc := ta_slices_IndexFunc__int_int_0_1) (bY := tx_slices_IndexFunc__int_int_0_1) (inj1 := fun y => (Sum.inr y)) (fun S => by kernel_rfl) (fun y _ ke => .inr (by kernel_rfl)) ExOk.nil))
def lm_slices_IndexFunc__int_int : Lam := fun _ j S kn ke => match j with
  | 0 => prepT [0, 1, 7, 8] [] S fun S => .chk (sh_slices_IndexFunc__int_int_0.ok S) (.bind (loopN (fun x => st_slices_IndexFunc__int_int_0 x.1 x.2.1 x.2.2.1 x.2.2.2.1 x.2.2.2.2) (sa_slices_IndexFunc__int_int_0 S)) fun y => ky_slices_IndexFunc__int_int_0 _ y ke)
  | _ => .fail
theorem sr_slices_IndexFunc__int_int_0 (x : (Bool × Bool × List Int × Int × Int)) : (ev GG gm_slices_IndexFunc__int_int lm_slices_IndexFunc__int_int xb_slices_IndexFunc__int_int_0 (sx_slices_IndexFunc__int_int_0 x) (fun S => forgetT [0, 1, 7, 8] S fun S => prepT [0, 1, 7, 8] [] S fun S => .chk (sh_slices_IndexFunc__int_int_0.ok S) (.leaf (.inl (sa_slices_IndexFunc__int_int_0 S)))) kb_slices_IndexFunc__int_int_0).run = st_slices_IndexFunc__int_int_0 x.1 x.2.1 x.2.2.1 x.2.2.2.1 x.2.2.2.2 := by kernel_rfl
theorem la_slices_IndexFunc__int_int_0 : LamAt Tryd.prog GG lm_slices_IndexFunc__int_int 0 (.loop [0, 1, 7, 8] xb_slices_IndexFunc__int_int_0.erase) := lam_loop (body := xb_slices_IndexFunc__int_int_0) (Λ' := lm_slices_IndexFunc__int_int) gk_slices_IndexFunc__int_int (⟨trivial, ⟨⟨trivial, trivial⟩, ⟨⟨trivial, ⟨trivial, ⟨⟨trivial, trivial⟩, trivial⟩⟩⟩, trivial⟩⟩⟩) (fun S => (by kernel_rfl : sh_slices_IndexFunc__int_int_0.build S = sx_slices_IndexFunc__int_int_0 (sa_slices_IndexFunc__int_int_0 S))) kk_slices_IndexFunc__int_int_0 sr_slices_IndexFunc__int_int_0 (fun _ _ _ => rfl)
def go_slices_IndexFunc__int_int (b0 : Bool) (b1 : Bool) (l2 : List Int) : Option Int :=
  (lp_slices_IndexFunc__int_int_0 b0 b1 l2 (((List.length l2) : Nat) : Int) 0).bind fun y9 =>
  Sum.elim (fun z10 =>
   some (-1)) (fun z11 =>
   some z11) y9
def em_slices_IndexFunc__int_int (r : Int) : PV := (.int .i64 r)
def rh_slices_IndexFunc__int_int : Shp := (.int .i64)
def ra_slices_IndexFunc__int_int (v : PV) : Int := v.num
def kf_slices_IndexFunc__int_int (v : PV) : Tree Int := .chk (rh_slices_IndexFunc__int_int.ok v) (.leaf (ra_slices_IndexFunc__int_int v))
theorem rn_slices_IndexFunc__int_int (b0 : Bool) (b1 : Bool) (l2 : List Int) : (ev GG gm_slices_IndexFunc__int_int lm_slices_IndexFunc__int_int xr_slices_IndexFunc__int_int ⟨slots 19 0 [(0, .p (.isl b0 b1 .i64 l2)), (1, .p (.fn 60 []))], []⟩ (fun S => finT Tryd.prog rs_slices_IndexFunc__int_int S kf_slices_IndexFunc__int_int) (retT Tryd.prog rs_slices_IndexFunc__int_int kf_slices_IndexFunc__int_int)).run = go_slices_IndexFunc__int_int b0 b1 l2 := by kernel_rfl
theorem ok_slices_IndexFunc__int_int (b0 : Bool) (b1 : Bool) (l2 : List Int) (r : Int) (h : go_slices_IndexFunc__int_int b0 b1 l2 = some r) : FunEq Tryd.prog GG 66 [(.isl b0 b1 .i64 l2), (.fn 60 [])] (em_slices_IndexFunc__int_int r) :=
  fun_of_ev (x := xr_slices_IndexFunc__int_int) (Λ := lm_slices_IndexFunc__int_int) gk_slices_IndexFunc__int_int [[0, 1, 7, 8]] Tryd.func66 rfl (by kernel_rfl) ir_slices_IndexFunc__int_int (by kernel_rfl) (congrArg Array.toList Tryd.results66) Tryd.ntmps66 (⟨trivial, ⟨⟨trivial, la_slices_IndexFunc__int_int_0⟩, ⟨trivial, trivial⟩⟩⟩) (leaf_of fun v => (by kernel_rfl : rh_slices_IndexFunc__int_int.build v = em_slices_IndexFunc__int_int (ra_slices_IndexFunc__int_int v))) (by kernel_rfl) ((rn_slices_IndexFunc__int_int b0 b1 l2).trans h)
def as_slices_IndexFunc__int_int : List Shp := [(.isl .i64), (.fn 60 [])]
def ga_slices_IndexFunc__int_int (vs : List PV) : Option Int := go_slices_IndexFunc__int_int ((tls 0 vs).headD .nilSl).nl ((tls 0 vs).headD .nilSl).ex ((tls 0 vs).headD .nilSl).ints
theorem at_slices_IndexFunc__int_int : FnAt Tryd.prog GG 66 as_slices_IndexFunc__int_int ga_slices_IndexFunc__int_int em_slices_IndexFunc__int_int := fun vs h r hr => by
  have e : Shp.buildL as_slices_IndexFunc__int_int vs = [(.isl ((tls 0 vs).headD .nilSl).nl ((tls 0 vs).headD .nilSl).ex .i64 ((tls 0 vs).headD .nilSl).ints), (.fn 60 [])] := by kernel_rfl
  rw [← Shp.buildL_eq _ h, e]
  exact .inl ⟨by decide, ok_slices_IndexFunc__int_int _ _ _ r hr⟩
def xr_slices_ContainsFunc__int_int : XR := (.seq (.ops false [⟨⟨(some 4), (.mv (.c (.bool false))), none⟩, none⟩]) (.seq (.ops false [⟨⟨(some 5), (.mv (.tmp 0)), none⟩, none⟩, ⟨⟨(some 6), (.mv (.tmp 1)), none⟩, none⟩, ⟨⟨(some 7), (.call (.func 66) [(.tmp 5), (.tmp 6)]), none⟩, none⟩, ⟨⟨(some 8), (.bin .geq (.tmp 7) (.c (.int .i64 (0)))), none⟩, none⟩, ⟨⟨(some 4), (.mv (.tmp 8)), none⟩, none⟩]) .ret))
def rs_slices_ContainsFunc__int_int : List ResultVar := [(.tmp 4)]
theorem ir_slices_ContainsFunc__int_int : compCode Tryd.prog (Tryd.f52.body.getD .skip) [] = some (xr_slices_ContainsFunc__int_int.erase, []) := by kernel_rfl
def gm_slices_ContainsFunc__int_int : Gam := (Gam.fn 66 as_slices_IndexFunc__int_int ga_slices_IndexFunc__int_int em_slices_IndexFunc__int_int Gam.bot)
theorem gk_slices_ContainsFunc__int_int : GamOk Tryd.prog GG gm_slices_ContainsFunc__int_int := (GamOk.fn at_slices_IndexFunc__int_int GamOk.bot)
def lm_slices_ContainsFunc__int_int : Lam := fun _ j S kn ke => match j with
  | _ => .fail
def go_slices_ContainsFunc__int_int (b0 : Bool) (b1 : Bool) (l2 : List Int) : Option Bool :=
  (go_slices_IndexFunc__int_int b0 b1 l2).bind fun r3 =>
  some (decide (r3 ≥ 0))
def em_slices_ContainsFunc__int_int (r : Bool) : PV := (.bool r)
def rh_slices_ContainsFunc__int_int : Shp := .bool
def ra_slices_ContainsFunc__int_int (v : PV) : Bool := v.tru
def kf_slices_ContainsFunc__int_int (v : PV) : Tree Bool := .chk (rh_slices_ContainsFunc__int_int.ok v) (.leaf (ra_slices_ContainsFunc__int_int v))
theorem rn_slices_ContainsFunc__int_int (b0 : Bool) (b1 : Bool) (l2 : List Int) : (ev GG gm_slices_ContainsFunc__int_int lm_slices_ContainsFunc__int_int xr_slices_ContainsFunc__int_int ⟨slots 9 0 [(0, .p (.isl b0 b1 .i64 l2)), (1, .p (.fn 60 []))], []⟩ (fun S => finT Tryd.prog rs_slices_ContainsFunc__int_int S kf_slices_ContainsFunc__int_int) (retT Tryd.prog rs_slices_ContainsFunc__int_int kf_slices_ContainsFunc__int_int)).run = go_slices_ContainsFunc__int_int b0 b1 l2 := by kernel_rfl
theorem ok_slices_ContainsFunc__int_int (b0 : Bool) (b1 : Bool) (l2 : List Int) (r : Bool) (h : go_slices_ContainsFunc__int_int b0 b1 l2 = some r) : FunEq Tryd.prog GG 52 [(.isl b0 b1 .i64 l2), (.fn 60 [])] (em_slices_ContainsFunc__int_int r) :=
  fun_of_ev (x := xr_slices_ContainsFunc__int_int) (Λ := lm_slices_ContainsFunc__int_int) gk_slices_ContainsFunc__int_int [] Tryd.func52 rfl (by kernel_rfl) ir_slices_ContainsFunc__int_int (by kernel_rfl) (congrArg Array.toList Tryd.results52) Tryd.ntmps52 (⟨trivial, ⟨trivial, trivial⟩⟩) (leaf_of fun v => (by kernel_rfl : rh_slices_ContainsFunc__int_int.build v = em_slices_ContainsFunc__int_int (ra_slices_ContainsFunc__int_int v))) (by kernel_rfl) ((rn_slices_ContainsFunc__int_int b0 b1 l2).trans h)
def as_slices_ContainsFunc__int_int : List Shp := [(.isl .i64), (.fn 60 [])]
def ga_slices_ContainsFunc__int_int (vs : List PV) : Option Bool := go_slices_ContainsFunc__int_int ((tls 0 vs).headD .nilSl).nl ((tls 0 vs).headD .nilSl).ex ((tls 0 vs).headD .nilSl).ints
theorem at_slices_ContainsFunc__int_int : FnAt Tryd.prog GG 52 as_slices_ContainsFunc__int_int ga_slices_ContainsFunc__int_int em_slices_ContainsFunc__int_int := fun vs h r hr => by
  have e : Shp.buildL as_slices_ContainsFunc__int_int vs = [(.isl ((tls 0 vs).headD .nilSl).nl ((tls 0 vs).headD .nilSl).ex .i64 ((tls 0 vs).headD .nilSl).ints), (.fn 60 [])] := by kernel_rfl
  rw [← Shp.buildL_eq _ h, e]
  exact .inl ⟨by decide, ok_slices_ContainsFunc__int_int _ _ _ r hr⟩
def xr_report_Right : XR := (.seq (.ops false [⟨⟨(some 1), (.box 46 (.tmp 0)), none⟩, none⟩, ⟨⟨(some 2), (.mv (.c (.bool false))), none⟩, none⟩]) (.seq (.ops false [⟨⟨(some 3), (.mv (.func 60)), none⟩, none⟩]) (.seq (.ops false [⟨⟨(some 5), (.fldA 2 (.tmp 1)), none⟩, none⟩, ⟨⟨(some 6), (.ld false 1 (.tmp 5)), none⟩, (some (.isl .i64))⟩, ⟨⟨(some 7), (.len (.tmp 6)), none⟩, none⟩, ⟨⟨(some 8), (.bin .gtr (.tmp 7) (.c (.int .i64 (0)))), none⟩, none⟩, ⟨⟨(some 4), (.mv (.tmp 8)), none⟩, none⟩]) (.seq (.ops false [⟨⟨(some 9), (.fldA 0 (.tmp 1)), none⟩, none⟩, ⟨⟨(some 10), (.ld false 1 (.tmp 9)), none⟩, (some (.int .i64))⟩, ⟨⟨(some 11), (.bin .geq (.tmp 10) (.c (.int .i64 (0)))), none⟩, none⟩, ⟨⟨(some 12), (.mv (.tmp 11)), none⟩, none⟩, ⟨⟨(some 13), (.fldA 0 (.tmp 1)), (some (12, true))⟩, none⟩, ⟨⟨(some 14), (.ld false 1 (.tmp 13)), (some (12, true))⟩, (some (.int .i64))⟩, ⟨⟨(some 15), (.bin .leq (.tmp 14) (.c (.int .i64 (255)))), (some (12, true))⟩, none⟩, ⟨⟨(some 16), (.pick (.tmp 12) (.tmp 15) (.c (.bool false))), none⟩, none⟩, ⟨⟨(some 17), (.mv (.tmp 16)), none⟩, none⟩, ⟨⟨(some 18), (.fldA 1 (.tmp 1)), (some (17, true))⟩, none⟩, ⟨⟨(some 19), (.ld false 1 (.tmp 18)), (some (17, true))⟩, (some (.int .i64))⟩, ⟨⟨(some 20), (.bin .geq (.tmp 19) (.c (.int .i64 (0)))), (some (17, true))⟩, none⟩, ⟨⟨(some 21), (.pick (.tmp 17) (.tmp 20) (.c (.bool false))), none⟩, none⟩, ⟨⟨(some 22), (.mv (.tmp 21)), none⟩, none⟩, ⟨⟨(some 23), (.fldA 1 (.tmp 1)), (some (22, true))⟩, none⟩, ⟨⟨(some 24), (.ld false 1 (.tmp 23)), (some (22, true))⟩, (some (.int .i64))⟩, ⟨⟨(some 25), (.bin .leq (.tmp 24) (.c (.int .i64 (4294967295)))), (some (22, true))⟩, none⟩, ⟨⟨(some 26), (.pick (.tmp 22) (.tmp 25) (.c (.bool false))), none⟩, none⟩, ⟨⟨(some 27), (.mv (.tmp 26)), none⟩, none⟩, ⟨⟨(some 28), (.fldA 2 (.tmp 1)), (some (27, true))⟩, none⟩, ⟨⟨(some 29), (.ld false 1 (.tmp 28)), (some (27, true))⟩, (some (.isl .i64))⟩, ⟨⟨(some 30), (.len (.tmp 29)), (some (27, true))⟩, none⟩, ⟨⟨(some 31), (.bin .leq (.tmp 30) (.c (.int .i64 (4)))), (some (27, true))⟩, none⟩, ⟨⟨(some 32), (.pick (.tmp 27) (.tmp 31) (.c (.bool false))), none⟩, none⟩, ⟨⟨(some 33), (.mv (.tmp 32)), none⟩, none⟩, ⟨⟨(some 34), (.fldA 2 (.tmp 1)), (some (33, true))⟩, none⟩, ⟨⟨(some 35), (.ld false 1 (.tmp 34)), (some (33, true))⟩, (some (.isl .i64))⟩, ⟨⟨(some 36), (.len (.tmp 35)), (some (33, true))⟩, none⟩, ⟨⟨(some 37), (.fldA 3 (.tmp 1)), (some (33, true))⟩, none⟩, ⟨⟨(some 38), (.ld false 1 (.tmp 37)), (some (33, true))⟩, (some (.isl .i64))⟩, ⟨⟨(some 39), (.len (.tmp 38)), (some (33, true))⟩, none⟩, ⟨⟨(some 40), (.bin .eql (.tmp 36) (.tmp 39)), (some (33, true))⟩, none⟩, ⟨⟨(some 41), (.pick (.tmp 33) (.tmp 40) (.c (.bool false))), none⟩, none⟩, ⟨⟨(some 42), (.mv (.tmp 41)), none⟩, none⟩, ⟨⟨(some 43), (.mv (.tmp 4)), (some (42, true))⟩, none⟩, ⟨⟨(some 44), (.fldA 0 (.tmp 1)), (some (42, true))⟩, none⟩, ⟨⟨(some 45), (.ld false 1 (.tmp 44)), (some (42, true))⟩, (some (.int .i64))⟩, ⟨⟨(some 46), (.bin .and (.tmp 45) (.c (.int .i64 (32)))), (some (42, true))⟩, none⟩, ⟨⟨(some 47), (.bin .neq (.tmp 46) (.c (.int .i64 (0)))), (some (42, true))⟩, none⟩, ⟨⟨(some 48), (.binB false (.tmp 43) (.tmp 47)), (some (42, true))⟩, none⟩, ⟨⟨(some 49), (.pick (.tmp 42) (.tmp 48) (.c (.bool false))), none⟩, none⟩, ⟨⟨(some 50), (.mv (.tmp 49)), none⟩, none⟩, ⟨⟨(some 51), (.fldA 2 (.tmp 1)), (some (50, true))⟩, none⟩, ⟨⟨(some 52), (.ld false 1 (.tmp 51)), (some (50, true))⟩, (some (.isl .i64))⟩, ⟨⟨(some 53), (.fldA 3 (.tmp 1)), (some (50, true))⟩, none⟩, ⟨⟨(some 54), (.ld false 1 (.tmp 53)), (some (50, true))⟩, (some (.isl .i64))⟩, ⟨⟨(some 55), (.bsl 22 none 1 [(.tmp 52), (.tmp 54)]), (some (50, true))⟩, none⟩, ⟨⟨(some 56), (.call (.func 59) [(.tmp 55)]), (some (50, true))⟩, none⟩, ⟨⟨(some 57), (.mv (.tmp 3)), (some (50, true))⟩, none⟩, ⟨⟨(some 58), (.call (.func 52) [(.tmp 56), (.tmp 57)]), (some (50, true))⟩, none⟩, ⟨⟨(some 59), (.un .not (.tmp 58)), (some (50, true))⟩, none⟩, ⟨⟨(some 60), (.pick (.tmp 50) (.tmp 59) (.c (.bool false))), none⟩, none⟩, ⟨⟨(some 2), (.mv (.tmp 60)), none⟩, none⟩]) .ret))))
def rs_report_Right : List ResultVar := [(.tmp 2)]
theorem ir_report_Right : compCode Tryd.prog (Tryd.f35.body.getD .skip) [] = some (xr_report_Right.erase, []) := by kernel_rfl
def gm_report_Right : Gam := (Gam.fn 59 as_slices_Concat__int_int ga_slices_Concat__int_int em_slices_Concat__int_int (Gam.fn 52 as_slices_ContainsFunc__int_int ga_slices_ContainsFunc__int_int em_slices_ContainsFunc__int_int Gam.bot))
theorem gk_report_Right : GamOk Tryd.prog GG gm_report_Right := (GamOk.fn at_slices_Concat__int_int (GamOk.fn at_slices_ContainsFunc__int_int GamOk.bot))
def lm_report_Right : Lam := fun _ j S kn ke => match j with
  | _ => .fail
def go_report_Right (n0 : Int) (n1 : Int) (b2 : Bool) (b3 : Bool) (l4 : List Int) (b5 : Bool) (b6 : Bool) (l7 : List Int) : Option Bool :=
  bif (decide (n0 ≥ 0)) then
   bif (decide (n0 ≤ 255)) then
    bif (decide (n1 ≥ 0)) then
     bif (decide (n1 ≤ 4294967295)) then
      bif (decide ((((List.length l4) : Nat) : Int) ≤ 4)) then
       bif ((((List.length l4) : Nat) : Int) == (((List.length l7) : Nat) : Int)) then
        bif ((decide ((((List.length l4) : Nat) : Int) > 0)) == ((IntKind.wrap .i64 (bAnd .i64 n0 32)) != 0)) then
         (go_slices_Concat__int_int false true [(.isl b2 b3 .i64 l4), (.isl b5 b6 .i64 l7)]).bind fun r8 =>
         (go_slices_ContainsFunc__int_int r8.1 r8.2.1 r8.2.2).bind fun r9 =>
         some (!r9)
        else
         some false
       else
        some false
      else
       some false
     else
      some false
    else
     some false
   else
    some false
  else
   some false
def em_report_Right (r : Bool) : PV := (.bool r)
def rh_report_Right : Shp := .bool
def ra_report_Right (v : PV) : Bool := v.tru
def kf_report_Right (v : PV) : Tree Bool := .chk (rh_report_Right.ok v) (.leaf (ra_report_Right v))
theorem rn_report_Right (n0 : Int) (n1 : Int) (b2 : Bool) (b3 : Bool) (l4 : List Int) (b5 : Bool) (b6 : Bool) (l7 : List Int) : (ev GG gm_report_Right lm_report_Right xr_report_Right ⟨slots 61 0 [(0, .p (.agg [(.int .i64 n0), (.int .i64 n1), (.isl b2 b3 .i64 l4), (.isl b5 b6 .i64 l7)]))], []⟩ (fun S => finT Tryd.prog rs_report_Right S kf_report_Right) (retT Tryd.prog rs_report_Right kf_report_Right)).run = go_report_Right n0 n1 b2 b3 l4 b5 b6 l7 := by kernel_rfl
theorem ok_report_Right (n0 : Int) (n1 : Int) (b2 : Bool) (b3 : Bool) (l4 : List Int) (b5 : Bool) (b6 : Bool) (l7 : List Int) (r : Bool) (h : go_report_Right n0 n1 b2 b3 l4 b5 b6 l7 = some r) : FunEq Tryd.prog GG 35 [(.agg [(.int .i64 n0), (.int .i64 n1), (.isl b2 b3 .i64 l4), (.isl b5 b6 .i64 l7)])] (em_report_Right r) :=
  fun_of_ev (x := xr_report_Right) (Λ := lm_report_Right) gk_report_Right [] Tryd.func35 rfl (by kernel_rfl) ir_report_Right (by kernel_rfl) (congrArg Array.toList Tryd.results35) Tryd.ntmps35 (⟨trivial, ⟨trivial, ⟨trivial, ⟨trivial, trivial⟩⟩⟩⟩) (leaf_of fun v => (by kernel_rfl : rh_report_Right.build v = em_report_Right (ra_report_Right v))) (by kernel_rfl) ((rn_report_Right n0 n1 b2 b3 l4 b5 b6 l7).trans h)
def as_report_Right : List Shp := [(.agg [(.int .i64), (.int .i64), (.isl .i64), (.isl .i64)])]
def ga_report_Right (vs : List PV) : Option Bool := go_report_Right (((tls 0 vs).headD .nilSl).subs.headD .nilSl).num (((tls 0 vs).headD .nilSl).subs.tail.headD .nilSl).num (((tls 0 vs).headD .nilSl).subs.tail.tail.headD .nilSl).nl (((tls 0 vs).headD .nilSl).subs.tail.tail.headD .nilSl).ex (((tls 0 vs).headD .nilSl).subs.tail.tail.headD .nilSl).ints (((tls 0 vs).headD .nilSl).subs.tail.tail.tail.headD .nilSl).nl (((tls 0 vs).headD .nilSl).subs.tail.tail.tail.headD .nilSl).ex (((tls 0 vs).headD .nilSl).subs.tail.tail.tail.headD .nilSl).ints
theorem at_report_Right : FnAt Tryd.prog GG 35 as_report_Right ga_report_Right em_report_Right := fun vs h r hr => by
  have e : Shp.buildL as_report_Right vs = [(.agg [(.int .i64 (((tls 0 vs).headD .nilSl).subs.headD .nilSl).num), (.int .i64 (((tls 0 vs).headD .nilSl).subs.tail.headD .nilSl).num), (.isl (((tls 0 vs).headD .nilSl).subs.tail.tail.headD .nilSl).nl (((tls 0 vs).headD .nilSl).subs.tail.tail.headD .nilSl).ex .i64 (((tls 0 vs).headD .nilSl).subs.tail.tail.headD .nilSl).ints), (.isl (((tls 0 vs).headD .nilSl).subs.tail.tail.tail.headD .nilSl).nl (((tls 0 vs).headD .nilSl).subs.tail.tail.tail.headD .nilSl).ex .i64 (((tls 0 vs).headD .nilSl).subs.tail.tail.tail.headD .nilSl).ints)])] := by kernel_rfl
  rw [← Shp.buildL_eq _ h, e]
  exact .inl ⟨by decide, ok_report_Right _ _ _ _ _ _ _ _ r hr⟩
def xb_report_Encode_0 : XR := (.seq (.ops false [⟨⟨(some 29), (.bin .lss (.tmp 28) (.tmp 27)), none⟩, none⟩]) (.seq (.cond (.tmp 29) .skip (.exit 0)) (.seq (.block 1 (.seq (.ops false [⟨⟨(some 30), (.ixA 1 (.tmp 26) (.tmp 28)), none⟩, none⟩, ⟨⟨(some 31), (.ld false 1 (.tmp 30)), none⟩, (some (.int .i64))⟩, ⟨⟨(some 6), (.mv (.tmp 31)), none⟩, none⟩]) (.ops false [⟨⟨(some 32), (.mv (.tmp 4)), none⟩, none⟩, ⟨⟨(some 33), (.mv (.tmp 6)), none⟩, none⟩, ⟨⟨(some 34), (.callR 58 5 (.tmp 32) [(.tmp 33), (.c (.int .i64 (8)))]), none⟩, none⟩, ⟨⟨(some 4), (.mv (.tmp 34)), none⟩, none⟩]))) (.ops false [⟨⟨(some 35), (.bin .add (.tmp 28) (.c (.int .i64 (1)))), none⟩, none⟩, ⟨⟨(some 28), (.mv (.tmp 35)), none⟩, none⟩]))))
def xr_report_Encode : XR := (.seq (.ops false [⟨⟨(some 1), (.box 46 (.tmp 0)), none⟩, none⟩, ⟨⟨(some 2), (.mv (.c (.isl true true .u8 []))), none⟩, none⟩, ⟨⟨(some 3), (.mv (.c (.int .i64 (0)))), none⟩, none⟩]) (.seq (.seq (.ops false [⟨⟨(some 7), (.ld true 4 (.tmp 1)), none⟩, (some (.agg [(.int .i64), (.int .i64), (.isl .i64), (.isl .i64)]))⟩, ⟨⟨(some 8), (.call (.func 35) [(.tmp 7)]), none⟩, none⟩, ⟨⟨(some 9), (.un .not (.tmp 8)), none⟩, none⟩]) (.cond (.tmp 9) (.seq (.ops false [⟨⟨(some 2), (.mv (.c (.isl true true .u8 []))), none⟩, none⟩, ⟨⟨(some 3), (.mv (.c (.int .i64 (1)))), none⟩, none⟩]) .ret) .skip)) (.seq (.ops false [⟨⟨(some 10), (.fldA 0 (.tmp 1)), none⟩, none⟩, ⟨⟨(some 11), (.ld false 1 (.tmp 10)), none⟩, (some (.int .i64))⟩, ⟨⟨(some 12), (.cvtI .u8 (.tmp 11)), none⟩, none⟩, ⟨⟨(some 13), (.fldA 2 (.tmp 1)), none⟩, none⟩, ⟨⟨(some 14), (.ld false 1 (.tmp 13)), none⟩, (some (.isl .i64))⟩, ⟨⟨(some 15), (.len (.tmp 14)), none⟩, none⟩, ⟨⟨(some 16), (.cvtI .u8 (.tmp 15)), none⟩, none⟩, ⟨⟨(some 17), (.bsl 5 (some .u8) 1 [(.c (.int .u8 (78))), (.c (.int .u8 (82))), (.tmp 12), (.tmp 16)]), none⟩, none⟩, ⟨⟨(some 18), (.fldA 1 (.tmp 1)), none⟩, none⟩, ⟨⟨(some 19), (.ld false 1 (.tmp 18)), none⟩, (some (.int .i64))⟩, ⟨⟨(some 20), (.callR 58 5 (.tmp 17) [(.tmp 19), (.c (.int .i64 (4)))]), none⟩, none⟩, ⟨⟨(some 4), (.mv (.tmp 20)), none⟩, none⟩]) (.seq (.seq (.ops false [⟨⟨(some 21), (.fldA 2 (.tmp 1)), none⟩, none⟩, ⟨⟨(some 22), (.ld false 1 (.tmp 21)), none⟩, (some (.isl .i64))⟩, ⟨⟨(some 23), (.fldA 3 (.tmp 1)), none⟩, none⟩, ⟨⟨(some 24), (.ld false 1 (.tmp 23)), none⟩, (some (.isl .i64))⟩, ⟨⟨(some 25), (.bsl 22 none 1 [(.tmp 22), (.tmp 24)]), none⟩, none⟩, ⟨⟨(some 26), (.call (.func 59) [(.tmp 25)]), none⟩, none⟩, ⟨⟨(some 27), (.len (.tmp 26)), none⟩, none⟩, ⟨⟨(some 28), (.mv (.c (.int .i64 (0)))), none⟩, none⟩]) (.block 0 (.loop 0 [4, 26, 27, 28] xb_report_Encode_0))) (.seq (.ops false [⟨⟨(some 36), (.mv (.tmp 4)), none⟩, none⟩, ⟨⟨(some 37), (.mv (.tmp 4)), none⟩, none⟩, ⟨⟨(some 38), (.call (.func 48) [(.tmp 37)]), none⟩, none⟩, ⟨⟨(some 39), (.cvtI .i64 (.tmp 38)), none⟩, none⟩, ⟨⟨(some 40), (.callR 58 5 (.tmp 36) [(.tmp 39), (.c (.int .i64 (4)))]), none⟩, none⟩, ⟨⟨(some 2), (.mv (.tmp 40)), none⟩, none⟩, ⟨⟨(some 3), (.mv (.c (.int .i64 (0)))), none⟩, none⟩]) .ret)))))
def rs_report_Encode : List ResultVar := [(.tmp 2), (.tmp 3)]
theorem ir_report_Encode : compCode Tryd.prog (Tryd.f32.body.getD .skip) [[4, 26, 27, 28]] = some (xr_report_Encode.erase, []) := by kernel_rfl
def gm_new_report_Encode : Gam := (Gam.fn 35 as_report_Right ga_report_Right em_report_Right (Gam.fn 1000058 as_report_put ga_report_put em_report_put (Gam.fn 59 as_slices_Concat__int_int ga_slices_Concat__int_int em_slices_Concat__int_int (Gam.fn 48 as_sum_Of ga_sum_Of em_sum_Of Gam.bot))))
theorem gk_new_report_Encode : GamOk Tryd.prog GG gm_new_report_Encode := (GamOk.fn at_report_Right (GamOk.fn at_report_put (GamOk.fn at_slices_Concat__int_int (GamOk.fn at_sum_Of GamOk.bot))))
def st_new_report_Encode_0 (b11 : Bool) (b12 : Bool) (l13 : List Int) (n14 : Int) (n15 : Int) (b16 : Bool) (b17 : Bool) (l18 : List Int) : Option (((Bool × Bool × List Int × Int × Int × Bool × Bool × List Int)) ⊕ (((Bool × Bool × List Int)))) :=
  bif (decide (n15 < n14)) then
   bif (decide (0 ≤ n15)) then
    bif (decide (n15 < (((List.length l13) : Nat) : Int))) then
     bif (decide ((Int.toNat n15) < (List.length l13))) then
      (go_report_put b16 b17 l18 (List.getD l13 (Int.toNat n15) 0) 8).bind fun r19 =>
      some (Sum.inl (b11, b12, l13, n14, (IntKind.wrap .i64 (n15 + 1)), r19.1, false, r19.2.2))
     else none
    else none
   else none
  else
   some (Sum.inr (b16, b17, l18))
def lp_new_report_Encode_0 (b11 : Bool) (b12 : Bool) (l13 : List Int) (n14 : Int) (n15 : Int) (b16 : Bool) (b17 : Bool) (l18 : List Int) : Option (((Bool × Bool × List Int))) := loopN (X := (Bool × Bool × List Int × Int × Int × Bool × Bool × List Int)) (fun x => st_new_report_Encode_0 x.1 x.2.1 x.2.2.1 x.2.2.2.1 x.2.2.2.2.1 x.2.2.2.2.2.1 x.2.2.2.2.2.2.1 x.2.2.2.2.2.2.2) (b11, b12, l13, n14, n15, b16, b17, l18)
def sh_new_report_Encode_0 : StSh := ⟨41, [(4, (.row 0)), (26, (.p (.isl .i64))), (27, (.p (.int .i64))), (28, (.p (.int .i64)))], [(.irow 5 .u8)]⟩
def sx_new_report_Encode_0 (x : (Bool × Bool × List Int × Int × Int × Bool × Bool × List Int)) : St := ⟨slots 41 0 [(4, (.row 0)), (26, (.p (.isl x.1 x.2.1 .i64 x.2.2.1))), (27, (.p (.int .i64 x.2.2.2.1))), (28, (.p (.int .i64 x.2.2.2.2.1)))], [(.irow 5 .u8 x.2.2.2.2.2.1 x.2.2.2.2.2.2.1 x.2.2.2.2.2.2.2)]⟩
def sa_new_report_Encode_0 (S : St) : (Bool × Bool × List Int × Int × Int × Bool × Bool × List Int) := (((tls 26 S.t).headD .any).pv.nl, ((tls 26 S.t).headD .any).pv.ex, ((tls 26 S.t).headD .any).pv.ints, ((tls 27 S.t).headD .any).pv.num, ((tls 28 S.t).headD .any).pv.num, ((tls 0 S.own).headD .gone).pvD.nl, ((tls 0 S.own).headD .gone).pvD.ex, ((tls 0 S.own).headD .gone).pvD.ints)
def tz_new_report_Encode_0_0 : StSh := ⟨41, [(4, (.row 0))], [(.irow 5 .u8)]⟩
def tx_new_report_Encode_0_0 (x : (Bool × Bool × List Int)) : St := ⟨slots 41 0 [(4, (.row 0))], [(.irow 5 .u8 x.1 x.2.1 x.2.2)]⟩
def ta_new_report_Encode_0_0 (S : St) : (Bool × Bool × List Int) := (((tls 0 S.own).headD .gone).pvD.nl, ((tls 0 S.own).headD .gone).pvD.ex, ((tls 0 S.own).headD .gone).pvD.ints)
def kb_new_report_Encode_0 : Exit → St → Tree (((Bool × Bool × List Int × Int × Int × Bool × Bool × List Int)) ⊕ (((Bool × Bool × List Int)))) := (exOne (.exit 0) [4] tz_new_report_Encode_0_0 ta_new_report_Encode_0_0 (fun y => Sum.inr (y)) exNil)
def ky_new_report_Encode_0 : Dec (((Bool × Bool × List Int))) := fun _ y ke => ke ((.exit 0) : EK).ex (tx_new_report_Encode_0_0 y)
theorem kk_new_report_Encode_0 : ExOk Sum.inr kb_new_report_Encode_0 ky_new_report_Encode_0 := (ExOk.one (acc := ta_new_report_Encode_0_0) (bY := tx_new_report_Encode_0_0) (inj1 := fun y => y) (fun S => by kernel_rfl) (fun y _ ke => .inr (by kernel_rfl)) ExOk.nil)
def lm_new_report_Encode : Lam := fun _ j S kn ke => match j with
  | 0 => prepT [4, 26, 27, 28] [] S fun S => .chk (sh_new_report_Encode_0.ok S) (.bind (loopN (fun x => st_new_report_Encode_0 x.1 x.2.1 x.2.2.1 x.2.2.2.1 x.2.2.2.2.1 x.2.2.2.2.2.1 x.2.2.2.2.2.2.1 x.2.2.2.2.2.2.2) (sa_new_report_Encode_0 S)) fun y => ky_new_report_Encode_0 _ y ke)
  | _ => .fail
theorem sr_new_report_Encode_0 (x : (Bool × Bool × List Int × Int × Int × Bool × Bool × List Int)) : (ev GG gm_new_report_Encode lm_new_report_Encode xb_report_Encode_0 (sx_new_report_Encode_0 x) (fun S => forgetT [4, 26, 27, 28] S fun S => prepT [4, 26, 27, 28] [] S fun S => .chk (sh_new_report_Encode_0.ok S) (.leaf (.inl (sa_new_report_Encode_0 S)))) kb_new_report_Encode_0).run = st_new_report_Encode_0 x.1 x.2.1 x.2.2.1 x.2.2.2.1 x.2.2.2.2.1 x.2.2.2.2.2.1 x.2.2.2.2.2.2.1 x.2.2.2.2.2.2.2 := by kernel_rfl
theorem la_new_report_Encode_0 : LamAt Tryd.prog GG lm_new_report_Encode 0 (.loop [4, 26, 27, 28] xb_report_Encode_0.erase) := lam_loop (body := xb_report_Encode_0) (Λ' := lm_new_report_Encode) gk_new_report_Encode (⟨trivial, ⟨⟨trivial, trivial⟩, ⟨⟨trivial, trivial⟩, trivial⟩⟩⟩) (fun S => (by kernel_rfl : sh_new_report_Encode_0.build S = sx_new_report_Encode_0 (sa_new_report_Encode_0 S))) kk_new_report_Encode_0 sr_new_report_Encode_0 (fun _ _ _ => rfl)
def go_new_report_Encode (n0 : Int) (n1 : Int) (b2 : Bool) (b3 : Bool) (l4 : List Int) (b5 : Bool) (b6 : Bool) (l7 : List Int) : Option (Bool × Bool × List Int × Int) :=
  (go_report_Right n0 n1 b2 b3 l4 b5 b6 l7).bind fun r8 =>
  bif (!r8) then
   some (true, true, [], 1)
  else
   (go_report_put false true [78, 82, (IntKind.wrap .u8 n0), (IntKind.wrap .u8 (((List.length l4) : Nat) : Int))] n1 4).bind fun r9 =>
   (go_slices_Concat__int_int false true [(.isl b2 b3 .i64 l4), (.isl b5 b6 .i64 l7)]).bind fun r10 =>
   (lp_new_report_Encode_0 r10.1 r10.2.1 r10.2.2 (((List.length r10.2.2) : Nat) : Int) 0 r9.1 false r9.2.2).bind fun y20 =>
   (go_sum_Of y20.1 y20.2.1 y20.2.2).bind fun r21 =>
   (go_report_put y20.1 y20.2.1 y20.2.2 (IntKind.wrap .i64 r21) 4).bind fun r22 =>
   some (r22.1, false, r22.2.2, 0)
def em_new_report_Encode (r : (Bool × Bool × List Int × Int)) : PV := (.tup [(.isl r.1 r.2.1 .u8 r.2.2.1), (.int .i64 r.2.2.2)])
def rh_new_report_Encode : Shp := (.tup [(.isl .u8), (.int .i64)])
def ra_new_report_Encode (v : PV) : (Bool × Bool × List Int × Int) := ((v.subs.headD .nilSl).nl, (v.subs.headD .nilSl).ex, (v.subs.headD .nilSl).ints, (v.subs.tail.headD .nilSl).num)
def kf_new_report_Encode (v : PV) : Tree (Bool × Bool × List Int × Int) := .chk (rh_new_report_Encode.ok v) (.leaf (ra_new_report_Encode v))
theorem rn_new_report_Encode (n0 : Int) (n1 : Int) (b2 : Bool) (b3 : Bool) (l4 : List Int) (b5 : Bool) (b6 : Bool) (l7 : List Int) : (ev GG gm_new_report_Encode lm_new_report_Encode xr_report_Encode ⟨slots 41 0 [(0, .p (.agg [(.int .i64 n0), (.int .i64 n1), (.isl b2 b3 .i64 l4), (.isl b5 b6 .i64 l7)]))], []⟩ (fun S => newT Tryd.prog 5 rs_report_Encode S kf_new_report_Encode) (retN Tryd.prog 5 rs_report_Encode kf_new_report_Encode)).run = go_new_report_Encode n0 n1 b2 b3 l4 b5 b6 l7 := by kernel_rfl
theorem ok_new_report_Encode (n0 : Int) (n1 : Int) (b2 : Bool) (b3 : Bool) (l4 : List Int) (b5 : Bool) (b6 : Bool) (l7 : List Int) (r : (Bool × Bool × List Int × Int)) (h : go_new_report_Encode n0 n1 b2 b3 l4 b5 b6 l7 = some r) : FunNewT Tryd.prog GG (32 + 2000000) (.ref 5 [] :: [(.agg [(.int .i64 n0), (.int .i64 n1), (.isl b2 b3 .i64 l4), (.isl b5 b6 .i64 l7)])]) (em_new_report_Encode r) :=
  new_of_ev (x := xr_report_Encode) (Λ := lm_new_report_Encode) gk_new_report_Encode [[4, 26, 27, 28]] Tryd.func32 rfl (by kernel_rfl) ir_report_Encode (by kernel_rfl) (congrArg Array.toList Tryd.results32) Tryd.ntmps32 (⟨trivial, ⟨⟨trivial, ⟨⟨trivial, trivial⟩, trivial⟩⟩, ⟨trivial, ⟨⟨trivial, la_new_report_Encode_0⟩, ⟨trivial, trivial⟩⟩⟩⟩⟩) (leaf_of fun v => (by kernel_rfl : rh_new_report_Encode.build v = em_new_report_Encode (ra_new_report_Encode v))) ⟨_, _, _, _, _, rfl⟩ (by kernel_rfl) ((rn_new_report_Encode n0 n1 b2 b3 l4 b5 b6 l7).trans h)
def as_new_report_Encode : List Shp := [(.ref 5 []), (.agg [(.int .i64), (.int .i64), (.isl .i64), (.isl .i64)])]
def ga_new_report_Encode (vs : List PV) : Option (Bool × Bool × List Int × Int) := go_new_report_Encode (((tls 1 vs).headD .nilSl).subs.headD .nilSl).num (((tls 1 vs).headD .nilSl).subs.tail.headD .nilSl).num (((tls 1 vs).headD .nilSl).subs.tail.tail.headD .nilSl).nl (((tls 1 vs).headD .nilSl).subs.tail.tail.headD .nilSl).ex (((tls 1 vs).headD .nilSl).subs.tail.tail.headD .nilSl).ints (((tls 1 vs).headD .nilSl).subs.tail.tail.tail.headD .nilSl).nl (((tls 1 vs).headD .nilSl).subs.tail.tail.tail.headD .nilSl).ex (((tls 1 vs).headD .nilSl).subs.tail.tail.tail.headD .nilSl).ints
theorem at_new_report_Encode : FnAt Tryd.prog GG 2000032 as_new_report_Encode ga_new_report_Encode em_new_report_Encode := fun vs h r hr => by
  have e : Shp.buildL as_new_report_Encode vs = [(.ref 5 []), (.agg [(.int .i64 (((tls 1 vs).headD .nilSl).subs.headD .nilSl).num), (.int .i64 (((tls 1 vs).headD .nilSl).subs.tail.headD .nilSl).num), (.isl (((tls 1 vs).headD .nilSl).subs.tail.tail.headD .nilSl).nl (((tls 1 vs).headD .nilSl).subs.tail.tail.headD .nilSl).ex .i64 (((tls 1 vs).headD .nilSl).subs.tail.tail.headD .nilSl).ints), (.isl (((tls 1 vs).headD .nilSl).subs.tail.tail.tail.headD .nilSl).nl (((tls 1 vs).headD .nilSl).subs.tail.tail.tail.headD .nilSl).ex .i64 (((tls 1 vs).headD .nilSl).subs.tail.tail.tail.headD .nilSl).ints)])] := by kernel_rfl
  rw [← Shp.buildL_eq _ h, e]
  exact .inr (.inr (ok_new_report_Encode _ _ _ _ _ _ _ _ r hr))
def xb_report_get_0 : XR := (.seq (.ops false [⟨⟨(some 8), (.bin .lss (.tmp 7) (.tmp 6)), none⟩, none⟩]) (.seq (.cond (.tmp 8) .skip (.exit 0)) (.seq (.block 1 (.seq (.ops false [⟨⟨(some 9), (.mv (.tmp 7)), none⟩, none⟩, ⟨⟨(some 4), (.mv (.tmp 9)), none⟩, none⟩]) (.ops false [⟨⟨(some 10), (.mv (.tmp 3)), none⟩, none⟩, ⟨⟨(some 11), (.mv (.tmp 0)), none⟩, none⟩, ⟨⟨(some 12), (.mv (.tmp 4)), none⟩, none⟩, ⟨⟨(some 13), (.ixA 1 (.tmp 11) (.tmp 12)), none⟩, none⟩, ⟨⟨(some 14), (.ld false 1 (.tmp 13)), none⟩, (some (.int .u8))⟩, ⟨⟨(some 15), (.cvtI .u64 (.tmp 14)), none⟩, none⟩, ⟨⟨(some 16), (.mv (.tmp 4)), none⟩, none⟩, ⟨⟨(some 17), (.bin .mul (.c (.int .i64 (8))) (.tmp 16)), none⟩, none⟩, ⟨⟨(some 18), (.bin .shl (.tmp 15) (.tmp 17)), none⟩, none⟩, ⟨⟨(some 19), (.bin .or (.tmp 10) (.tmp 18)), none⟩, none⟩, ⟨⟨(some 3), (.mv (.tmp 19)), none⟩, none⟩]))) (.ops false [⟨⟨(some 20), (.bin .add (.tmp 7) (.c (.int .i64 (1)))), none⟩, none⟩, ⟨⟨(some 7), (.mv (.tmp 20)), none⟩, none⟩]))))
def xr_report_get : XR := (.seq (.ops false [⟨⟨(some 2), (.mv (.c (.int .i64 (0)))), none⟩, none⟩]) (.seq (.ops false [⟨⟨(some 3), (.mv (.c (.int .u64 (0)))), none⟩, none⟩]) (.seq (.seq (.ops false [⟨⟨(some 5), (.mv (.tmp 0)), none⟩, none⟩, ⟨⟨(some 6), (.len (.tmp 5)), none⟩, none⟩, ⟨⟨(some 7), (.mv (.c (.int .i64 (0)))), none⟩, none⟩]) (.block 0 (.loop 0 [0, 3, 6, 7] xb_report_get_0))) (.seq (.ops false [⟨⟨(some 21), (.mv (.tmp 3)), none⟩, none⟩, ⟨⟨(some 22), (.cvtI .i64 (.tmp 21)), none⟩, none⟩, ⟨⟨(some 2), (.mv (.tmp 22)), none⟩, none⟩]) .ret))))
def rs_report_get : List ResultVar := [(.tmp 2)]
theorem ir_report_get : compCode Tryd.prog (Tryd.f61.body.getD .skip) [[0, 3, 6, 7]] = some (xr_report_get.erase, []) := by kernel_rfl
def gm_report_get : Gam := Gam.bot
theorem gk_report_get : GamOk Tryd.prog GG gm_report_get := GamOk.bot
def st_report_get_0 (b3 : Bool) (b4 : Bool) (l5 : List Int) (n6 : Int) (n7 : Int) (n8 : Int) : Option (((Bool × Bool × List Int × Int × Int × Int)) ⊕ ((Int))) :=
  bif (decide (n8 < n7)) then
   bif (decide (0 ≤ n8)) then
    bif (decide (n8 < (((List.length l5) : Nat) : Int))) then
     bif (decide ((Int.toNat n8) < (List.length l5))) then
      bif (decide (0 ≤ (IntKind.wrap .i64 (8 * n8)))) then
       some (Sum.inl (b3, b4, l5, (IntKind.wrap .u64 (bOr .u64 n6 (IntKind.wrap .u64 ((IntKind.wrap .u64 (List.getD l5 (Int.toNat n8) 0)) * (2 ^ (min (Int.toNat (IntKind.wrap .i64 (8 * n8))) 64)))))), n7, (IntKind.wrap .i64 (n8 + 1))))
      else none
     else none
    else none
   else none
  else
   some (Sum.inr n6)
def lp_report_get_0 (b3 : Bool) (b4 : Bool) (l5 : List Int) (n6 : Int) (n7 : Int) (n8 : Int) : Option ((Int)) := loopN (X := (Bool × Bool × List Int × Int × Int × Int)) (fun x => st_report_get_0 x.1 x.2.1 x.2.2.1 x.2.2.2.1 x.2.2.2.2.1 x.2.2.2.2.2) (b3, b4, l5, n6, n7, n8)
def sh_report_get_0 : StSh := ⟨23, [(0, (.p (.isl .u8))), (3, (.p (.int .u64))), (6, (.p (.int .i64))), (7, (.p (.int .i64)))], []⟩
def sx_report_get_0 (x : (Bool × Bool × List Int × Int × Int × Int)) : St := ⟨slots 23 0 [(0, (.p (.isl x.1 x.2.1 .u8 x.2.2.1))), (3, (.p (.int .u64 x.2.2.2.1))), (6, (.p (.int .i64 x.2.2.2.2.1))), (7, (.p (.int .i64 x.2.2.2.2.2)))], []⟩
def sa_report_get_0 (S : St) : (Bool × Bool × List Int × Int × Int × Int) := (((tls 0 S.t).headD .any).pv.nl, ((tls 0 S.t).headD .any).pv.ex, ((tls 0 S.t).headD .any).pv.ints, ((tls 3 S.t).headD .any).pv.num, ((tls 6 S.t).headD .any).pv.num, ((tls 7 S.t).headD .any).pv.num)
def tz_report_get_0_0 : StSh := ⟨23, [(3, (.p (.int .u64)))], []⟩
def tx_report_get_0_0 (x : Int) : St := ⟨slots 23 0 [(3, (.p (.int .u64 x)))], []⟩
def ta_report_get_0_0 (S : St) : Int := ((tls 3 S.t).headD .any).pv.num
def kb_report_get_0 : Exit → St → Tree (((Bool × Bool × List Int × Int × Int × Int)) ⊕ ((Int))) := (exOne (.exit 0) [3] tz_report_get_0_0 ta_report_get_0_0 (fun y => Sum.inr (y)) exNil)
def ky_report_get_0 : Dec ((Int)) := fun _ y ke => ke ((.exit 0) : EK).ex (tx_report_get_0_0 y)
theorem kk_report_get_0 : ExOk Sum.inr kb_report_get_0 ky_report_get_0 := (ExOk.one (acc := ta_report_get_0_0) (bY := tx_report_get_0_0) (inj1 := fun y => y) (fun S => by kernel_rfl) (fun y _ ke => .inr (by kernel_rfl)) ExOk.nil)
def lm_report_get : Lam := fun _ j S kn ke => match j with
  | 0 => prepT [0, 3, 6, 7] [] S fun S => .chk (sh_report_get_0.ok S) (.bind (loopN (fun x => st_report_get_0 x.1 x.2.1 x.2.2.1 x.2.2.2.1 x.2.2.2.2.1 x.2.2.2.2.2) (sa_report_get_0 S)) fun y => ky_report_get_0 _ y ke)
  | _ => .fail
theorem sr_report_get_0 (x : (Bool × Bool × List Int × Int × Int × Int)) : (ev GG gm_report_get lm_report_get xb_report_get_0 (sx_report_get_0 x) (fun S => forgetT [0, 3, 6, 7] S fun S => prepT [0, 3, 6, 7] [] S fun S => .chk (sh_report_get_0.ok S) (.leaf (.inl (sa_report_get_0 S)))) kb_report_get_0).run = st_report_get_0 x.1 x.2.1 x.2.2.1 x.2.2.2.1 x.2.2.2.2.1 x.2.2.2.2.2 := by kernel_rfl
theorem la_report_get_0 : LamAt Tryd.prog GG lm_report_get 0 (.loop [0, 3, 6, 7] xb_report_get_0.erase) := lam_loop (body := xb_report_get_0) (Λ' := lm_report_get) gk_report_get (⟨trivial, ⟨⟨trivial, trivial⟩, ⟨⟨trivial, trivial⟩, trivial⟩⟩⟩) (fun S => (by kernel_rfl : sh_report_get_0.build S = sx_report_get_0 (sa_report_get_0 S))) kk_report_get_0 sr_report_get_0 (fun _ _ _ => rfl)
def go_report_get (b0 : Bool) (b1 : Bool) (l2 : List Int) : Option Int :=
  (lp_report_get_0 b0 b1 l2 0 (((List.length l2) : Nat) : Int) 0).bind fun y9 =>
  some (IntKind.wrap .i64 y9)
def em_report_get (r : Int) : PV := (.int .i64 r)
def rh_report_get : Shp := (.int .i64)
def ra_report_get (v : PV) : Int := v.num
def kf_report_get (v : PV) : Tree Int := .chk (rh_report_get.ok v) (.leaf (ra_report_get v))
theorem rn_report_get (b0 : Bool) (b1 : Bool) (l2 : List Int) : (ev GG gm_report_get lm_report_get xr_report_get ⟨slots 23 0 [(0, .p (.isl b0 b1 .u8 l2))], []⟩ (fun S => finT Tryd.prog rs_report_get S kf_report_get) (retT Tryd.prog rs_report_get kf_report_get)).run = go_report_get b0 b1 l2 := by kernel_rfl
theorem ok_report_get (b0 : Bool) (b1 : Bool) (l2 : List Int) (r : Int) (h : go_report_get b0 b1 l2 = some r) : FunEq Tryd.prog GG 61 [(.isl b0 b1 .u8 l2)] (em_report_get r) :=
  fun_of_ev (x := xr_report_get) (Λ := lm_report_get) gk_report_get [[0, 3, 6, 7]] Tryd.func61 rfl (by kernel_rfl) ir_report_get (by kernel_rfl) (congrArg Array.toList Tryd.results61) Tryd.ntmps61 (⟨trivial, ⟨trivial, ⟨⟨trivial, la_report_get_0⟩, ⟨trivial, trivial⟩⟩⟩⟩) (leaf_of fun v => (by kernel_rfl : rh_report_get.build v = em_report_get (ra_report_get v))) (by kernel_rfl) ((rn_report_get b0 b1 l2).trans h)
def as_report_get : List Shp := [(.isl .u8)]
def ga_report_get (vs : List PV) : Option Int := go_report_get ((tls 0 vs).headD .nilSl).nl ((tls 0 vs).headD .nilSl).ex ((tls 0 vs).headD .nilSl).ints
theorem at_report_get : FnAt Tryd.prog GG 61 as_report_get ga_report_get em_report_get := fun vs h r hr => by
  have e : Shp.buildL as_report_get vs = [(.isl ((tls 0 vs).headD .nilSl).nl ((tls 0 vs).headD .nilSl).ex .u8 ((tls 0 vs).headD .nilSl).ints)] := by kernel_rfl
  rw [← Shp.buildL_eq _ h, e]
  exact .inl ⟨by decide, ok_report_get _ _ _ r hr⟩
def xb_report_Decode_0 : XR := (.seq (.ops false [⟨⟨(some 74), (.bin .lss (.tmp 73) (.tmp 72)), none⟩, none⟩]) (.seq (.cond (.tmp 74) .skip (.exit 1)) (.seq (.block 2 (.seq (.ops false [⟨⟨(some 75), (.mv (.tmp 73)), none⟩, none⟩, ⟨⟨(some 7), (.mv (.tmp 75)), none⟩, none⟩]) (.seq (.ops true [⟨⟨(some 76), (.fldA 2 (.tmp 4)), none⟩, none⟩, ⟨⟨(some 77), (.ld false 1 (.tmp 76)), none⟩, (some (.isl .i64))⟩, ⟨⟨(some 78), (.mv (.tmp 0)), none⟩, none⟩, ⟨⟨(some 79), (.mv (.tmp 7)), none⟩, none⟩, ⟨⟨(some 80), (.bin .mul (.c (.int .i64 (8))) (.tmp 79)), none⟩, none⟩, ⟨⟨(some 81), (.bin .add (.c (.int .i64 (8))) (.tmp 80)), none⟩, none⟩, ⟨⟨(some 82), (.mv (.tmp 7)), none⟩, none⟩, ⟨⟨(some 83), (.bin .add (.tmp 82) (.c (.int .i64 (1)))), none⟩, none⟩, ⟨⟨(some 84), (.bin .mul (.c (.int .i64 (8))) (.tmp 83)), none⟩, none⟩, ⟨⟨(some 85), (.bin .add (.c (.int .i64 (8))) (.tmp 84)), none⟩, none⟩, ⟨⟨(some 86), (.slc 1 (.tmp 78) (some (.tmp 81)) (some (.tmp 85)) none), none⟩, none⟩, ⟨⟨(some 87), (.call (.func 61) [(.tmp 86)]), none⟩, none⟩, ⟨⟨(some 88), (.bsl 3 (some .i64) 1 [(.tmp 87)]), none⟩, none⟩, ⟨⟨(some 89), (.app 3 (some .i64) 1 8 (.tmp 77) (.tmp 88)), none⟩, none⟩, ⟨⟨(some 90), (.fldA 2 (.tmp 4)), none⟩, none⟩, ⟨⟨none, (.st 1 (.tmp 90) (.tmp 89)), none⟩, none⟩]) (.ops true [⟨⟨(some 91), (.fldA 3 (.tmp 4)), none⟩, none⟩, ⟨⟨(some 92), (.ld false 1 (.tmp 91)), none⟩, (some (.isl .i64))⟩, ⟨⟨(some 93), (.mv (.tmp 0)), none⟩, none⟩, ⟨⟨(some 94), (.mv (.tmp 5)), none⟩, none⟩, ⟨⟨(some 95), (.mv (.tmp 7)), none⟩, none⟩, ⟨⟨(some 96), (.bin .add (.tmp 94) (.tmp 95)), none⟩, none⟩, ⟨⟨(some 97), (.bin .mul (.c (.int .i64 (8))) (.tmp 96)), none⟩, none⟩, ⟨⟨(some 98), (.bin .add (.c (.int .i64 (8))) (.tmp 97)), none⟩, none⟩, ⟨⟨(some 99), (.mv (.tmp 5)), none⟩, none⟩, ⟨⟨(some 100), (.mv (.tmp 7)), none⟩, none⟩, ⟨⟨(some 101), (.bin .add (.tmp 99) (.tmp 100)), none⟩, none⟩, ⟨⟨(some 102), (.bin .add (.tmp 101) (.c (.int .i64 (1)))), none⟩, none⟩, ⟨⟨(some 103), (.bin .mul (.c (.int .i64 (8))) (.tmp 102)), none⟩, none⟩, ⟨⟨(some 104), (.bin .add (.c (.int .i64 (8))) (.tmp 103)), none⟩, none⟩, ⟨⟨(some 105), (.slc 1 (.tmp 93) (some (.tmp 98)) (some (.tmp 104)) none), none⟩, none⟩, ⟨⟨(some 106), (.call (.func 61) [(.tmp 105)]), none⟩, none⟩, ⟨⟨(some 107), (.bsl 3 (some .i64) 1 [(.tmp 106)]), none⟩, none⟩, ⟨⟨(some 108), (.app 3 (some .i64) 1 8 (.tmp 92) (.tmp 107)), none⟩, none⟩, ⟨⟨(some 109), (.fldA 3 (.tmp 4)), none⟩, none⟩, ⟨⟨none, (.st 1 (.tmp 109) (.tmp 108)), none⟩, none⟩])))) (.ops false [⟨⟨(some 110), (.bin .add (.tmp 73) (.c (.int .i64 (1)))), none⟩, none⟩, ⟨⟨(some 73), (.mv (.tmp 110)), none⟩, none⟩]))))
def xr_report_Decode : XR := (.seq (.ops false [⟨⟨(some 2), (.alloc 46 [(.int .i64 (0)), (.int .i64 (0)), (.isl true true .i64 []), (.isl true true .i64 [])]), none⟩, none⟩, ⟨⟨(some 3), (.mv (.c (.int .i64 (0)))), none⟩, none⟩]) (.seq (.seq (.ops false [⟨⟨(some 8), (.mv (.tmp 0)), none⟩, none⟩, ⟨⟨(some 9), (.len (.tmp 8)), none⟩, none⟩, ⟨⟨(some 10), (.bin .lss (.tmp 9) (.c (.int .i64 (12)))), none⟩, none⟩]) (.cond (.tmp 10) (.seq (.ops false [⟨⟨(some 11), (.build [(.int .i64 (0)), (.int .i64 (0)), (.isl true true .i64 []), (.isl true true .i64 [])] []), none⟩, none⟩, ⟨⟨none, (.st 4 (.tmp 2) (.tmp 11)), none⟩, none⟩, ⟨⟨(some 3), (.mv (.c (.int .i64 (2)))), none⟩, none⟩]) .ret) .skip)) (.seq (.ops true [⟨⟨(some 12), (.mv (.tmp 0)), none⟩, none⟩, ⟨⟨(some 13), (.ixA 1 (.tmp 12) (.c (.int .i64 (2)))), none⟩, none⟩, ⟨⟨(some 14), (.ld false 1 (.tmp 13)), none⟩, (some (.int .u8))⟩, ⟨⟨(some 15), (.cvtI .i64 (.tmp 14)), none⟩, none⟩, ⟨⟨(some 16), (.mv (.tmp 0)), none⟩, none⟩, ⟨⟨(some 17), (.slc 1 (.tmp 16) (some (.c (.int .i64 (4)))) (some (.c (.int .i64 (8)))) none), none⟩, none⟩, ⟨⟨(some 18), (.call (.func 61) [(.tmp 17)]), none⟩, none⟩, ⟨⟨(some 19), (.build [(.int .i64 (0)), (.int .i64 (0)), (.isl true true .i64 []), (.isl true true .i64 [])] [(0, (1, (.tmp 15))), (1, (1, (.tmp 18)))]), none⟩, none⟩, ⟨⟨(some 4), (.alloc 46 [(.int .i64 (0)), (.int .i64 (0)), (.isl true true .i64 []), (.isl true true .i64 [])]), none⟩, none⟩, ⟨⟨none, (.st 4 (.tmp 4) (.tmp 19)), none⟩, none⟩]) (.seq (.ops false [⟨⟨(some 20), (.mv (.tmp 0)), none⟩, none⟩, ⟨⟨(some 21), (.ixA 1 (.tmp 20) (.c (.int .i64 (3)))), none⟩, none⟩, ⟨⟨(some 22), (.ld false 1 (.tmp 21)), none⟩, (some (.int .u8))⟩, ⟨⟨(some 23), (.cvtI .i64 (.tmp 22)), none⟩, none⟩, ⟨⟨(some 5), (.mv (.tmp 23)), none⟩, none⟩]) (.seq (.ops false [⟨⟨(some 24), (.mv (.tmp 5)), none⟩, none⟩, ⟨⟨(some 25), (.bin .mul (.c (.int .i64 (16))) (.tmp 24)), none⟩, none⟩, ⟨⟨(some 26), (.bin .add (.c (.int .i64 (8))) (.tmp 25)), none⟩, none⟩, ⟨⟨(some 6), (.mv (.tmp 26)), none⟩, none⟩]) (.seq (.block 0 (.seq (.ops false [⟨⟨(some 28), (.mv (.tmp 0)), none⟩, none⟩, ⟨⟨(some 29), (.slc 1 (.tmp 28) none (some (.c (.int .i64 (2)))) none), none⟩, none⟩, ⟨⟨(some 30), (.cvtBS (.tmp 29)), none⟩, none⟩, ⟨⟨(some 31), (.binS .neq (.tmp 30) (.c (.str [(78), (82)]))), none⟩, none⟩, ⟨⟨(some 32), (.mv (.tmp 31)), none⟩, none⟩, ⟨⟨(some 33), (.mv (.tmp 5)), (some (32, false))⟩, none⟩, ⟨⟨(some 34), (.bin .gtr (.tmp 33) (.c (.int .i64 (4)))), (some (32, false))⟩, none⟩, ⟨⟨(some 35), (.pick (.tmp 32) (.c (.bool true)) (.tmp 34)), none⟩, none⟩, ⟨⟨(some 36), (.mv (.tmp 35)), none⟩, none⟩, ⟨⟨(some 37), (.mv (.tmp 5)), (some (36, false))⟩, none⟩, ⟨⟨(some 38), (.bin .gtr (.tmp 37) (.c (.int .i64 (0)))), (some (36, false))⟩, none⟩, ⟨⟨(some 39), (.fldA 0 (.tmp 4)), (some (36, false))⟩, none⟩, ⟨⟨(some 40), (.ld false 1 (.tmp 39)), (some (36, false))⟩, (some (.int .i64))⟩, ⟨⟨(some 41), (.bin .and (.tmp 40) (.c (.int .i64 (32)))), (some (36, false))⟩, none⟩, ⟨⟨(some 42), (.bin .neq (.tmp 41) (.c (.int .i64 (0)))), (some (36, false))⟩, none⟩, ⟨⟨(some 43), (.binB true (.tmp 38) (.tmp 42)), (some (36, false))⟩, none⟩, ⟨⟨(some 44), (.pick (.tmp 36) (.c (.bool true)) (.tmp 43)), none⟩, none⟩, ⟨⟨(some 27), (.mv (.tmp 44)), none⟩, none⟩]) (.cond (.tmp 27) (.seq (.ops false [⟨⟨(some 45), (.build [(.int .i64 (0)), (.int .i64 (0)), (.isl true true .i64 []), (.isl true true .i64 [])] []), none⟩, none⟩, ⟨⟨none, (.st 4 (.tmp 2) (.tmp 45)), none⟩, none⟩, ⟨⟨(some 3), (.mv (.c (.int .i64 (4)))), none⟩, none⟩]) .ret) (.seq (.ops false [⟨⟨(some 47), (.mv (.tmp 0)), none⟩, none⟩, ⟨⟨(some 48), (.len (.tmp 47)), none⟩, none⟩, ⟨⟨(some 49), (.mv (.tmp 6)), none⟩, none⟩, ⟨⟨(some 50), (.bin .add (.tmp 49) (.c (.int .i64 (4)))), none⟩, none⟩, ⟨⟨(some 51), (.bin .lss (.tmp 48) (.tmp 50)), none⟩, none⟩, ⟨⟨(some 46), (.mv (.tmp 51)), none⟩, none⟩]) (.cond (.tmp 46) (.seq (.ops false [⟨⟨(some 52), (.build [(.int .i64 (0)), (.int .i64 (0)), (.isl true true .i64 []), (.isl true true .i64 [])] []), none⟩, none⟩, ⟨⟨none, (.st 4 (.tmp 2) (.tmp 52)), none⟩, none⟩, ⟨⟨(some 3), (.mv (.c (.int .i64 (2)))), none⟩, none⟩]) .ret) (.seq (.ops false [⟨⟨(some 54), (.mv (.tmp 0)), none⟩, none⟩, ⟨⟨(some 55), (.len (.tmp 54)), none⟩, none⟩, ⟨⟨(some 56), (.mv (.tmp 6)), none⟩, none⟩, ⟨⟨(some 57), (.bin .add (.tmp 56) (.c (.int .i64 (4)))), none⟩, none⟩, ⟨⟨(some 58), (.bin .gtr (.tmp 55) (.tmp 57)), none⟩, none⟩, ⟨⟨(some 53), (.mv (.tmp 58)), none⟩, none⟩]) (.cond (.tmp 53) (.seq (.ops false [⟨⟨(some 59), (.build [(.int .i64 (0)), (.int .i64 (0)), (.isl true true .i64 []), (.isl true true .i64 [])] []), none⟩, none⟩, ⟨⟨none, (.st 4 (.tmp 2) (.tmp 59)), none⟩, none⟩, ⟨⟨(some 3), (.mv (.c (.int .i64 (5)))), none⟩, none⟩]) .ret) (.seq (.ops true [⟨⟨(some 61), (.mv (.tmp 0)), none⟩, none⟩, ⟨⟨(some 62), (.mv (.tmp 6)), none⟩, none⟩, ⟨⟨(some 63), (.slc 1 (.tmp 61) (some (.tmp 62)) none none), none⟩, none⟩, ⟨⟨(some 64), (.call (.func 61) [(.tmp 63)]), none⟩, none⟩, ⟨⟨(some 65), (.mv (.tmp 0)), none⟩, none⟩, ⟨⟨(some 66), (.mv (.tmp 6)), none⟩, none⟩, ⟨⟨(some 67), (.slc 1 (.tmp 65) none (some (.tmp 66)) none), none⟩, none⟩, ⟨⟨(some 68), (.call (.func 48) [(.tmp 67)]), none⟩, none⟩, ⟨⟨(some 69), (.cvtI .i64 (.tmp 68)), none⟩, none⟩, ⟨⟨(some 70), (.bin .neq (.tmp 64) (.tmp 69)), none⟩, none⟩, ⟨⟨(some 60), (.mv (.tmp 70)), none⟩, none⟩]) (.cond (.tmp 60) (.seq (.ops false [⟨⟨(some 71), (.build [(.int .i64 (0)), (.int .i64 (0)), (.isl true true .i64 []), (.isl true true .i64 [])] []), none⟩, none⟩, ⟨⟨none, (.st 4 (.tmp 2) (.tmp 71)), none⟩, none⟩, ⟨⟨(some 3), (.mv (.c (.int .i64 (6)))), none⟩, none⟩]) .ret) .skip))))))))) (.seq (.seq (.ops false [⟨⟨(some 72), (.mv (.tmp 5)), none⟩, none⟩, ⟨⟨(some 73), (.mv (.c (.int .i64 (0)))), none⟩, none⟩]) (.block 1 (.loop 0 [0, 2, 4, 5, 72, 73] xb_report_Decode_0))) (.seq (.seq (.ops false [⟨⟨(some 111), (.ld true 4 (.tmp 4)), none⟩, (some (.agg [(.int .i64), (.int .i64), (.isl .i64), (.isl .i64)]))⟩, ⟨⟨(some 112), (.call (.func 35) [(.tmp 111)]), none⟩, none⟩, ⟨⟨(some 113), (.un .not (.tmp 112)), none⟩, none⟩]) (.cond (.tmp 113) (.seq (.ops false [⟨⟨(some 114), (.build [(.int .i64 (0)), (.int .i64 (0)), (.isl true true .i64 []), (.isl true true .i64 [])] []), none⟩, none⟩, ⟨⟨none, (.st 4 (.tmp 2) (.tmp 114)), none⟩, none⟩, ⟨⟨(some 3), (.mv (.c (.int .i64 (3)))), none⟩, none⟩]) .ret) .skip)) (.seq (.ops false [⟨⟨(some 115), (.ld true 4 (.tmp 4)), none⟩, (some (.agg [(.int .i64), (.int .i64), (.isl .i64), (.isl .i64)]))⟩, ⟨⟨none, (.st 4 (.tmp 2) (.tmp 115)), none⟩, none⟩, ⟨⟨(some 3), (.mv (.c (.int .i64 (0)))), none⟩, none⟩]) .ret)))))))))
def rs_report_Decode : List ResultVar := [(.cell 2 46), (.tmp 3)]
theorem ir_report_Decode : compCode Tryd.prog (Tryd.f36.body.getD .skip) [[0, 2, 4, 5, 72, 73]] = some (xr_report_Decode.erase, []) := by kernel_rfl
def gm_report_Decode : Gam := (Gam.fn 61 as_report_get ga_report_get em_report_get (Gam.fn 48 as_sum_Of ga_sum_Of em_sum_Of (Gam.fn 35 as_report_Right ga_report_Right em_report_Right Gam.bot)))
theorem gk_report_Decode : GamOk Tryd.prog GG gm_report_Decode := (GamOk.fn at_report_get (GamOk.fn at_sum_Of (GamOk.fn at_report_Right GamOk.bot)))
def st_report_Decode_0 (b6 : Bool) (b7 : Bool) (l8 : List Int) (n9 : Int) (n10 : Int) (n11 : Int) (n12 : Int) (n13 : Int) (b14 : Bool) (b15 : Bool) (l16 : List Int) (b17 : Bool) (b18 : Bool) (l19 : List Int) (n20 : Int) (n21 : Int) (b22 : Bool) (b23 : Bool) (l24 : List Int) (b25 : Bool) (b26 : Bool) (l27 : List Int) : Option (((Bool × Bool × List Int × Int × Int × Int × Int × Int × Bool × Bool × List Int × Bool × Bool × List Int × Int × Int × Bool × Bool × List Int × Bool × Bool × List Int)) ⊕ (((Int × Int × Bool × Bool × List Int × Bool × Bool × List Int × Int × Int × Bool × Bool × List Int × Bool × Bool × List Int)))) :=
  bif (decide (n11 < n10)) then
   bif (decide (0 ≤ (IntKind.wrap .i64 (8 + (IntKind.wrap .i64 (8 * n11)))))) then
    bif (decide ((IntKind.wrap .i64 (8 + (IntKind.wrap .i64 (8 * n11)))) ≤ (IntKind.wrap .i64 (8 + (IntKind.wrap .i64 (8 * (IntKind.wrap .i64 (n11 + 1)))))))) then
     bif (decide ((IntKind.wrap .i64 (8 + (IntKind.wrap .i64 (8 * (IntKind.wrap .i64 (n11 + 1)))))) ≤ (((List.length l8) : Nat) : Int))) then
      (go_report_get b6 false (List.take (Int.toNat ((IntKind.wrap .i64 (8 + (IntKind.wrap .i64 (8 * (IntKind.wrap .i64 (n11 + 1)))))) - (IntKind.wrap .i64 (8 + (IntKind.wrap .i64 (8 * n11)))))) (List.drop (Int.toNat (IntKind.wrap .i64 (8 + (IntKind.wrap .i64 (8 * n11))))) l8))).bind fun r28 =>
      bif (decide ((((List.length l24) + 1) * 8) ≤ 140737488355328)) then
       bif (decide (((List.length l24) + 1) ≤ 4611686018427387904)) then
        bif (decide (0 ≤ (IntKind.wrap .i64 (8 + (IntKind.wrap .i64 (8 * (IntKind.wrap .i64 (n9 + n11)))))))) then
         bif (decide ((IntKind.wrap .i64 (8 + (IntKind.wrap .i64 (8 * (IntKind.wrap .i64 (n9 + n11)))))) ≤ (IntKind.wrap .i64 (8 + (IntKind.wrap .i64 (8 * (IntKind.wrap .i64 ((IntKind.wrap .i64 (n9 + n11)) + 1)))))))) then
          bif (decide ((IntKind.wrap .i64 (8 + (IntKind.wrap .i64 (8 * (IntKind.wrap .i64 ((IntKind.wrap .i64 (n9 + n11)) + 1)))))) ≤ (((List.length l8) : Nat) : Int))) then
           (go_report_get b6 false (List.take (Int.toNat ((IntKind.wrap .i64 (8 + (IntKind.wrap .i64 (8 * (IntKind.wrap .i64 ((IntKind.wrap .i64 (n9 + n11)) + 1)))))) - (IntKind.wrap .i64 (8 + (IntKind.wrap .i64 (8 * (IntKind.wrap .i64 (n9 + n11)))))))) (List.drop (Int.toNat (IntKind.wrap .i64 (8 + (IntKind.wrap .i64 (8 * (IntKind.wrap .i64 (n9 + n11))))))) l8))).bind fun r29 =>
           bif (decide ((((List.length l27) + 1) * 8) ≤ 140737488355328)) then
            bif (decide (((List.length l27) + 1) ≤ 4611686018427387904)) then
             some (Sum.inl (b6, b7, l8, n9, n10, (IntKind.wrap .i64 (n11 + 1)), n12, n13, b14, b15, l16, b17, b18, l19, n20, n21, (b22 && false), false, (l24 ++ [r28]), (b25 && false), false, (l27 ++ [r29])))
            else none
           else none
          else none
         else none
        else none
       else none
      else none
     else none
    else none
   else none
  else
   some (Sum.inr (n12, n13, b14, b15, l16, b17, b18, l19, n20, n21, b22, b23, l24, b25, b26, l27))
def lp_report_Decode_0 (b6 : Bool) (b7 : Bool) (l8 : List Int) (n9 : Int) (n10 : Int) (n11 : Int) (n12 : Int) (n13 : Int) (b14 : Bool) (b15 : Bool) (l16 : List Int) (b17 : Bool) (b18 : Bool) (l19 : List Int) (n20 : Int) (n21 : Int) (b22 : Bool) (b23 : Bool) (l24 : List Int) (b25 : Bool) (b26 : Bool) (l27 : List Int) : Option (((Int × Int × Bool × Bool × List Int × Bool × Bool × List Int × Int × Int × Bool × Bool × List Int × Bool × Bool × List Int))) := loopN (X := (Bool × Bool × List Int × Int × Int × Int × Int × Int × Bool × Bool × List Int × Bool × Bool × List Int × Int × Int × Bool × Bool × List Int × Bool × Bool × List Int)) (fun x => st_report_Decode_0 x.1 x.2.1 x.2.2.1 x.2.2.2.1 x.2.2.2.2.1 x.2.2.2.2.2.1 x.2.2.2.2.2.2.1 x.2.2.2.2.2.2.2.1 x.2.2.2.2.2.2.2.2.1 x.2.2.2.2.2.2.2.2.2.1 x.2.2.2.2.2.2.2.2.2.2.1 x.2.2.2.2.2.2.2.2.2.2.2.1 x.2.2.2.2.2.2.2.2.2.2.2.2.1 x.2.2.2.2.2.2.2.2.2.2.2.2.2.1 x.2.2.2.2.2.2.2.2.2.2.2.2.2.2.1 x.2.2.2.2.2.2.2.2.2.2.2.2.2.2.2.1 x.2.2.2.2.2.2.2.2.2.2.2.2.2.2.2.2.1 x.2.2.2.2.2.2.2.2.2.2.2.2.2.2.2.2.2.1 x.2.2.2.2.2.2.2.2.2.2.2.2.2.2.2.2.2.2.1 x.2.2.2.2.2.2.2.2.2.2.2.2.2.2.2.2.2.2.2.1 x.2.2.2.2.2.2.2.2.2.2.2.2.2.2.2.2.2.2.2.2.1 x.2.2.2.2.2.2.2.2.2.2.2.2.2.2.2.2.2.2.2.2.2) (b6, b7, l8, n9, n10, n11, n12, n13, b14, b15, l16, b17, b18, l19, n20, n21, b22, b23, l24, b25, b26, l27)
def sh_report_Decode_0 : StSh := ⟨116, [(0, (.p (.isl .u8))), (2, (.ptr 0 0)), (4, (.ptr 1 0)), (5, (.p (.int .i64))), (72, (.p (.int .i64))), (73, (.p (.int .i64)))], [(.box 46 [(.p (.int .i64)), (.p (.int .i64)), (.p (.isl .i64)), (.p (.isl .i64))]), (.box 46 [(.p (.int .i64)), (.p (.int .i64)), (.row 2), (.row 3)]), (.irow 3 .i64), (.irow 3 .i64)]⟩
def sx_report_Decode_0 (x : (Bool × Bool × List Int × Int × Int × Int × Int × Int × Bool × Bool × List Int × Bool × Bool × List Int × Int × Int × Bool × Bool × List Int × Bool × Bool × List Int)) : St := ⟨slots 116 0 [(0, (.p (.isl x.1 x.2.1 .u8 x.2.2.1))), (2, (.ptr 0 0)), (4, (.ptr 1 0)), (5, (.p (.int .i64 x.2.2.2.1))), (72, (.p (.int .i64 x.2.2.2.2.1))), (73, (.p (.int .i64 x.2.2.2.2.2.1)))], [(.box 46 [(.p (.int .i64 x.2.2.2.2.2.2.1)), (.p (.int .i64 x.2.2.2.2.2.2.2.1)), (.p (.isl x.2.2.2.2.2.2.2.2.1 x.2.2.2.2.2.2.2.2.2.1 .i64 x.2.2.2.2.2.2.2.2.2.2.1)), (.p (.isl x.2.2.2.2.2.2.2.2.2.2.2.1 x.2.2.2.2.2.2.2.2.2.2.2.2.1 .i64 x.2.2.2.2.2.2.2.2.2.2.2.2.2.1))]), (.box 46 [(.p (.int .i64 x.2.2.2.2.2.2.2.2.2.2.2.2.2.2.1)), (.p (.int .i64 x.2.2.2.2.2.2.2.2.2.2.2.2.2.2.2.1)), (.row 2), (.row 3)]), (.irow 3 .i64 x.2.2.2.2.2.2.2.2.2.2.2.2.2.2.2.2.1 x.2.2.2.2.2.2.2.2.2.2.2.2.2.2.2.2.2.1 x.2.2.2.2.2.2.2.2.2.2.2.2.2.2.2.2.2.2.1), (.irow 3 .i64 x.2.2.2.2.2.2.2.2.2.2.2.2.2.2.2.2.2.2.2.1 x.2.2.2.2.2.2.2.2.2.2.2.2.2.2.2.2.2.2.2.2.1 x.2.2.2.2.2.2.2.2.2.2.2.2.2.2.2.2.2.2.2.2.2)]⟩
def sa_report_Decode_0 (S : St) : (Bool × Bool × List Int × Int × Int × Int × Int × Int × Bool × Bool × List Int × Bool × Bool × List Int × Int × Int × Bool × Bool × List Int × Bool × Bool × List Int) := (((tls 0 S.t).headD .any).pv.nl, ((tls 0 S.t).headD .any).pv.ex, ((tls 0 S.t).headD .any).pv.ints, ((tls 5 S.t).headD .any).pv.num, ((tls 72 S.t).headD .any).pv.num, ((tls 73 S.t).headD .any).pv.num, (((tls 0 S.own).headD .gone).subs.headD .any).pv.num, (((tls 0 S.own).headD .gone).subs.tail.headD .any).pv.num, (((tls 0 S.own).headD .gone).subs.tail.tail.headD .any).pv.nl, (((tls 0 S.own).headD .gone).subs.tail.tail.headD .any).pv.ex, (((tls 0 S.own).headD .gone).subs.tail.tail.headD .any).pv.ints, (((tls 0 S.own).headD .gone).subs.tail.tail.tail.headD .any).pv.nl, (((tls 0 S.own).headD .gone).subs.tail.tail.tail.headD .any).pv.ex, (((tls 0 S.own).headD .gone).subs.tail.tail.tail.headD .any).pv.ints, (((tls 1 S.own).headD .gone).subs.headD .any).pv.num, (((tls 1 S.own).headD .gone).subs.tail.headD .any).pv.num, ((tls 2 S.own).headD .gone).pvD.nl, ((tls 2 S.own).headD .gone).pvD.ex, ((tls 2 S.own).headD .gone).pvD.ints, ((tls 3 S.own).headD .gone).pvD.nl, ((tls 3 S.own).headD .gone).pvD.ex, ((tls 3 S.own).headD .gone).pvD.ints)
def tz_report_Decode_0_0 : StSh := ⟨116, [(2, (.ptr 0 0)), (4, (.ptr 1 0))], [(.box 46 [(.p (.int .i64)), (.p (.int .i64)), (.p (.isl .i64)), (.p (.isl .i64))]), (.box 46 [(.p (.int .i64)), (.p (.int .i64)), (.row 2), (.row 3)]), (.irow 3 .i64), (.irow 3 .i64)]⟩
def tx_report_Decode_0_0 (x : (Int × Int × Bool × Bool × List Int × Bool × Bool × List Int × Int × Int × Bool × Bool × List Int × Bool × Bool × List Int)) : St := ⟨slots 116 0 [(2, (.ptr 0 0)), (4, (.ptr 1 0))], [(.box 46 [(.p (.int .i64 x.1)), (.p (.int .i64 x.2.1)), (.p (.isl x.2.2.1 x.2.2.2.1 .i64 x.2.2.2.2.1)), (.p (.isl x.2.2.2.2.2.1 x.2.2.2.2.2.2.1 .i64 x.2.2.2.2.2.2.2.1))]), (.box 46 [(.p (.int .i64 x.2.2.2.2.2.2.2.2.1)), (.p (.int .i64 x.2.2.2.2.2.2.2.2.2.1)), (.row 2), (.row 3)]), (.irow 3 .i64 x.2.2.2.2.2.2.2.2.2.2.1 x.2.2.2.2.2.2.2.2.2.2.2.1 x.2.2.2.2.2.2.2.2.2.2.2.2.1), (.irow 3 .i64 x.2.2.2.2.2.2.2.2.2.2.2.2.2.1 x.2.2.2.2.2.2.2.2.2.2.2.2.2.2.1 x.2.2.2.2.2.2.2.2.2.2.2.2.2.2.2)]⟩
def ta_report_Decode_0_0 (S : St) : (Int × Int × Bool × Bool × List Int × Bool × Bool × List Int × Int × Int × Bool × Bool × List Int × Bool × Bool × List Int) := ((((tls 0 S.own).headD .gone).subs.headD .any).pv.num, (((tls 0 S.own).headD .gone).subs.tail.headD .any).pv.num, (((tls 0 S.own).headD .gone).subs.tail.tail.headD .any).pv.nl, (((tls 0 S.own).headD .gone).subs.tail.tail.headD .any).pv.ex, (((tls 0 S.own).headD .gone).subs.tail.tail.headD .any).pv.ints, (((tls 0 S.own).headD .gone).subs.tail.tail.tail.headD .any).pv.nl, (((tls 0 S.own).headD .gone).subs.tail.tail.tail.headD .any).pv.ex, (((tls 0 S.own).headD .gone).subs.tail.tail.tail.headD .any).pv.ints, (((tls 1 S.own).headD .gone).subs.headD .any).pv.num, (((tls 1 S.own).headD .gone).subs.tail.headD .any).pv.num, ((tls 2 S.own).headD .gone).pvD.nl, ((tls 2 S.own).headD .gone).pvD.ex, ((tls 2 S.own).headD .gone).pvD.ints, ((tls 3 S.own).headD .gone).pvD.nl, ((tls 3 S.own).headD .gone).pvD.ex, ((tls 3 S.own).headD .gone).pvD.ints)
def kb_report_Decode_0 : Exit → St → Tree (((Bool × Bool × List Int × Int × Int × Int × Int × Int × Bool × Bool × List Int × Bool × Bool × List Int × Int × Int × Bool × Bool × List Int × Bool × Bool × List Int)) ⊕ (((Int × Int × Bool × Bool × List Int × Bool × Bool × List Int × Int × Int × Bool × Bool × List Int × Bool × Bool × List Int)))) := (exOne (.exit 1) [2, 4] tz_report_Decode_0_0 ta_report_Decode_0_0 (fun y => Sum.inr (y)) exNil)
def ky_report_Decode_0 : Dec (((Int × Int × Bool × Bool × List Int × Bool × Bool × List Int × Int × Int × Bool × Bool × List Int × Bool × Bool × List Int))) := fun _ y ke => ke ((.exit 1) : EK).ex (tx_report_Decode_0_0 y)
theorem kk_report_Decode_0 : ExOk Sum.inr kb_report_Decode_0 ky_report_Decode_0 := (ExOk.one (acc := ta_report_Decode_0_0) (bY := tx_report_Decode_0_0) (inj1 := fun y => y) (fun S => by kernel_rfl) (fun y _ ke => .inr (by kernel_rfl)) ExOk.nil)
def lm_report_Decode : Lam := fun _ j S kn ke => match j with
  | 0 => prepT [0, 2, 4, 5, 72, 73] [(100402, 3), (100403, 3)] S fun S => .chk (sh_report_Decode_0.ok S) (.bind (loopN (fun x => st_report_Decode_0 x.1 x.2.1 x.2.2.1 x.2.2.2.1 x.2.2.2.2.1 x.2.2.2.2.2.1 x.2.2.2.2.2.2.1 x.2.2.2.2.2.2.2.1 x.2.2.2.2.2.2.2.2.1 x.2.2.2.2.2.2.2.2.2.1 x.2.2.2.2.2.2.2.2.2.2.1 x.2.2.2.2.2.2.2.2.2.2.2.1 x.2.2.2.2.2.2.2.2.2.2.2.2.1 x.2.2.2.2.2.2.2.2.2.2.2.2.2.1 x.2.2.2.2.2.2.2.2.2.2.2.2.2.2.1 x.2.2.2.2.2.2.2.2.2.2.2.2.2.2.2.1 x.2.2.2.2.2.2.2.2.2.2.2.2.2.2.2.2.1 x.2.2.2.2.2.2.2.2.2.2.2.2.2.2.2.2.2.1 x.2.2.2.2.2.2.2.2.2.2.2.2.2.2.2.2.2.2.1 x.2.2.2.2.2.2.2.2.2.2.2.2.2.2.2.2.2.2.2.1 x.2.2.2.2.2.2.2.2.2.2.2.2.2.2.2.2.2.2.2.2.1 x.2.2.2.2.2.2.2.2.2.2.2.2.2.2.2.2.2.2.2.2.2) (sa_report_Decode_0 S)) fun y => ky_report_Decode_0 _ y ke)
  | _ => .fail
theorem sr_report_Decode_0 (x : (Bool × Bool × List Int × Int × Int × Int × Int × Int × Bool × Bool × List Int × Bool × Bool × List Int × Int × Int × Bool × Bool × List Int × Bool × Bool × List Int)) : (ev GG gm_report_Decode lm_report_Decode xb_report_Decode_0 (sx_report_Decode_0 x) (fun S => forgetT [0, 2, 4, 5, 72, 73] S fun S => prepT [0, 2, 4, 5, 72, 73] [(100402, 3), (100403, 3)] S fun S => .chk (sh_report_Decode_0.ok S) (.leaf (.inl (sa_report_Decode_0 S)))) kb_report_Decode_0).run = st_report_Decode_0 x.1 x.2.1 x.2.2.1 x.2.2.2.1 x.2.2.2.2.1 x.2.2.2.2.2.1 x.2.2.2.2.2.2.1 x.2.2.2.2.2.2.2.1 x.2.2.2.2.2.2.2.2.1 x.2.2.2.2.2.2.2.2.2.1 x.2.2.2.2.2.2.2.2.2.2.1 x.2.2.2.2.2.2.2.2.2.2.2.1 x.2.2.2.2.2.2.2.2.2.2.2.2.1 x.2.2.2.2.2.2.2.2.2.2.2.2.2.1 x.2.2.2.2.2.2.2.2.2.2.2.2.2.2.1 x.2.2.2.2.2.2.2.2.2.2.2.2.2.2.2.1 x.2.2.2.2.2.2.2.2.2.2.2.2.2.2.2.2.1 x.2.2.2.2.2.2.2.2.2.2.2.2.2.2.2.2.2.1 x.2.2.2.2.2.2.2.2.2.2.2.2.2.2.2.2.2.2.1 x.2.2.2.2.2.2.2.2.2.2.2.2.2.2.2.2.2.2.2.1 x.2.2.2.2.2.2.2.2.2.2.2.2.2.2.2.2.2.2.2.2.1 x.2.2.2.2.2.2.2.2.2.2.2.2.2.2.2.2.2.2.2.2.2 := by kernel_rfl
theorem la_report_Decode_0 : LamAt Tryd.prog GG lm_report_Decode 0 (.loop [0, 2, 4, 5, 72, 73] xb_report_Decode_0.erase) := lam_loop (body := xb_report_Decode_0) (Λ' := lm_report_Decode) gk_report_Decode (⟨trivial, ⟨⟨trivial, trivial⟩, ⟨⟨trivial, ⟨trivial, trivial⟩⟩, trivial⟩⟩⟩) (fun S => (by kernel_rfl : sh_report_Decode_0.build S = sx_report_Decode_0 (sa_report_Decode_0 S))) kk_report_Decode_0 sr_report_Decode_0 (fun _ _ _ => rfl)
def go_report_Decode (b0 : Bool) (b1 : Bool) (l2 : List Int) : Option (Int × Int × Bool × Bool × List Int × Bool × Bool × List Int × Int) :=
  bif (decide ((((List.length l2) : Nat) : Int) < 12)) then
   some (0, 0, true, true, [], true, true, [], 2)
  else
   bif (decide (2 < (((List.length l2) : Nat) : Int))) then
    bif (decide (2 < (List.length l2))) then
     bif (decide (8 ≤ (((List.length l2) : Nat) : Int))) then
      (go_report_get b0 false (List.take 4 (List.drop 4 l2))).bind fun r3 =>
      bif (decide (3 < (((List.length l2) : Nat) : Int))) then
       bif (decide (3 < (List.length l2))) then
        bif (decide (2 ≤ (((List.length l2) : Nat) : Int))) then
         bif (List.all (List.take 2 (List.drop 0 l2)) (fun x32 => (decide ((0 ≤ x32) ∧ (x32 < 256))))) then
          bif (!((List.take 2 (List.drop 0 l2)) == [78, 82])) then
           some (0, 0, true, true, [], true, true, [], 4)
          else
           bif (decide ((IntKind.wrap .i64 (List.getD l2 3 0)) > 4)) then
            some (0, 0, true, true, [], true, true, [], 4)
           else
            bif (!((decide ((IntKind.wrap .i64 (List.getD l2 3 0)) > 0)) == ((IntKind.wrap .i64 (bAnd .i64 (IntKind.wrap .i64 (List.getD l2 2 0)) 32)) != 0))) then
             some (0, 0, true, true, [], true, true, [], 4)
            else
             bif (decide ((((List.length l2) : Nat) : Int) < (IntKind.wrap .i64 ((IntKind.wrap .i64 (8 + (IntKind.wrap .i64 (16 * (IntKind.wrap .i64 (List.getD l2 3 0)))))) + 4)))) then
              some (0, 0, true, true, [], true, true, [], 2)
             else
              bif (decide ((((List.length l2) : Nat) : Int) > (IntKind.wrap .i64 ((IntKind.wrap .i64 (8 + (IntKind.wrap .i64 (16 * (IntKind.wrap .i64 (List.getD l2 3 0)))))) + 4)))) then
               some (0, 0, true, true, [], true, true, [], 5)
              else
               bif (decide (0 ≤ (IntKind.wrap .i64 (8 + (IntKind.wrap .i64 (16 * (IntKind.wrap .i64 (List.getD l2 3 0)))))))) then
                bif (decide ((IntKind.wrap .i64 (8 + (IntKind.wrap .i64 (16 * (IntKind.wrap .i64 (List.getD l2 3 0)))))) ≤ (((List.length l2) : Nat) : Int))) then
                 bif (decide ((((List.length l2) : Nat) : Int) ≤ (((List.length l2) : Nat) : Int))) then
                  (go_report_get b0 b1 (List.take (Int.toNat ((((List.length l2) : Nat) : Int) - (IntKind.wrap .i64 (8 + (IntKind.wrap .i64 (16 * (IntKind.wrap .i64 (List.getD l2 3 0)))))))) (List.drop (Int.toNat (IntKind.wrap .i64 (8 + (IntKind.wrap .i64 (16 * (IntKind.wrap .i64 (List.getD l2 3 0))))))) l2))).bind fun r4 =>
                  bif (decide (0 ≤ (IntKind.wrap .i64 (8 + (IntKind.wrap .i64 (16 * (IntKind.wrap .i64 (List.getD l2 3 0)))))))) then
                   bif (decide ((IntKind.wrap .i64 (8 + (IntKind.wrap .i64 (16 * (IntKind.wrap .i64 (List.getD l2 3 0)))))) ≤ (((List.length l2) : Nat) : Int))) then
                    (go_sum_Of b0 false (List.take (Int.toNat ((IntKind.wrap .i64 (8 + (IntKind.wrap .i64 (16 * (IntKind.wrap .i64 (List.getD l2 3 0)))))) - 0)) (List.drop 0 l2))).bind fun r5 =>
                    bif (r4 != (IntKind.wrap .i64 r5)) then
                     some (0, 0, true, true, [], true, true, [], 6)
                    else
                     (lp_report_Decode_0 b0 b1 l2 (IntKind.wrap .i64 (List.getD l2 3 0)) (IntKind.wrap .i64 (List.getD l2 3 0)) 0 0 0 true true [] true true [] (IntKind.wrap .i64 (List.getD l2 2 0)) r3 true true [] true true []).bind fun y30 =>
                     (go_report_Right y30.2.2.2.2.2.2.2.2.1 y30.2.2.2.2.2.2.2.2.2.1 y30.2.2.2.2.2.2.2.2.2.2.1 y30.2.2.2.2.2.2.2.2.2.2.2.1 y30.2.2.2.2.2.2.2.2.2.2.2.2.1 y30.2.2.2.2.2.2.2.2.2.2.2.2.2.1 y30.2.2.2.2.2.2.2.2.2.2.2.2.2.2.1 y30.2.2.2.2.2.2.2.2.2.2.2.2.2.2.2).bind fun r31 =>
                     bif (!r31) then
                      some (0, 0, true, true, [], true, true, [], 3)
                     else
                      some (y30.2.2.2.2.2.2.2.2.1, y30.2.2.2.2.2.2.2.2.2.1, y30.2.2.2.2.2.2.2.2.2.2.1, y30.2.2.2.2.2.2.2.2.2.2.2.1, y30.2.2.2.2.2.2.2.2.2.2.2.2.1, y30.2.2.2.2.2.2.2.2.2.2.2.2.2.1, y30.2.2.2.2.2.2.2.2.2.2.2.2.2.2.1, y30.2.2.2.2.2.2.2.2.2.2.2.2.2.2.2, 0)
                   else none
                  else none
                 else none
                else none
               else none
         else none
        else none
       else none
      else none
     else none
    else none
   else none
def em_report_Decode (r : (Int × Int × Bool × Bool × List Int × Bool × Bool × List Int × Int)) : PV := (.tup [(.agg [(.int .i64 r.1), (.int .i64 r.2.1), (.isl r.2.2.1 r.2.2.2.1 .i64 r.2.2.2.2.1), (.isl r.2.2.2.2.2.1 r.2.2.2.2.2.2.1 .i64 r.2.2.2.2.2.2.2.1)]), (.int .i64 r.2.2.2.2.2.2.2.2)])
def rh_report_Decode : Shp := (.tup [(.agg [(.int .i64), (.int .i64), (.isl .i64), (.isl .i64)]), (.int .i64)])
def ra_report_Decode (v : PV) : (Int × Int × Bool × Bool × List Int × Bool × Bool × List Int × Int) := (((v.subs.headD .nilSl).subs.headD .nilSl).num, ((v.subs.headD .nilSl).subs.tail.headD .nilSl).num, ((v.subs.headD .nilSl).subs.tail.tail.headD .nilSl).nl, ((v.subs.headD .nilSl).subs.tail.tail.headD .nilSl).ex, ((v.subs.headD .nilSl).subs.tail.tail.headD .nilSl).ints, ((v.subs.headD .nilSl).subs.tail.tail.tail.headD .nilSl).nl, ((v.subs.headD .nilSl).subs.tail.tail.tail.headD .nilSl).ex, ((v.subs.headD .nilSl).subs.tail.tail.tail.headD .nilSl).ints, (v.subs.tail.headD .nilSl).num)
def kf_report_Decode (v : PV) : Tree (Int × Int × Bool × Bool × List Int × Bool × Bool × List Int × Int) := .chk (rh_report_Decode.ok v) (.leaf (ra_report_Decode v))
theorem rn_report_Decode (b0 : Bool) (b1 : Bool) (l2 : List Int) : (ev GG gm_report_Decode lm_report_Decode xr_report_Decode ⟨slots 116 0 [(0, .p (.isl b0 b1 .u8 l2))], []⟩ (fun S => finT Tryd.prog rs_report_Decode S kf_report_Decode) (retT Tryd.prog rs_report_Decode kf_report_Decode)).run = go_report_Decode b0 b1 l2 := by kernel_rfl
theorem ok_report_Decode (b0 : Bool) (b1 : Bool) (l2 : List Int) (r : (Int × Int × Bool × Bool × List Int × Bool × Bool × List Int × Int)) (h : go_report_Decode b0 b1 l2 = some r) : FunEq Tryd.prog GG 36 [(.isl b0 b1 .u8 l2)] (em_report_Decode r) :=
  fun_of_ev (x := xr_report_Decode) (Λ := lm_report_Decode) gk_report_Decode [[0, 2, 4, 5, 72, 73]] Tryd.func36 rfl (by kernel_rfl) ir_report_Decode (by kernel_rfl) (congrArg Array.toList Tryd.results36) Tryd.ntmps36 (⟨trivial, ⟨⟨trivial, ⟨⟨trivial, trivial⟩, trivial⟩⟩, ⟨trivial, ⟨trivial, ⟨trivial, ⟨⟨trivial, ⟨⟨trivial, trivial⟩, ⟨trivial, ⟨⟨trivial, trivial⟩, ⟨trivial, ⟨⟨trivial, trivial⟩, ⟨trivial, ⟨⟨trivial, trivial⟩, trivial⟩⟩⟩⟩⟩⟩⟩⟩, ⟨⟨trivial, la_report_Decode_0⟩, ⟨⟨trivial, ⟨⟨trivial, trivial⟩, trivial⟩⟩, ⟨trivial, trivial⟩⟩⟩⟩⟩⟩⟩⟩⟩) (leaf_of fun v => (by kernel_rfl : rh_report_Decode.build v = em_report_Decode (ra_report_Decode v))) (by kernel_rfl) ((rn_report_Decode b0 b1 l2).trans h)
def as_report_Decode : List Shp := [(.isl .u8)]
def ga_report_Decode (vs : List PV) : Option (Int × Int × Bool × Bool × List Int × Bool × Bool × List Int × Int) := go_report_Decode ((tls 0 vs).headD .nilSl).nl ((tls 0 vs).headD .nilSl).ex ((tls 0 vs).headD .nilSl).ints
theorem at_report_Decode : FnAt Tryd.prog GG 36 as_report_Decode ga_report_Decode em_report_Decode := fun vs h r hr => by
  have e : Shp.buildL as_report_Decode vs = [(.isl ((tls 0 vs).headD .nilSl).nl ((tls 0 vs).headD .nilSl).ex .u8 ((tls 0 vs).headD .nilSl).ints)] := by kernel_rfl
  rw [← Shp.buildL_eq _ h, e]
  exact .inl ⟨by decide, ok_report_Decode _ _ _ r hr⟩
def xr_watch_Right : XR := (.seq (.ops false [⟨⟨(some 1), (.box 78 (.tmp 0)), none⟩, none⟩, ⟨⟨(some 2), (.mv (.c (.bool false))), none⟩, none⟩]) (.seq (.block 0 (.seq (.ops false [⟨⟨(some 4), (.fldA 0 (.tmp 1)), none⟩, none⟩, ⟨⟨(some 5), (.ld false 1 (.tmp 4)), none⟩, (some (.int .i64))⟩, ⟨⟨(some 6), (.bin .lss (.tmp 5) (.c (.int .i64 (0)))), none⟩, none⟩, ⟨⟨(some 7), (.mv (.tmp 6)), none⟩, none⟩, ⟨⟨(some 8), (.fldA 0 (.tmp 1)), (some (7, false))⟩, none⟩, ⟨⟨(some 9), (.ld false 1 (.tmp 8)), (some (7, false))⟩, (some (.int .i64))⟩, ⟨⟨(some 10), (.bin .gtr (.tmp 9) (.c (.int .i64 (3)))), (some (7, false))⟩, none⟩, ⟨⟨(some 11), (.pick (.tmp 7) (.c (.bool true)) (.tmp 10)), none⟩, none⟩, ⟨⟨(some 12), (.mv (.tmp 11)), none⟩, none⟩, ⟨⟨(some 13), (.fldA 1 (.tmp 1)), (some (12, false))⟩, none⟩, ⟨⟨(some 14), (.ld false 1 (.tmp 13)), (some (12, false))⟩, (some (.int .i64))⟩, ⟨⟨(some 15), (.bin .lss (.tmp 14) (.c (.int .i64 (0)))), (some (12, false))⟩, none⟩, ⟨⟨(some 16), (.pick (.tmp 12) (.c (.bool true)) (.tmp 15)), none⟩, none⟩, ⟨⟨(some 17), (.mv (.tmp 16)), none⟩, none⟩, ⟨⟨(some 18), (.fldA 1 (.tmp 1)), (some (17, false))⟩, none⟩, ⟨⟨(some 19), (.ld false 1 (.tmp 18)), (some (17, false))⟩, (some (.int .i64))⟩, ⟨⟨(some 20), (.bin .gtr (.tmp 19) (.c (.int .i64 (1)))), (some (17, false))⟩, none⟩, ⟨⟨(some 21), (.pick (.tmp 17) (.c (.bool true)) (.tmp 20)), none⟩, none⟩, ⟨⟨(some 22), (.mv (.tmp 21)), none⟩, none⟩, ⟨⟨(some 23), (.fldA 2 (.tmp 1)), (some (22, false))⟩, none⟩, ⟨⟨(some 24), (.ld false 1 (.tmp 23)), (some (22, false))⟩, (some (.int .i64))⟩, ⟨⟨(some 25), (.bin .lss (.tmp 24) (.c (.int .i64 (0)))), (some (22, false))⟩, none⟩, ⟨⟨(some 26), (.pick (.tmp 22) (.c (.bool true)) (.tmp 25)), none⟩, none⟩, ⟨⟨(some 27), (.mv (.tmp 26)), none⟩, none⟩, ⟨⟨(some 28), (.fldA 2 (.tmp 1)), (some (27, false))⟩, none⟩, ⟨⟨(some 29), (.ld false 1 (.tmp 28)), (some (27, false))⟩, (some (.int .i64))⟩, ⟨⟨(some 30), (.bin .gtr (.tmp 29) (.c (.int .i64 (3)))), (some (27, false))⟩, none⟩, ⟨⟨(some 31), (.pick (.tmp 27) (.c (.bool true)) (.tmp 30)), none⟩, none⟩, ⟨⟨(some 3), (.mv (.tmp 31)), none⟩, none⟩]) (.cond (.tmp 3) (.seq (.ops false [⟨⟨(some 2), (.mv (.c (.bool false))), none⟩, none⟩]) .ret) (.seq (.ops false [⟨⟨(some 33), (.fldA 3 (.tmp 1)), none⟩, none⟩, ⟨⟨(some 34), (.ld false 1 (.tmp 33)), none⟩, (some (.int .i64))⟩, ⟨⟨(some 35), (.bin .lss (.tmp 34) (.c (.int .i64 (0)))), none⟩, none⟩, ⟨⟨(some 36), (.mv (.tmp 35)), none⟩, none⟩, ⟨⟨(some 37), (.fldA 3 (.tmp 1)), (some (36, false))⟩, none⟩, ⟨⟨(some 38), (.ld false 1 (.tmp 37)), (some (36, false))⟩, (some (.int .i64))⟩, ⟨⟨(some 39), (.bin .gtr (.tmp 38) (.c (.int .i64 (65537)))), (some (36, false))⟩, none⟩, ⟨⟨(some 40), (.pick (.tmp 36) (.c (.bool true)) (.tmp 39)), none⟩, none⟩, ⟨⟨(some 41), (.mv (.tmp 40)), none⟩, none⟩, ⟨⟨(some 42), (.fldA 3 (.tmp 1)), (some (41, false))⟩, none⟩, ⟨⟨(some 43), (.ld false 1 (.tmp 42)), (some (41, false))⟩, (some (.int .i64))⟩, ⟨⟨(some 44), (.bin .gtr (.tmp 43) (.c (.int .i64 (65536)))), (some (41, false))⟩, none⟩, ⟨⟨(some 45), (.mv (.tmp 44)), (some (41, false))⟩, none⟩, ⟨⟨(some 46), (.fldA 0 (.tmp 1)), (some (45, true))⟩, none⟩, ⟨⟨(some 47), (.ld false 1 (.tmp 46)), (some (45, true))⟩, (some (.int .i64))⟩, ⟨⟨(some 48), (.bin .neq (.tmp 47) (.c (.int .i64 (3)))), (some (45, true))⟩, none⟩, ⟨⟨(some 49), (.pick (.tmp 45) (.tmp 48) (.c (.bool false))), (some (41, false))⟩, none⟩, ⟨⟨(some 50), (.pick (.tmp 41) (.c (.bool true)) (.tmp 49)), none⟩, none⟩, ⟨⟨(some 51), (.mv (.tmp 50)), none⟩, none⟩, ⟨⟨(some 52), (.fldA 0 (.tmp 1)), (some (51, false))⟩, none⟩, ⟨⟨(some 53), (.ld false 1 (.tmp 52)), (some (51, false))⟩, (some (.int .i64))⟩, ⟨⟨(some 54), (.bin .eql (.tmp 53) (.c (.int .i64 (1)))), (some (51, false))⟩, none⟩, ⟨⟨(some 55), (.mv (.tmp 54)), (some (51, false))⟩, none⟩, ⟨⟨(some 56), (.fldA 2 (.tmp 1)), (some (55, true))⟩, none⟩, ⟨⟨(some 57), (.ld false 1 (.tmp 56)), (some (55, true))⟩, (some (.int .i64))⟩, ⟨⟨(some 58), (.bin .eql (.tmp 57) (.c (.int .i64 (3)))), (some (55, true))⟩, none⟩, ⟨⟨(some 59), (.pick (.tmp 55) (.tmp 58) (.c (.bool false))), (some (51, false))⟩, none⟩, ⟨⟨(some 60), (.pick (.tmp 51) (.c (.bool true)) (.tmp 59)), none⟩, none⟩, ⟨⟨(some 32), (.mv (.tmp 60)), none⟩, none⟩]) (.cond (.tmp 32) (.seq (.ops false [⟨⟨(some 2), (.mv (.c (.bool false))), none⟩, none⟩]) .ret) .skip))))) (.seq (.ops false [⟨⟨(some 61), (.fldA 0 (.tmp 1)), none⟩, none⟩, ⟨⟨(some 62), (.ld false 1 (.tmp 61)), none⟩, (some (.int .i64))⟩, ⟨⟨(some 63), (.bin .neq (.tmp 62) (.c (.int .i64 (0)))), none⟩, none⟩, ⟨⟨(some 64), (.mv (.tmp 63)), none⟩, none⟩, ⟨⟨(some 65), (.ld true 4 (.tmp 1)), (some (64, false))⟩, (some (.agg [(.int .i64), (.int .i64), (.int .i64), (.int .i64)]))⟩, ⟨⟨(some 66), (.build [(.int .i64 (0)), (.int .i64 (0)), (.int .i64 (0)), (.int .i64 (0))] []), (some (64, false))⟩, none⟩, ⟨⟨(some 67), (.eqAgg false [(.int .i64), (.int .i64), (.int .i64), (.int .i64)] (.tmp 65) (.tmp 66)), (some (64, false))⟩, none⟩, ⟨⟨(some 68), (.pick (.tmp 64) (.c (.bool true)) (.tmp 67)), none⟩, none⟩, ⟨⟨(some 2), (.mv (.tmp 68)), none⟩, none⟩]) .ret)))
def rs_watch_Right : List ResultVar := [(.tmp 2)]
theorem ir_watch_Right : compCode Tryd.prog (Tryd.f68.body.getD .skip) [] = some (xr_watch_Right.erase, []) := by kernel_rfl
def gm_watch_Right : Gam := Gam.bot
theorem gk_watch_Right : GamOk Tryd.prog GG gm_watch_Right := GamOk.bot
def lm_watch_Right : Lam := fun _ j S kn ke => match j with
  | _ => .fail
def go_watch_Right (n0 : Int) (n1 : Int) (n2 : Int) (n3 : Int) : Option Bool :=
  bif (decide (n0 < 0)) then
   some false
  else
   bif (decide (n0 > 3)) then
    some false
   else
    bif (decide (n1 < 0)) then
     some false
    else
     bif (decide (n1 > 1)) then
      some false
     else
      bif (decide (n2 < 0)) then
       some false
      else
       bif (decide (n2 > 3)) then
        some false
       else
        bif (decide (n3 < 0)) then
         some false
        else
         bif (decide (n3 > 65537)) then
          some false
         else
          bif (decide (n3 > 65536)) then
           bif (n0 != 3) then
            some false
           else
            bif (n0 == 1) then
             bif (n2 == 3) then
              some false
             else
              bif (n0 != 0) then
               some true
              else
               some ((n0 == 0) && ((n1 == 0) && ((n2 == 0) && ((n3 == 0) && true))))
            else
             bif (n0 != 0) then
              some true
             else
              some ((n0 == 0) && ((n1 == 0) && ((n2 == 0) && ((n3 == 0) && true))))
          else
           bif (n0 == 1) then
            bif (n2 == 3) then
             some false
            else
             bif (n0 != 0) then
              some true
             else
              some ((n0 == 0) && ((n1 == 0) && ((n2 == 0) && ((n3 == 0) && true))))
           else
            bif (n0 != 0) then
             some true
            else
             some ((n0 == 0) && ((n1 == 0) && ((n2 == 0) && ((n3 == 0) && true))))
def em_watch_Right (r : Bool) : PV := (.bool r)
def rh_watch_Right : Shp := .bool
def ra_watch_Right (v : PV) : Bool := v.tru
def kf_watch_Right (v : PV) : Tree Bool := .chk (rh_watch_Right.ok v) (.leaf (ra_watch_Right v))
theorem rn_watch_Right (n0 : Int) (n1 : Int) (n2 : Int) (n3 : Int) : (ev GG gm_watch_Right lm_watch_Right xr_watch_Right ⟨slots 69 0 [(0, .p (.agg [(.int .i64 n0), (.int .i64 n1), (.int .i64 n2), (.int .i64 n3)]))], []⟩ (fun S => finT Tryd.prog rs_watch_Right S kf_watch_Right) (retT Tryd.prog rs_watch_Right kf_watch_Right)).run = go_watch_Right n0 n1 n2 n3 := by kernel_rfl
theorem ok_watch_Right (n0 : Int) (n1 : Int) (n2 : Int) (n3 : Int) (r : Bool) (h : go_watch_Right n0 n1 n2 n3 = some r) : FunEq Tryd.prog GG 68 [(.agg [(.int .i64 n0), (.int .i64 n1), (.int .i64 n2), (.int .i64 n3)])] (em_watch_Right r) :=
  fun_of_ev (x := xr_watch_Right) (Λ := lm_watch_Right) gk_watch_Right [] Tryd.func68 rfl (by kernel_rfl) ir_watch_Right (by kernel_rfl) (congrArg Array.toList Tryd.results68) Tryd.ntmps68 (⟨trivial, ⟨⟨trivial, ⟨⟨trivial, trivial⟩, ⟨trivial, ⟨⟨trivial, trivial⟩, trivial⟩⟩⟩⟩, ⟨trivial, trivial⟩⟩⟩) (leaf_of fun v => (by kernel_rfl : rh_watch_Right.build v = em_watch_Right (ra_watch_Right v))) (by kernel_rfl) ((rn_watch_Right n0 n1 n2 n3).trans h)
def as_watch_Right : List Shp := [(.agg [(.int .i64), (.int .i64), (.int .i64), (.int .i64)])]
def ga_watch_Right (vs : List PV) : Option Bool := go_watch_Right (((tls 0 vs).headD .nilSl).subs.headD .nilSl).num (((tls 0 vs).headD .nilSl).subs.tail.headD .nilSl).num (((tls 0 vs).headD .nilSl).subs.tail.tail.headD .nilSl).num (((tls 0 vs).headD .nilSl).subs.tail.tail.tail.headD .nilSl).num
theorem at_watch_Right : FnAt Tryd.prog GG 68 as_watch_Right ga_watch_Right em_watch_Right := fun vs h r hr => by
  have e : Shp.buildL as_watch_Right vs = [(.agg [(.int .i64 (((tls 0 vs).headD .nilSl).subs.headD .nilSl).num), (.int .i64 (((tls 0 vs).headD .nilSl).subs.tail.headD .nilSl).num), (.int .i64 (((tls 0 vs).headD .nilSl).subs.tail.tail.headD .nilSl).num), (.int .i64 (((tls 0 vs).headD .nilSl).subs.tail.tail.tail.headD .nilSl).num)])] := by kernel_rfl
  rw [← Shp.buildL_eq _ h, e]
  exact .inl ⟨by decide, ok_watch_Right _ _ _ _ r hr⟩
def xr_watch_Valid : XR := (.seq (.ops false [⟨⟨(some 1), (.box 78 (.tmp 0)), none⟩, none⟩, ⟨⟨(some 2), (.mv (.c (.bool false))), none⟩, none⟩]) (.seq (.ops false [⟨⟨(some 3), (.fldA 0 (.tmp 1)), none⟩, none⟩, ⟨⟨(some 4), (.ld false 1 (.tmp 3)), none⟩, (some (.int .i64))⟩, ⟨⟨(some 5), (.bin .eql (.tmp 4) (.c (.int .i64 (1)))), none⟩, none⟩, ⟨⟨(some 6), (.mv (.tmp 5)), none⟩, none⟩, ⟨⟨(some 7), (.fldA 0 (.tmp 1)), (some (6, false))⟩, none⟩, ⟨⟨(some 8), (.ld false 1 (.tmp 7)), (some (6, false))⟩, (some (.int .i64))⟩, ⟨⟨(some 9), (.bin .eql (.tmp 8) (.c (.int .i64 (2)))), (some (6, false))⟩, none⟩, ⟨⟨(some 10), (.pick (.tmp 6) (.c (.bool true)) (.tmp 9)), none⟩, none⟩, ⟨⟨(some 2), (.mv (.tmp 10)), none⟩, none⟩]) .ret))
def rs_watch_Valid : List ResultVar := [(.tmp 2)]
theorem ir_watch_Valid : compCode Tryd.prog (Tryd.f69.body.getD .skip) [] = some (xr_watch_Valid.erase, []) := by kernel_rfl
def gm_watch_Valid : Gam := Gam.bot
theorem gk_watch_Valid : GamOk Tryd.prog GG gm_watch_Valid := GamOk.bot
def lm_watch_Valid : Lam := fun _ j S kn ke => match j with
  | _ => .fail
def go_watch_Valid (n0 : Int) (n1 : Int) (n2 : Int) (n3 : Int) : Option Bool :=
  bif (n0 == 1) then
   some true
  else
   some (n0 == 2)
def em_watch_Valid (r : Bool) : PV := (.bool r)
def rh_watch_Valid : Shp := .bool
def ra_watch_Valid (v : PV) : Bool := v.tru
def kf_watch_Valid (v : PV) : Tree Bool := .chk (rh_watch_Valid.ok v) (.leaf (ra_watch_Valid v))
theorem rn_watch_Valid (n0 : Int) (n1 : Int) (n2 : Int) (n3 : Int) : (ev GG gm_watch_Valid lm_watch_Valid xr_watch_Valid ⟨slots 11 0 [(0, .p (.agg [(.int .i64 n0), (.int .i64 n1), (.int .i64 n2), (.int .i64 n3)]))], []⟩ (fun S => finT Tryd.prog rs_watch_Valid S kf_watch_Valid) (retT Tryd.prog rs_watch_Valid kf_watch_Valid)).run = go_watch_Valid n0 n1 n2 n3 := by kernel_rfl
theorem ok_watch_Valid (n0 : Int) (n1 : Int) (n2 : Int) (n3 : Int) (r : Bool) (h : go_watch_Valid n0 n1 n2 n3 = some r) : FunEq Tryd.prog GG 69 [(.agg [(.int .i64 n0), (.int .i64 n1), (.int .i64 n2), (.int .i64 n3)])] (em_watch_Valid r) :=
  fun_of_ev (x := xr_watch_Valid) (Λ := lm_watch_Valid) gk_watch_Valid [] Tryd.func69 rfl (by kernel_rfl) ir_watch_Valid (by kernel_rfl) (congrArg Array.toList Tryd.results69) Tryd.ntmps69 (⟨trivial, ⟨trivial, trivial⟩⟩) (leaf_of fun v => (by kernel_rfl : rh_watch_Valid.build v = em_watch_Valid (ra_watch_Valid v))) (by kernel_rfl) ((rn_watch_Valid n0 n1 n2 n3).trans h)
def as_watch_Valid : List Shp := [(.agg [(.int .i64), (.int .i64), (.int .i64), (.int .i64)])]
def ga_watch_Valid (vs : List PV) : Option Bool := go_watch_Valid (((tls 0 vs).headD .nilSl).subs.headD .nilSl).num (((tls 0 vs).headD .nilSl).subs.tail.headD .nilSl).num (((tls 0 vs).headD .nilSl).subs.tail.tail.headD .nilSl).num (((tls 0 vs).headD .nilSl).subs.tail.tail.tail.headD .nilSl).num
theorem at_watch_Valid : FnAt Tryd.prog GG 69 as_watch_Valid ga_watch_Valid em_watch_Valid := fun vs h r hr => by
  have e : Shp.buildL as_watch_Valid vs = [(.agg [(.int .i64 (((tls 0 vs).headD .nilSl).subs.headD .nilSl).num), (.int .i64 (((tls 0 vs).headD .nilSl).subs.tail.headD .nilSl).num), (.int .i64 (((tls 0 vs).headD .nilSl).subs.tail.tail.headD .nilSl).num), (.int .i64 (((tls 0 vs).headD .nilSl).subs.tail.tail.tail.headD .nilSl).num)])] := by kernel_rfl
  rw [← Shp.buildL_eq _ h, e]
  exact .inl ⟨by decide, ok_watch_Valid _ _ _ _ r hr⟩
def xb_report_Health_0 : XR := (.seq (.ops false [⟨⟨(some 29), (.bin .lss (.tmp 28) (.c (.int .i64 (3)))), none⟩, none⟩]) (.seq (.cond (.tmp 29) .skip (.exit 0)) (.seq (.block 1 (.seq (.ops false [⟨⟨(some 30), (.mv (.tmp 28)), none⟩, none⟩, ⟨⟨(some 31), (.ixV false 1 3 (.tmp 27) (.tmp 28)), none⟩, none⟩, ⟨⟨(some 8), (.mv (.tmp 30)), none⟩, none⟩, ⟨⟨(some 9), (.mv (.tmp 31)), none⟩, none⟩]) (.seq (.ops false [⟨⟨(some 32), (.mv (.tmp 9)), none⟩, none⟩]) (.cond (.tmp 32) (.ops false [⟨⟨(some 33), (.mv (.tmp 7)), none⟩, none⟩, ⟨⟨(some 34), (.bsl 3 (some .i64) 1 [(.c (.int .i64 (8))), (.c (.int .i64 (16))), (.c (.int .i64 (32)))]), none⟩, none⟩, ⟨⟨(some 35), (.mv (.tmp 8)), none⟩, none⟩, ⟨⟨(some 36), (.ixA 1 (.tmp 34) (.tmp 35)), none⟩, none⟩, ⟨⟨(some 37), (.ld false 1 (.tmp 36)), none⟩, (some (.int .i64))⟩, ⟨⟨(some 38), (.bin .add (.tmp 33) (.tmp 37)), none⟩, none⟩, ⟨⟨(some 7), (.mv (.tmp 38)), none⟩, none⟩]) .skip)))) (.ops false [⟨⟨(some 39), (.bin .add (.tmp 28) (.c (.int .i64 (1)))), none⟩, none⟩, ⟨⟨(some 28), (.mv (.tmp 39)), none⟩, none⟩]))))
def xr_report_Health : XR := (.seq (.ops false [⟨⟨(some 3), (.box 78 (.tmp 0)), none⟩, none⟩, ⟨⟨(some 6), (.mv (.c (.int .i64 (0)))), none⟩, none⟩]) (.seq (.seq (.ops false [⟨⟨(some 10), (.ld true 4 (.tmp 3)), none⟩, (some (.agg [(.int .i64), (.int .i64), (.int .i64), (.int .i64)]))⟩, ⟨⟨(some 11), (.call (.func 68) [(.tmp 10)]), none⟩, none⟩, ⟨⟨(some 12), (.un .not (.tmp 11)), none⟩, none⟩]) (.cond (.tmp 12) (.seq (.ops false [⟨⟨(some 6), (.mv (.c (.int .i64 (0)))), none⟩, none⟩]) .ret) .skip)) (.seq (.ops false [⟨⟨(some 13), (.fldA 0 (.tmp 3)), none⟩, none⟩, ⟨⟨(some 14), (.ld false 1 (.tmp 13)), none⟩, (some (.int .i64))⟩, ⟨⟨(some 15), (.fldA 1 (.tmp 3)), none⟩, none⟩, ⟨⟨(some 16), (.ld false 1 (.tmp 15)), none⟩, (some (.int .i64))⟩, ⟨⟨(some 17), (.bin .mul (.c (.int .i64 (4))) (.tmp 16)), none⟩, none⟩, ⟨⟨(some 18), (.bin .add (.tmp 14) (.tmp 17)), none⟩, none⟩, ⟨⟨(some 19), (.fldA 2 (.tmp 3)), none⟩, none⟩, ⟨⟨(some 20), (.ld false 1 (.tmp 19)), none⟩, (some (.int .i64))⟩, ⟨⟨(some 21), (.bin .mul (.c (.int .i64 (64))) (.tmp 20)), none⟩, none⟩, ⟨⟨(some 22), (.bin .add (.tmp 18) (.tmp 21)), none⟩, none⟩, ⟨⟨(some 7), (.mv (.tmp 22)), none⟩, none⟩]) (.seq (.seq (.ops false [⟨⟨(some 23), (.mv (.tmp 1)), none⟩, none⟩, ⟨⟨(some 24), (.mv (.tmp 2)), none⟩, none⟩, ⟨⟨(some 25), (.ld true 4 (.tmp 3)), none⟩, (some (.agg [(.int .i64), (.int .i64), (.int .i64), (.int .i64)]))⟩, ⟨⟨(some 26), (.call (.func 69) [(.tmp 25)]), none⟩, none⟩, ⟨⟨(some 27), (.build [(.bool false), (.bool false), (.bool false)] [(0, (1, (.tmp 23))), (1, (1, (.tmp 24))), (2, (1, (.tmp 26)))]), none⟩, none⟩, ⟨⟨(some 28), (.mv (.c (.int .i64 (0)))), none⟩, none⟩]) (.block 0 (.loop 0 [7, 27, 28] xb_report_Health_0))) (.seq (.ops false [⟨⟨(some 40), (.mv (.tmp 7)), none⟩, none⟩, ⟨⟨(some 6), (.mv (.tmp 40)), none⟩, none⟩]) .ret)))))
def rs_report_Health : List ResultVar := [(.tmp 6)]
theorem ir_report_Health : compCode Tryd.prog (Tryd.f57.body.getD .skip) [[7, 27, 28]] = some (xr_report_Health.erase, []) := by kernel_rfl
def gm_report_Health : Gam := (Gam.fn 68 as_watch_Right ga_watch_Right em_watch_Right (Gam.fn 69 as_watch_Valid ga_watch_Valid em_watch_Valid Gam.bot))
theorem gk_report_Health : GamOk Tryd.prog GG gm_report_Health := (GamOk.fn at_watch_Right (GamOk.fn at_watch_Valid GamOk.bot))
def st_report_Health_0 (n8 : Int) (b9 : Bool) (b10 : Bool) (b11 : Bool) (n12 : Int) : Option (((Int × Bool × Bool × Bool × Int)) ⊕ ((Int))) :=
  bif (decide (n12 < 3)) then
   bif (decide (0 ≤ n12)) then
    bif (decide (n12 < ((3 : Nat) : Int))) then
     bif ((Int.toNat n12) == 0) then
      bif b9 then
       bif (decide (0 ≤ n12)) then
        bif (decide (n12 < ((3 : Nat) : Int))) then
         bif (decide ((Int.toNat n12) < 3)) then
          some (Sum.inl ((IntKind.wrap .i64 (n8 + (List.getD [8, 16, 32] (Int.toNat n12) 0))), b9, b10, b11, (IntKind.wrap .i64 (n12 + 1))))
         else none
        else none
       else none
      else
       some (Sum.inl (n8, b9, b10, b11, (IntKind.wrap .i64 (n12 + 1))))
     else
      bif ((Int.toNat n12) == 1) then
       bif b10 then
        bif (decide (0 ≤ n12)) then
         bif (decide (n12 < ((3 : Nat) : Int))) then
          bif (decide ((Int.toNat n12) < 3)) then
           some (Sum.inl ((IntKind.wrap .i64 (n8 + (List.getD [8, 16, 32] (Int.toNat n12) 0))), b9, b10, b11, (IntKind.wrap .i64 (n12 + 1))))
          else none
         else none
        else none
       else
        some (Sum.inl (n8, b9, b10, b11, (IntKind.wrap .i64 (n12 + 1))))
      else
       bif ((Int.toNat n12) == 2) then
        bif b11 then
         bif (decide (0 ≤ n12)) then
          bif (decide (n12 < ((3 : Nat) : Int))) then
           bif (decide ((Int.toNat n12) < 3)) then
            some (Sum.inl ((IntKind.wrap .i64 (n8 + (List.getD [8, 16, 32] (Int.toNat n12) 0))), b9, b10, b11, (IntKind.wrap .i64 (n12 + 1))))
           else none
          else none
         else none
        else
         some (Sum.inl (n8, b9, b10, b11, (IntKind.wrap .i64 (n12 + 1))))
       else
        none
    else none
   else none
  else
   some (Sum.inr n8)
def lp_report_Health_0 (n8 : Int) (b9 : Bool) (b10 : Bool) (b11 : Bool) (n12 : Int) : Option ((Int)) := loopN (X := (Int × Bool × Bool × Bool × Int)) (fun x => st_report_Health_0 x.1 x.2.1 x.2.2.1 x.2.2.2.1 x.2.2.2.2) (n8, b9, b10, b11, n12)
def sh_report_Health_0 : StSh := ⟨41, [(7, (.p (.int .i64))), (27, (.p (.agg [.bool, .bool, .bool]))), (28, (.p (.int .i64)))], []⟩
def sx_report_Health_0 (x : (Int × Bool × Bool × Bool × Int)) : St := ⟨slots 41 0 [(7, (.p (.int .i64 x.1))), (27, (.p (.agg [(.bool x.2.1), (.bool x.2.2.1), (.bool x.2.2.2.1)]))), (28, (.p (.int .i64 x.2.2.2.2)))], []⟩
def sa_report_Health_0 (S : St) : (Int × Bool × Bool × Bool × Int) := (((tls 7 S.t).headD .any).pv.num, (((tls 27 S.t).headD .any).pv.subs.headD .nilSl).tru, (((tls 27 S.t).headD .any).pv.subs.tail.headD .nilSl).tru, (((tls 27 S.t).headD .any).pv.subs.tail.tail.headD .nilSl).tru, ((tls 28 S.t).headD .any).pv.num)
def tz_report_Health_0_0 : StSh := ⟨41, [(7, (.p (.int .i64)))], []⟩
def tx_report_Health_0_0 (x : Int) : St := ⟨slots 41 0 [(7, (.p (.int .i64 x)))], []⟩
def ta_report_Health_0_0 (S : St) : Int := ((tls 7 S.t).headD .any).pv.num
def kb_report_Health_0 : Exit → St → Tree (((Int × Bool × Bool × Bool × Int)) ⊕ ((Int))) := (exOne (.exit 0) [7] tz_report_Health_0_0 ta_report_Health_0_0 (fun y => Sum.inr (y)) exNil)
def ky_report_Health_0 : Dec ((Int)) := fun _ y ke => ke ((.exit 0) : EK).ex (tx_report_Health_0_0 y)
theorem kk_report_Health_0 : ExOk Sum.inr kb_report_Health_0 ky_report_Health_0 := (ExOk.one (acc := ta_report_Health_0_0) (bY := tx_report_Health_0_0) (inj1 := fun y => y) (fun S => by kernel_rfl) (fun y _ ke => .inr (by kernel_rfl)) ExOk.nil)
def lm_report_Health : Lam := fun _ j S kn ke => match j with
  | 0 => prepT [7, 27, 28] [] S fun S => .chk (sh_report_Health_0.ok S) (.bind (loopN (fun x => st_report_Health_0 x.1 x.2.1 x.2.2.1 x.2.2.2.1 x.2.2.2.2) (sa_report_Health_0 S)) fun y => ky_report_Health_0 _ y ke)
  | _ => .fail
theorem sr_report_Health_0 (x : (Int × Bool × Bool × Bool × Int)) : (ev GG gm_report_Health lm_report_Health xb_report_Health_0 (sx_report_Health_0 x) (fun S => forgetT [7, 27, 28] S fun S => prepT [7, 27, 28] [] S fun S => .chk (sh_report_Health_0.ok S) (.leaf (.inl (sa_report_Health_0 S)))) kb_report_Health_0).run = st_report_Health_0 x.1 x.2.1 x.2.2.1 x.2.2.2.1 x.2.2.2.2 := by kernel_rfl
theorem la_report_Health_0 : LamAt Tryd.prog GG lm_report_Health 0 (.loop [7, 27, 28] xb_report_Health_0.erase) := lam_loop (body := xb_report_Health_0) (Λ' := lm_report_Health) gk_report_Health (⟨trivial, ⟨⟨trivial, trivial⟩, ⟨⟨trivial, ⟨trivial, ⟨trivial, trivial⟩⟩⟩, trivial⟩⟩⟩) (fun S => (by kernel_rfl : sh_report_Health_0.build S = sx_report_Health_0 (sa_report_Health_0 S))) kk_report_Health_0 sr_report_Health_0 (fun _ _ _ => rfl)
def go_report_Health (n0 : Int) (n1 : Int) (n2 : Int) (n3 : Int) (b4 : Bool) (b5 : Bool) : Option Int :=
  (go_watch_Right n0 n1 n2 n3).bind fun r6 =>
  bif (!r6) then
   some 0
  else
   (go_watch_Valid n0 n1 n2 n3).bind fun r7 =>
   (lp_report_Health_0 (IntKind.wrap .i64 ((IntKind.wrap .i64 (n0 + (IntKind.wrap .i64 (4 * n1)))) + (IntKind.wrap .i64 (64 * n2)))) b4 b5 r7 0).bind fun y13 =>
   some y13
def em_report_Health (r : Int) : PV := (.int .i64 r)
def rh_report_Health : Shp := (.int .i64)
def ra_report_Health (v : PV) : Int := v.num
def kf_report_Health (v : PV) : Tree Int := .chk (rh_report_Health.ok v) (.leaf (ra_report_Health v))
theorem rn_report_Health (n0 : Int) (n1 : Int) (n2 : Int) (n3 : Int) (b4 : Bool) (b5 : Bool) : (ev GG gm_report_Health lm_report_Health xr_report_Health ⟨slots 41 0 [(0, .p (.agg [(.int .i64 n0), (.int .i64 n1), (.int .i64 n2), (.int .i64 n3)])), (1, .p (.bool b4)), (2, .p (.bool b5))], []⟩ (fun S => finT Tryd.prog rs_report_Health S kf_report_Health) (retT Tryd.prog rs_report_Health kf_report_Health)).run = go_report_Health n0 n1 n2 n3 b4 b5 := by kernel_rfl
theorem ok_report_Health (n0 : Int) (n1 : Int) (n2 : Int) (n3 : Int) (b4 : Bool) (b5 : Bool) (r : Int) (h : go_report_Health n0 n1 n2 n3 b4 b5 = some r) : FunEq Tryd.prog GG 57 [(.agg [(.int .i64 n0), (.int .i64 n1), (.int .i64 n2), (.int .i64 n3)]), (.bool b4), (.bool b5)] (em_report_Health r) :=
  fun_of_ev (x := xr_report_Health) (Λ := lm_report_Health) gk_report_Health [[7, 27, 28]] Tryd.func57 rfl (by kernel_rfl) ir_report_Health (by kernel_rfl) (congrArg Array.toList Tryd.results57) Tryd.ntmps57 (⟨trivial, ⟨⟨trivial, ⟨⟨trivial, trivial⟩, trivial⟩⟩, ⟨trivial, ⟨⟨trivial, la_report_Health_0⟩, ⟨trivial, trivial⟩⟩⟩⟩⟩) (leaf_of fun v => (by kernel_rfl : rh_report_Health.build v = em_report_Health (ra_report_Health v))) (by kernel_rfl) ((rn_report_Health n0 n1 n2 n3 b4 b5).trans h)
def as_report_Health : List Shp := [(.agg [(.int .i64), (.int .i64), (.int .i64), (.int .i64)]), .bool, .bool]
def ga_report_Health (vs : List PV) : Option Int := go_report_Health (((tls 0 vs).headD .nilSl).subs.headD .nilSl).num (((tls 0 vs).headD .nilSl).subs.tail.headD .nilSl).num (((tls 0 vs).headD .nilSl).subs.tail.tail.headD .nilSl).num (((tls 0 vs).headD .nilSl).subs.tail.tail.tail.headD .nilSl).num ((tls 1 vs).headD .nilSl).tru ((tls 2 vs).headD .nilSl).tru
theorem at_report_Health : FnAt Tryd.prog GG 57 as_report_Health ga_report_Health em_report_Health := fun vs h r hr => by
  have e : Shp.buildL as_report_Health vs = [(.agg [(.int .i64 (((tls 0 vs).headD .nilSl).subs.headD .nilSl).num), (.int .i64 (((tls 0 vs).headD .nilSl).subs.tail.headD .nilSl).num), (.int .i64 (((tls 0 vs).headD .nilSl).subs.tail.tail.headD .nilSl).num), (.int .i64 (((tls 0 vs).headD .nilSl).subs.tail.tail.tail.headD .nilSl).num)]), (.bool ((tls 1 vs).headD .nilSl).tru), (.bool ((tls 2 vs).headD .nilSl).tru)] := by kernel_rfl
  rw [← Shp.buildL_eq _ h, e]
  exact .inl ⟨by decide, ok_report_Health _ _ _ _ _ _ r hr⟩
def xr_report_Same : XR := (.seq (.ops false [⟨⟨(some 2), (.box 46 (.tmp 0)), none⟩, none⟩, ⟨⟨(some 3), (.box 46 (.tmp 1)), none⟩, none⟩, ⟨⟨(some 4), (.mv (.c (.bool false))), none⟩, none⟩]) (.seq (.ops false [⟨⟨(some 5), (.fldA 0 (.tmp 2)), none⟩, none⟩, ⟨⟨(some 6), (.ld false 1 (.tmp 5)), none⟩, (some (.int .i64))⟩, ⟨⟨(some 7), (.fldA 0 (.tmp 3)), none⟩, none⟩, ⟨⟨(some 8), (.ld false 1 (.tmp 7)), none⟩, (some (.int .i64))⟩, ⟨⟨(some 9), (.bin .eql (.tmp 6) (.tmp 8)), none⟩, none⟩, ⟨⟨(some 10), (.mv (.tmp 9)), none⟩, none⟩, ⟨⟨(some 11), (.fldA 1 (.tmp 2)), (some (10, true))⟩, none⟩, ⟨⟨(some 12), (.ld false 1 (.tmp 11)), (some (10, true))⟩, (some (.int .i64))⟩, ⟨⟨(some 13), (.fldA 1 (.tmp 3)), (some (10, true))⟩, none⟩, ⟨⟨(some 14), (.ld false 1 (.tmp 13)), (some (10, true))⟩, (some (.int .i64))⟩, ⟨⟨(some 15), (.bin .eql (.tmp 12) (.tmp 14)), (some (10, true))⟩, none⟩, ⟨⟨(some 16), (.pick (.tmp 10) (.tmp 15) (.c (.bool false))), none⟩, none⟩, ⟨⟨(some 17), (.mv (.tmp 16)), none⟩, none⟩, ⟨⟨(some 18), (.fldA 2 (.tmp 2)), (some (17, true))⟩, none⟩, ⟨⟨(some 19), (.ld false 1 (.tmp 18)), (some (17, true))⟩, (some (.isl .i64))⟩, ⟨⟨(some 20), (.fldA 2 (.tmp 3)), (some (17, true))⟩, none⟩, ⟨⟨(some 21), (.ld false 1 (.tmp 20)), (some (17, true))⟩, (some (.isl .i64))⟩, ⟨⟨(some 22), (.call (.func 56) [(.tmp 19), (.tmp 21)]), (some (17, true))⟩, none⟩, ⟨⟨(some 23), (.pick (.tmp 17) (.tmp 22) (.c (.bool false))), none⟩, none⟩, ⟨⟨(some 24), (.mv (.tmp 23)), none⟩, none⟩, ⟨⟨(some 25), (.fldA 3 (.tmp 2)), (some (24, true))⟩, none⟩, ⟨⟨(some 26), (.ld false 1 (.tmp 25)), (some (24, true))⟩, (some (.isl .i64))⟩, ⟨⟨(some 27), (.fldA 3 (.tmp 3)), (some (24, true))⟩, none⟩, ⟨⟨(some 28), (.ld false 1 (.tmp 27)), (some (24, true))⟩, (some (.isl .i64))⟩, ⟨⟨(some 29), (.call (.func 56) [(.tmp 26), (.tmp 28)]), (some (24, true))⟩, none⟩, ⟨⟨(some 30), (.pick (.tmp 24) (.tmp 29) (.c (.bool false))), none⟩, none⟩, ⟨⟨(some 4), (.mv (.tmp 30)), none⟩, none⟩]) .ret))
def rs_report_Same : List ResultVar := [(.tmp 4)]
theorem ir_report_Same : compCode Tryd.prog (Tryd.f38.body.getD .skip) [] = some (xr_report_Same.erase, []) := by kernel_rfl
def gm_report_Same : Gam := (Gam.fn 56 as_slices_Equal__int_int ga_slices_Equal__int_int em_slices_Equal__int_int Gam.bot)
theorem gk_report_Same : GamOk Tryd.prog GG gm_report_Same := (GamOk.fn at_slices_Equal__int_int GamOk.bot)
def lm_report_Same : Lam := fun _ j S kn ke => match j with
  | _ => .fail
def go_report_Same (n0 : Int) (n1 : Int) (b2 : Bool) (b3 : Bool) (l4 : List Int) (b5 : Bool) (b6 : Bool) (l7 : List Int) (n8 : Int) (n9 : Int) (b10 : Bool) (b11 : Bool) (l12 : List Int) (b13 : Bool) (b14 : Bool) (l15 : List Int) : Option Bool :=
  bif (n0 == n8) then
   bif (n1 == n9) then
    (go_slices_Equal__int_int b2 b3 l4 b10 b11 l12).bind fun r16 =>
    bif r16 then
     (go_slices_Equal__int_int b5 b6 l7 b13 b14 l15).bind fun r17 =>
     some r17
    else
     some false
   else
    some false
  else
   some false
def em_report_Same (r : Bool) : PV := (.bool r)
def rh_report_Same : Shp := .bool
def ra_report_Same (v : PV) : Bool := v.tru
def kf_report_Same (v : PV) : Tree Bool := .chk (rh_report_Same.ok v) (.leaf (ra_report_Same v))
theorem rn_report_Same (n0 : Int) (n1 : Int) (b2 : Bool) (b3 : Bool) (l4 : List Int) (b5 : Bool) (b6 : Bool) (l7 : List Int) (n8 : Int) (n9 : Int) (b10 : Bool) (b11 : Bool) (l12 : List Int) (b13 : Bool) (b14 : Bool) (l15 : List Int) : (ev GG gm_report_Same lm_report_Same xr_report_Same ⟨slots 31 0 [(0, .p (.agg [(.int .i64 n0), (.int .i64 n1), (.isl b2 b3 .i64 l4), (.isl b5 b6 .i64 l7)])), (1, .p (.agg [(.int .i64 n8), (.int .i64 n9), (.isl b10 b11 .i64 l12), (.isl b13 b14 .i64 l15)]))], []⟩ (fun S => finT Tryd.prog rs_report_Same S kf_report_Same) (retT Tryd.prog rs_report_Same kf_report_Same)).run = go_report_Same n0 n1 b2 b3 l4 b5 b6 l7 n8 n9 b10 b11 l12 b13 b14 l15 := by kernel_rfl
theorem ok_report_Same (n0 : Int) (n1 : Int) (b2 : Bool) (b3 : Bool) (l4 : List Int) (b5 : Bool) (b6 : Bool) (l7 : List Int) (n8 : Int) (n9 : Int) (b10 : Bool) (b11 : Bool) (l12 : List Int) (b13 : Bool) (b14 : Bool) (l15 : List Int) (r : Bool) (h : go_report_Same n0 n1 b2 b3 l4 b5 b6 l7 n8 n9 b10 b11 l12 b13 b14 l15 = some r) : FunEq Tryd.prog GG 38 [(.agg [(.int .i64 n0), (.int .i64 n1), (.isl b2 b3 .i64 l4), (.isl b5 b6 .i64 l7)]), (.agg [(.int .i64 n8), (.int .i64 n9), (.isl b10 b11 .i64 l12), (.isl b13 b14 .i64 l15)])] (em_report_Same r) :=
  fun_of_ev (x := xr_report_Same) (Λ := lm_report_Same) gk_report_Same [] Tryd.func38 rfl (by kernel_rfl) ir_report_Same (by kernel_rfl) (congrArg Array.toList Tryd.results38) Tryd.ntmps38 (⟨trivial, ⟨trivial, trivial⟩⟩) (leaf_of fun v => (by kernel_rfl : rh_report_Same.build v = em_report_Same (ra_report_Same v))) (by kernel_rfl) ((rn_report_Same n0 n1 b2 b3 l4 b5 b6 l7 n8 n9 b10 b11 l12 b13 b14 l15).trans h)
def as_report_Same : List Shp := [(.agg [(.int .i64), (.int .i64), (.isl .i64), (.isl .i64)]), (.agg [(.int .i64), (.int .i64), (.isl .i64), (.isl .i64)])]
def ga_report_Same (vs : List PV) : Option Bool := go_report_Same (((tls 0 vs).headD .nilSl).subs.headD .nilSl).num (((tls 0 vs).headD .nilSl).subs.tail.headD .nilSl).num (((tls 0 vs).headD .nilSl).subs.tail.tail.headD .nilSl).nl (((tls 0 vs).headD .nilSl).subs.tail.tail.headD .nilSl).ex (((tls 0 vs).headD .nilSl).subs.tail.tail.headD .nilSl).ints (((tls 0 vs).headD .nilSl).subs.tail.tail.tail.headD .nilSl).nl (((tls 0 vs).headD .nilSl).subs.tail.tail.tail.headD .nilSl).ex (((tls 0 vs).headD .nilSl).subs.tail.tail.tail.headD .nilSl).ints (((tls 1 vs).headD .nilSl).subs.headD .nilSl).num (((tls 1 vs).headD .nilSl).subs.tail.headD .nilSl).num (((tls 1 vs).headD .nilSl).subs.tail.tail.headD .nilSl).nl (((tls 1 vs).headD .nilSl).subs.tail.tail.headD .nilSl).ex (((tls 1 vs).headD .nilSl).subs.tail.tail.headD .nilSl).ints (((tls 1 vs).headD .nilSl).subs.tail.tail.tail.headD .nilSl).nl (((tls 1 vs).headD .nilSl).subs.tail.tail.tail.headD .nilSl).ex (((tls 1 vs).headD .nilSl).subs.tail.tail.tail.headD .nilSl).ints
theorem at_report_Same : FnAt Tryd.prog GG 38 as_report_Same ga_report_Same em_report_Same := fun vs h r hr => by
  have e : Shp.buildL as_report_Same vs = [(.agg [(.int .i64 (((tls 0 vs).headD .nilSl).subs.headD .nilSl).num), (.int .i64 (((tls 0 vs).headD .nilSl).subs.tail.headD .nilSl).num), (.isl (((tls 0 vs).headD .nilSl).subs.tail.tail.headD .nilSl).nl (((tls 0 vs).headD .nilSl).subs.tail.tail.headD .nilSl).ex .i64 (((tls 0 vs).headD .nilSl).subs.tail.tail.headD .nilSl).ints), (.isl (((tls 0 vs).headD .nilSl).subs.tail.tail.tail.headD .nilSl).nl (((tls 0 vs).headD .nilSl).subs.tail.tail.tail.headD .nilSl).ex .i64 (((tls 0 vs).headD .nilSl).subs.tail.tail.tail.headD .nilSl).ints)]), (.agg [(.int .i64 (((tls 1 vs).headD .nilSl).subs.headD .nilSl).num), (.int .i64 (((tls 1 vs).headD .nilSl).subs.tail.headD .nilSl).num), (.isl (((tls 1 vs).headD .nilSl).subs.tail.tail.headD .nilSl).nl (((tls 1 vs).headD .nilSl).subs.tail.tail.headD .nilSl).ex .i64 (((tls 1 vs).headD .nilSl).subs.tail.tail.headD .nilSl).ints), (.isl (((tls 1 vs).headD .nilSl).subs.tail.tail.tail.headD .nilSl).nl (((tls 1 vs).headD .nilSl).subs.tail.tail.tail.headD .nilSl).ex .i64 (((tls 1 vs).headD .nilSl).subs.tail.tail.tail.headD .nilSl).ints)])] := by kernel_rfl
  rw [← Shp.buildL_eq _ h, e]
  exact .inl ⟨by decide, ok_report_Same _ _ _ _ _ _ _ _ _ _ _ _ _ _ _ _ r hr⟩
def xr_coupletlaw18_awake : XR := (.seq (.ops false [⟨⟨(some 0), (.mv (.c (.bool false))), none⟩, none⟩]) (.seq (.ops false [⟨⟨(some 6), (.bsl 3 (some .i64) 1 [(.c (.int .i64 (1)))]), none⟩, none⟩, ⟨⟨(some 7), (.bsl 3 (some .i64) 1 [(.c (.int .i64 (2)))]), none⟩, none⟩, ⟨⟨(some 8), (.build [(.int .i64 (0)), (.int .i64 (0)), (.isl true true .i64 []), (.isl true true .i64 [])] [(0, (1, (.c (.int .i64 (33))))), (1, (1, (.c (.int .i64 (5))))), (2, (1, (.tmp 6))), (3, (1, (.tmp 7)))]), none⟩, none⟩, ⟨⟨(some 1), (.alloc 46 [(.int .i64 (0)), (.int .i64 (0)), (.isl true true .i64 []), (.isl true true .i64 [])]), none⟩, none⟩, ⟨⟨none, (.st 4 (.tmp 1) (.tmp 8)), none⟩, none⟩]) (.seq (.ops false [⟨⟨(some 10), (.ld true 4 (.tmp 1)), none⟩, (some (.agg [(.int .i64), (.int .i64), (.isl .i64), (.isl .i64)]))⟩, ⟨⟨(some 11), (.callN 32 5 [(.tmp 10)]), none⟩, none⟩, ⟨⟨(some 9), (.mv (.tmp 11)), none⟩, none⟩, ⟨⟨(some 12), (.ext (.tmp 9) 0), none⟩, none⟩, ⟨⟨(some 13), (.ext (.tmp 9) 1), none⟩, none⟩, ⟨⟨(some 2), (.mv (.tmp 12)), none⟩, none⟩, ⟨⟨(some 3), (.mv (.tmp 13)), none⟩, none⟩]) (.seq (.ops false [⟨⟨(some 15), (.mv (.tmp 2)), none⟩, none⟩, ⟨⟨(some 16), (.call (.func 36) [(.tmp 15)]), none⟩, none⟩, ⟨⟨(some 14), (.mv (.tmp 16)), none⟩, none⟩, ⟨⟨(some 17), (.ext (.tmp 14) 0), none⟩, none⟩, ⟨⟨(some 18), (.ext (.tmp 14) 1), none⟩, none⟩, ⟨⟨(some 4), (.alloc 46 [(.int .i64 (0)), (.int .i64 (0)), (.isl true true .i64 []), (.isl true true .i64 [])]), none⟩, none⟩, ⟨⟨none, (.st 4 (.tmp 4) (.tmp 17)), none⟩, none⟩, ⟨⟨(some 5), (.mv (.tmp 18)), none⟩, none⟩]) (.seq (.ops false [⟨⟨(some 19), (.build [(.int .i64 (0)), (.int .i64 (0)), (.int .i64 (0)), (.int .i64 (0))] [(0, (1, (.c (.int .i64 (1)))))]), none⟩, none⟩, ⟨⟨(some 20), (.call (.func 57) [(.tmp 19), (.c (.bool false)), (.c (.bool false))]), none⟩, none⟩, ⟨⟨(some 21), (.bin .eql (.tmp 20) (.c (.int .i64 (33)))), none⟩, none⟩, ⟨⟨(some 22), (.mv (.tmp 21)), none⟩, none⟩, ⟨⟨(some 23), (.mv (.tmp 3)), (some (22, true))⟩, none⟩, ⟨⟨(some 24), (.bin .eql (.tmp 23) (.c (.int .i64 (0)))), (some (22, true))⟩, none⟩, ⟨⟨(some 25), (.pick (.tmp 22) (.tmp 24) (.c (.bool false))), none⟩, none⟩, ⟨⟨(some 26), (.mv (.tmp 25)), none⟩, none⟩, ⟨⟨(some 27), (.mv (.tmp 5)), (some (26, true))⟩, none⟩, ⟨⟨(some 28), (.bin .eql (.tmp 27) (.c (.int .i64 (0)))), (some (26, true))⟩, none⟩, ⟨⟨(some 29), (.pick (.tmp 26) (.tmp 28) (.c (.bool false))), none⟩, none⟩, ⟨⟨(some 30), (.mv (.tmp 29)), none⟩, none⟩, ⟨⟨(some 31), (.ld true 4 (.tmp 4)), (some (30, true))⟩, (some (.agg [(.int .i64), (.int .i64), (.isl .i64), (.isl .i64)]))⟩, ⟨⟨(some 32), (.ld true 4 (.tmp 1)), (some (30, true))⟩, (some (.agg [(.int .i64), (.int .i64), (.isl .i64), (.isl .i64)]))⟩, ⟨⟨(some 33), (.call (.func 38) [(.tmp 31), (.tmp 32)]), (some (30, true))⟩, none⟩, ⟨⟨(some 34), (.pick (.tmp 30) (.tmp 33) (.c (.bool false))), none⟩, none⟩, ⟨⟨(some 35), (.mv (.tmp 34)), none⟩, none⟩, ⟨⟨(some 36), (.ld true 4 (.tmp 1)), (some (35, true))⟩, (some (.agg [(.int .i64), (.int .i64), (.isl .i64), (.isl .i64)]))⟩, ⟨⟨(some 37), (.call (.func 35) [(.tmp 36)]), (some (35, true))⟩, none⟩, ⟨⟨(some 38), (.pick (.tmp 35) (.tmp 37) (.c (.bool false))), none⟩, none⟩, ⟨⟨(some 39), (.mv (.tmp 38)), none⟩, none⟩, ⟨⟨(some 40), (.mv (.tmp 2)), (some (39, true))⟩, none⟩, ⟨⟨(some 41), (.len (.tmp 40)), (some (39, true))⟩, none⟩, ⟨⟨(some 42), (.bin .eql (.tmp 41) (.c (.int .i64 (28)))), (some (39, true))⟩, none⟩, ⟨⟨(some 43), (.pick (.tmp 39) (.tmp 42) (.c (.bool false))), none⟩, none⟩, ⟨⟨(some 0), (.mv (.tmp 43)), none⟩, none⟩]) .ret)))))
def rs_coupletlaw18_awake : List ResultVar := [(.tmp 0)]
theorem ir_coupletlaw18_awake : compCode Tryd.prog (Tryd.f31.body.getD .skip) [] = some (xr_coupletlaw18_awake.erase, []) := by kernel_rfl
def gm_coupletlaw18_awake : Gam := (Gam.fn 2000032 as_new_report_Encode ga_new_report_Encode em_new_report_Encode (Gam.fn 36 as_report_Decode ga_report_Decode em_report_Decode (Gam.fn 57 as_report_Health ga_report_Health em_report_Health (Gam.fn 38 as_report_Same ga_report_Same em_report_Same (Gam.fn 35 as_report_Right ga_report_Right em_report_Right Gam.bot)))))
theorem gk_coupletlaw18_awake : GamOk Tryd.prog GG gm_coupletlaw18_awake := (GamOk.fn at_new_report_Encode (GamOk.fn at_report_Decode (GamOk.fn at_report_Health (GamOk.fn at_report_Same (GamOk.fn at_report_Right GamOk.bot)))))
def lm_coupletlaw18_awake : Lam := fun _ j S kn ke => match j with
  | _ => .fail
def go_coupletlaw18_awake : Option Bool :=
  (go_new_report_Encode 33 5 false true [1] false true [2]).bind fun r0 =>
  (go_report_Decode r0.1 false r0.2.2.1).bind fun r1 =>
  (go_report_Health 1 0 0 0 false false).bind fun r2 =>
  bif (r2 == 33) then
   bif (r0.2.2.2 == 0) then
    bif (r1.2.2.2.2.2.2.2.2 == 0) then
     (go_report_Same r1.1 r1.2.1 r1.2.2.1 r1.2.2.2.1 r1.2.2.2.2.1 r1.2.2.2.2.2.1 r1.2.2.2.2.2.2.1 r1.2.2.2.2.2.2.2.1 33 5 false true [1] false true [2]).bind fun r3 =>
     bif r3 then
      (go_report_Right 33 5 false true [1] false true [2]).bind fun r4 =>
      bif r4 then
       some ((((List.length r0.2.2.1) : Nat) : Int) == 28)
      else
       some false
     else
      some false
    else
     some false
   else
    some false
  else
   some false
def em_coupletlaw18_awake (r : Bool) : PV := (.bool r)
def rh_coupletlaw18_awake : Shp := .bool
def ra_coupletlaw18_awake (v : PV) : Bool := v.tru
def kf_coupletlaw18_awake (v : PV) : Tree Bool := .chk (rh_coupletlaw18_awake.ok v) (.leaf (ra_coupletlaw18_awake v))
theorem rn_coupletlaw18_awake : (ev GG gm_coupletlaw18_awake lm_coupletlaw18_awake xr_coupletlaw18_awake ⟨slots 44 0 [], []⟩ (fun S => finT Tryd.prog rs_coupletlaw18_awake S kf_coupletlaw18_awake) (retT Tryd.prog rs_coupletlaw18_awake kf_coupletlaw18_awake)).run = go_coupletlaw18_awake := by kernel_rfl
theorem ok_coupletlaw18_awake (r : Bool) (h : go_coupletlaw18_awake = some r) : FunEq Tryd.prog GG 31 [] (em_coupletlaw18_awake r) :=
  fun_of_ev (x := xr_coupletlaw18_awake) (Λ := lm_coupletlaw18_awake) gk_coupletlaw18_awake [] Tryd.func31 rfl (by kernel_rfl) ir_coupletlaw18_awake (by kernel_rfl) (congrArg Array.toList Tryd.results31) Tryd.ntmps31 (⟨trivial, ⟨trivial, ⟨trivial, ⟨trivial, ⟨trivial, trivial⟩⟩⟩⟩⟩) (leaf_of fun v => (by kernel_rfl : rh_coupletlaw18_awake.build v = em_coupletlaw18_awake (ra_coupletlaw18_awake v))) (by kernel_rfl) ((rn_coupletlaw18_awake).trans h)
def as_coupletlaw18_awake : List Shp := []
def ga_coupletlaw18_awake (vs : List PV) : Option Bool := go_coupletlaw18_awake
theorem at_coupletlaw18_awake : FnAt Tryd.prog GG 31 as_coupletlaw18_awake ga_coupletlaw18_awake em_coupletlaw18_awake := fun vs h r hr => by
  have e : Shp.buildL as_coupletlaw18_awake vs = [] := by kernel_rfl
  rw [← Shp.buildL_eq _ h, e]
  exact .inl ⟨by decide, ok_coupletlaw18_awake  r hr⟩
end Go.Proofs
end
