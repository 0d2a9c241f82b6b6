import Derived.Test.YtajphaljpkeecaaDoorWSPa
import Derived.Test.YtajphaljpkeecaaDoorWGC0
import Derived.Test.YtajphaljpkeecaaDoorFxFin
import Derived.Test.YtajphaljpkeecaaDoorChecked
set_option linter.unusedVariables false
set_option maxRecDepth 100000
noncomputable section
namespace Go.Proofs
open Go Go.Fx

def xb_slices_Concat__int_int_0 : XR := (.seq (.ops false [⟨⟨(some 12), (.bin .lss (.tmp 11) (.tmp 10)), none⟩, none⟩]) (.seq (.cond (.tmp 12) .skip (.exit 0)) (.seq (.block 1 (.seq (.ops false [⟨⟨(some 13), (.ixA 1 (.tmp 9) (.tmp 11)), none⟩, none⟩, ⟨⟨(some 14), (.ld false 1 (.tmp 13)), none⟩, (some (.isl .i64))⟩, ⟨⟨(some 5), (.mv (.tmp 14)), none⟩, none⟩]) (.seq (.ops false [⟨⟨(some 15), (.mv (.tmp 3)), none⟩, none⟩, ⟨⟨(some 16), (.mv (.tmp 5)), none⟩, none⟩, ⟨⟨(some 17), (.len (.tmp 16)), none⟩, none⟩, ⟨⟨(some 18), (.bin .add (.tmp 15) (.tmp 17)), none⟩, none⟩, ⟨⟨(some 3), (.mv (.tmp 18)), none⟩, none⟩]) (.seq (.ops false [⟨⟨(some 19), (.mv (.tmp 3)), none⟩, none⟩, ⟨⟨(some 20), (.bin .lss (.tmp 19) (.c (.int .i64 (0)))), none⟩, none⟩]) (.cond (.tmp 20) (.ops false [⟨⟨(some 21), .bad, none⟩, none⟩, ⟨⟨none, .bad, none⟩, none⟩]) .skip))))) (.ops false [⟨⟨(some 22), (.bin .add (.tmp 11) (.c (.int .i64 (1)))), none⟩, none⟩, ⟨⟨(some 11), (.mv (.tmp 22)), none⟩, none⟩]))))
def xb_slices_Concat__int_int_1 : XR := (.seq (.ops false [⟨⟨(some 28), (.bin .lss (.tmp 27) (.tmp 26)), none⟩, none⟩]) (.seq (.cond (.tmp 28) .skip (.exit 2)) (.seq (.block 3 (.seq (.ops false [⟨⟨(some 29), (.ixA 1 (.tmp 25) (.tmp 27)), none⟩, none⟩, ⟨⟨(some 30), (.ld false 1 (.tmp 29)), none⟩, (some (.isl .i64))⟩, ⟨⟨(some 8), (.mv (.tmp 30)), none⟩, none⟩]) (.ops false [⟨⟨(some 31), (.mv (.tmp 6)), none⟩, none⟩, ⟨⟨(some 32), (.mv (.tmp 8)), none⟩, none⟩, ⟨⟨(some 33), (.app 3 (some .i64) 1 8 (.tmp 31) (.tmp 32)), none⟩, none⟩, ⟨⟨(some 6), (.mv (.tmp 33)), none⟩, none⟩]))) (.ops false [⟨⟨(some 34), (.bin .add (.tmp 27) (.c (.int .i64 (1)))), none⟩, none⟩, ⟨⟨(some 27), (.mv (.tmp 34)), none⟩, none⟩]))))
def xr_slices_Concat__int_int : XR := (.seq (.ops false [⟨⟨(some 2), (.mv (.c (.isl true true .i64 []))), none⟩, none⟩]) (.seq (.ops false [⟨⟨(some 3), (.mv (.c (.int .i64 (0)))), none⟩, none⟩]) (.seq (.seq (.ops false [⟨⟨(some 9), (.mv (.tmp 0)), none⟩, none⟩, ⟨⟨(some 10), (.len (.tmp 9)), none⟩, none⟩, ⟨⟨(some 11), (.mv (.c (.int .i64 (0)))), none⟩, none⟩]) (.block 0 (.loop 0 [0, 3, 9, 10, 11] xb_slices_Concat__int_int_0))) (.seq (.ops false [⟨⟨(some 23), (.mv (.tmp 3)), none⟩, none⟩, ⟨⟨(some 24), (.callR 70 3 (.c (.isl true true .i64 [])) [(.tmp 23)]), none⟩, none⟩, ⟨⟨(some 6), (.mv (.tmp 24)), none⟩, none⟩]) (.seq (.seq (.ops false [⟨⟨(some 25), (.mv (.tmp 0)), none⟩, none⟩, ⟨⟨(some 26), (.len (.tmp 25)), none⟩, none⟩, ⟨⟨(some 27), (.mv (.c (.int .i64 (0)))), none⟩, none⟩]) (.block 2 (.loop 1 [6, 25, 26, 27] xb_slices_Concat__int_int_1))) (.seq (.ops false [⟨⟨(some 35), (.mv (.tmp 6)), none⟩, none⟩, ⟨⟨(some 2), (.mv (.tmp 35)), none⟩, none⟩]) .ret))))))
def rs_slices_Concat__int_int : List ResultVar := [(.tmp 2)]
theorem ir_slices_Concat__int_int : compCode Tryd.prog (Tryd.f59.body.getD .skip) [[0, 3, 9, 10, 11], [6, 25, 26, 27]] = some (xr_slices_Concat__int_int.erase, []) := by kernel_rfl
/-! slices_Concat__int_int -/
def gm_slices_Concat__int_int : Gam := (Gam.fn 1000070 as_slices_Grow ga_slices_Grow em_slices_Grow Gam.bot)
theorem gk_slices_Concat__int_int : GamOk Tryd.prog GG gm_slices_Concat__int_int := (GamOk.fn at_slices_Grow GamOk.bot)
def st_slices_Concat__int_int_1 (b14 : Bool) (b15 : Bool) (es16 : List PV) (n17 : Int) (n18 : Int) (b19 : Bool) (b20 : Bool) (l21 : List Int) : Option (((Bool × Bool × List PV × Int × Int × Bool × Bool × List Int)) ⊕ (((Bool × Bool × List Int)))) :=
  bif (decide (n18 < n17)) then
   bif (decide (0 ≤ n18)) then
    bif (decide (n18 < (((List.length es16) : Nat) : Int))) then
     bif (decide ((Int.toNat n18) < (List.length es16))) then
      bif (PV.scal (List.getD es16 (Int.toNat n18) .nilSl)) then
       bif (Shp.ok (.isl .i64) (List.getD es16 (Int.toNat n18) .nilSl)) then
        bif (decide ((((List.length l21) + (List.length (PV.ints (List.getD es16 (Int.toNat n18) .nilSl)))) * 8) ≤ 140737488355328)) then
         bif (decide (((List.length l21) + (List.length (PV.ints (List.getD es16 (Int.toNat n18) .nilSl)))) ≤ 4611686018427387904)) then
          some (Sum.inl (b14, b15, es16, n17, (IntKind.wrap .i64 (n18 + 1)), (b19 && (List.isEmpty (PV.ints (List.getD es16 (Int.toNat n18) .nilSl)))), false, (l21 ++ (PV.ints (List.getD es16 (Int.toNat n18) .nilSl)))))
         else none
        else none
       else none
      else none
     else none
    else none
   else none
  else
   some (Sum.inr (b19, b20, l21))
def lp_slices_Concat__int_int_1 (b14 : Bool) (b15 : Bool) (es16 : List PV) (n17 : Int) (n18 : Int) (b19 : Bool) (b20 : Bool) (l21 : List Int) : Option (((Bool × Bool × List Int))) := loopN (X := (Bool × Bool × List PV × Int × Int × Bool × Bool × List Int)) (fun x => st_slices_Concat__int_int_1 x.1 x.2.1 x.2.2.1 x.2.2.2.1 x.2.2.2.2.1 x.2.2.2.2.2.1 x.2.2.2.2.2.2.1 x.2.2.2.2.2.2.2) (b14, b15, es16, n17, n18, b19, b20, l21)
def sh_slices_Concat__int_int_1 : StSh := ⟨36, [(6, (.row 0)), (25, (.p (.sl 1))), (26, (.p (.int .i64))), (27, (.p (.int .i64)))], [(.irow 3 .i64)]⟩
def sx_slices_Concat__int_int_1 (x : (Bool × Bool × List PV × Int × Int × Bool × Bool × List Int)) : St := ⟨slots 36 0 [(6, (.row 0)), (25, (.p (.sl x.1 x.2.1 1 x.2.2.1))), (26, (.p (.int .i64 x.2.2.2.1))), (27, (.p (.int .i64 x.2.2.2.2.1)))], [(.irow 3 .i64 x.2.2.2.2.2.1 x.2.2.2.2.2.2.1 x.2.2.2.2.2.2.2)]⟩
def sa_slices_Concat__int_int_1 (S : St) : (Bool × Bool × List PV × Int × Int × Bool × Bool × List Int) := (((tls 25 S.t).headD .any).pv.nl, ((tls 25 S.t).headD .any).pv.ex, ((tls 25 S.t).headD .any).pv.elts, ((tls 26 S.t).headD .any).pv.num, ((tls 27 S.t).headD .any).pv.num, ((tls 0 S.own).headD .gone).pvD.nl, ((tls 0 S.own).headD .gone).pvD.ex, ((tls 0 S.own).headD .gone).pvD.ints)
def tz_slices_Concat__int_int_1_0 : StSh := ⟨36, [(6, (.row 0))], [(.irow 3 .i64)]⟩
def tx_slices_Concat__int_int_1_0 (x : (Bool × Bool × List Int)) : St := ⟨slots 36 0 [(6, (.row 0))], [(.irow 3 .i64 x.1 x.2.1 x.2.2)]⟩
def ta_slices_Concat__int_int_1_0 (S : St) : (Bool × Bool × List Int) := (((tls 0 S.own).headD .gone).pvD.nl, ((tls 0 S.own).headD .gone).pvD.ex, ((tls 0 S.own).headD .gone).pvD.ints)
def kb_slices_Concat__int_int_1 : Exit → St → Tree (((Bool × Bool × List PV × Int × Int × Bool × Bool × List Int)) ⊕ (((Bool × Bool × List Int)))) := (exOne (.exit 2) [6] tz_slices_Concat__int_int_1_0 ta_slices_Concat__int_int_1_0 (fun y => Sum.inr (y)) exNil)
def ky_slices_Concat__int_int_1 : Dec (((Bool × Bool × List Int))) := fun _ y ke => ke ((.exit 2) : EK).ex (tx_slices_Concat__int_int_1_0 y)
theorem kk_slices_Concat__int_int_1 : ExOk Sum.inr kb_slices_Concat__int_int_1 ky_slices_Concat__int_int_1 := (ExOk.one (acc := ta_slices_Concat__int_int_1_0) (bY := tx_slices_Concat__int_int_1_0) (inj1 := fun y => y) (fun S => by kernel_rfl) (fun y _ ke => .inr (by kernel_rfl)) ExOk.nil)
def st_slices_Concat__int_int_0 (b3 : Bool) (b4 : Bool) (es5 : List PV) (n6 : Int) (b7 : Bool) (b8 : Bool) (es9 : List PV) (n10 : Int) (n11 : Int) : Option (((Bool × Bool × List PV × Int × Bool × Bool × List PV × Int × Int)) ⊕ (((Bool × Bool × List PV × Int)))) :=
  bif (decide (n11 < n10)) then
   bif (decide (0 ≤ n11)) then
    bif (decide (n11 < (((List.length es9) : Nat) : Int))) then
     bif (decide ((Int.toNat n11) < (List.length es9))) then
      bif (PV.scal (List.getD es9 (Int.toNat n11) .nilSl)) then
       bif (Shp.ok (.isl .i64) (List.getD es9 (Int.toNat n11) .nilSl)) then
        bif (decide ((IntKind.wrap .i64 (n6 + (((List.length (PV.ints (List.getD es9 (Int.toNat n11) .nilSl))) : Nat) : Int))) < 0)) then
         none
        else
         some (Sum.inl (b3, b4, es5, (IntKind.wrap .i64 (n6 + (((List.length (PV.ints (List.getD es9 (Int.toNat n11) .nilSl))) : Nat) : Int))), b7, b8, es9, n10, (IntKind.wrap .i64 (n11 + 1))))
       else none
      else none
     else none
    else none
   else none
  else
   some (Sum.inr (b3, b4, es5, n6))
def lp_slices_Concat__int_int_0 (b3 : Bool) (b4 : Bool) (es5 : List PV) (n6 : Int) (b7 : Bool) (b8 : Bool) (es9 : List PV) (n10 : Int) (n11 : Int) : Option (((Bool × Bool × List PV × Int))) := loopN (X := (Bool × Bool × List PV × Int × Bool × Bool × List PV × Int × Int)) (fun x => st_slices_Concat__int_int_0 x.1 x.2.1 x.2.2.1 x.2.2.2.1 x.2.2.2.2.1 x.2.2.2.2.2.1 x.2.2.2.2.2.2.1 x.2.2.2.2.2.2.2.1 x.2.2.2.2.2.2.2.2) (b3, b4, es5, n6, b7, b8, es9, n10, n11)
def sh_slices_Concat__int_int_0 : StSh := ⟨36, [(0, (.p (.sl 1))), (3, (.p (.int .i64))), (9, (.p (.sl 1))), (10, (.p (.int .i64))), (11, (.p (.int .i64)))], []⟩
def sx_slices_Concat__int_int_0 (x : (Bool × Bool × List PV × Int × Bool × Bool × List PV × Int × Int)) : St := ⟨slots 36 0 [(0, (.p (.sl x.1 x.2.1 1 x.2.2.1))), (3, (.p (.int .i64 x.2.2.2.1))), (9, (.p (.sl x.2.2.2.2.1 x.2.2.2.2.2.1 1 x.2.2.2.2.2.2.1))), (10, (.p (.int .i64 x.2.2.2.2.2.2.2.1))), (11, (.p (.int .i64 x.2.2.2.2.2.2.2.2)))], []⟩
def sa_slices_Concat__int_int_0 (S : St) : (Bool × Bool × List PV × Int × Bool × Bool × List PV × Int × Int) := (((tls 0 S.t).headD .any).pv.nl, ((tls 0 S.t).headD .any).pv.ex, ((tls 0 S.t).headD .any).pv.elts, ((tls 3 S.t).headD .any).pv.num, ((tls 9 S.t).headD .any).pv.nl, ((tls 9 S.t).headD .any).pv.ex, ((tls 9 S.t).headD .any).pv.elts, ((tls 10 S.t).headD .any).pv.num, ((tls 11 S.t).headD .any).pv.num)
def tz_slices_Concat__int_int_0_0 : StSh := ⟨36, [(0, (.p (.sl 1))), (3, (.p (.int .i64)))], []⟩
def tx_slices_Concat__int_int_0_0 (x : (Bool × Bool × List PV × Int)) : St := ⟨slots 36 0 [(0, (.p (.sl x.1 x.2.1 1 x.2.2.1))), (3, (.p (.int .i64 x.2.2.2)))], []⟩
def ta_slices_Concat__int_int_0_0 (S : St) : (Bool × Bool × List PV × Int) := (((tls 0 S.t).headD .any).pv.nl, ((tls 0 S.t).headD .any).pv.ex, ((tls 0 S.t).headD .any).pv.elts, ((tls 3 S.t).headD .any).pv.num)
def kb_slices_Concat__int_int_0 : Exit → St → Tree (((Bool × Bool × List PV × Int × Bool × Bool × List PV × Int × Int)) ⊕ (((Bool × Bool × List PV × Int)))) := (exOne (.exit 0) [0, 3] tz_slices_Concat__int_int_0_0 ta_slices_Concat__int_int_0_0 (fun y => Sum.inr (y)) exNil)
def ky_slices_Concat__int_int_0 : Dec (((Bool × Bool × List PV × Int))) := fun _ y ke => ke ((.exit 0) : EK).ex (tx_slices_Concat__int_int_0_0 y)
theorem kk_slices_Concat__int_int_0 : ExOk Sum.inr kb_slices_Concat__int_int_0 ky_slices_Concat__int_int_0 := (ExOk.one (acc := ta_slices_Concat__int_int_0_0) (bY := tx_slices_Concat__int_int_0_0) (inj1 := fun y => y) (fun S => by kernel_rfl) (fun y _ ke => .inr (by kernel_rfl)) ExOk.nil)
def lm_slices_Concat__int_int : Lam := fun _ j S kn ke => match j with
  | 0 => prepT [0, 3, 9, 10, 11] [] S fun S => .chk (sh_slices_Concat__int_int_0.ok S) (.bind (loopN (fun x => st_slices_Concat__int_int_0 x.1 x.2.1 x.2.2.1 x.2.2.2.1 x.2.2.2.2.1 x.2.2.2.2.2.1 x.2.2.2.2.2.2.1 x.2.2.2.2.2.2.2.1 x.2.2.2.2.2.2.2.2) (sa_slices_Concat__int_int_0 S)) fun y => ky_slices_Concat__int_int_0 _ y ke)
  | 1 => prepT [6, 25, 26, 27] [] S fun S => .chk (sh_slices_Concat__int_int_1.ok S) (.bind (loopN (fun x => st_slices_Concat__int_int_1 x.1 x.2.1 x.2.2.1 x.2.2.2.1 x.2.2.2.2.1 x.2.2.2.2.2.1 x.2.2.2.2.2.2.1 x.2.2.2.2.2.2.2) (sa_slices_Concat__int_int_1 S)) fun y => ky_slices_Concat__int_int_1 _ y ke)
  | _ => .fail
theorem sr_slices_Concat__int_int_1 (x : (Bool × Bool × List PV × Int × Int × Bool × Bool × List Int)) : (ev GG gm_slices_Concat__int_int lm_slices_Concat__int_int xb_slices_Concat__int_int_1 (sx_slices_Concat__int_int_1 x) (fun S => forgetT [6, 25, 26, 27] S fun S => prepT [6, 25, 26, 27] [] S fun S => .chk (sh_slices_Concat__int_int_1.ok S) (.leaf (.inl (sa_slices_Concat__int_int_1 S)))) kb_slices_Concat__int_int_1).run = st_slices_Concat__int_int_1 x.1 x.2.1 x.2.2.1 x.2.2.2.1 x.2.2.2.2.1 x.2.2.2.2.2.1 x.2.2.2.2.2.2.1 x.2.2.2.2.2.2.2 := by kernel_rfl
theorem la_slices_Concat__int_int_1 : LamAt Tryd.prog GG lm_slices_Concat__int_int 1 (.loop [6, 25, 26, 27] xb_slices_Concat__int_int_1.erase) := lam_loop (body := xb_slices_Concat__int_int_1) (Λ' := lm_slices_Concat__int_int) gk_slices_Concat__int_int (⟨trivial, ⟨⟨trivial, trivial⟩, ⟨⟨trivial, trivial⟩, trivial⟩⟩⟩) (fun S => (by kernel_rfl : sh_slices_Concat__int_int_1.build S = sx_slices_Concat__int_int_1 (sa_slices_Concat__int_int_1 S))) kk_slices_Concat__int_int_1 sr_slices_Concat__int_int_1 (fun _ _ _ => rfl)
theorem sr_slices_Concat__int_int_0 (x : (Bool × Bool × List PV × Int × Bool × Bool × List PV × Int × Int)) : (ev GG gm_slices_Concat__int_int lm_slices_Concat__int_int xb_slices_Concat__int_int_0 (sx_slices_Concat__int_int_0 x) (fun S => forgetT [0, 3, 9, 10, 11] S fun S => prepT [0, 3, 9, 10, 11] [] S fun S => .chk (sh_slices_Concat__int_int_0.ok S) (.leaf (.inl (sa_slices_Concat__int_int_0 S)))) kb_slices_Concat__int_int_0).run = st_slices_Concat__int_int_0 x.1 x.2.1 x.2.2.1 x.2.2.2.1 x.2.2.2.2.1 x.2.2.2.2.2.1 x.2.2.2.2.2.2.1 x.2.2.2.2.2.2.2.1 x.2.2.2.2.2.2.2.2 := by kernel_rfl
theorem la_slices_Concat__int_int_0 : LamAt Tryd.prog GG lm_slices_Concat__int_int 0 (.loop [0, 3, 9, 10, 11] xb_slices_Concat__int_int_0.erase) := lam_loop (body := xb_slices_Concat__int_int_0) (Λ' := lm_slices_Concat__int_int) gk_slices_Concat__int_int (⟨trivial, ⟨⟨trivial, trivial⟩, ⟨⟨trivial, ⟨trivial, ⟨trivial, ⟨trivial, trivial⟩⟩⟩⟩, trivial⟩⟩⟩) (fun S => (by kernel_rfl : sh_slices_Concat__int_int_0.build S = sx_slices_Concat__int_int_0 (sa_slices_Concat__int_int_0 S))) kk_slices_Concat__int_int_0 sr_slices_Concat__int_int_0 (fun _ _ _ => rfl)
/-- slices_Concat__int_int -/
def go_slices_Concat__int_int (b0 : Bool) (b1 : Bool) (es2 : List PV) : Option (Bool × Bool × List Int) :=
  (lp_slices_Concat__int_int_0 b0 b1 es2 0 b0 b1 es2 (((List.length es2) : Nat) : Int) 0).bind fun y12 =>
  (go_slices_Grow true true [] y12.2.2.2).bind fun r13 =>
  (lp_slices_Concat__int_int_1 y12.1 y12.2.1 y12.2.2.1 (((List.length y12.2.2.1) : Nat) : Int) 0 r13.1 false r13.2.2).bind fun y22 =>
  some (y22.1, y22.2.1, y22.2.2)
def em_slices_Concat__int_int (r : (Bool × Bool × List Int)) : PV := (.isl r.1 r.2.1 .i64 r.2.2)
def rh_slices_Concat__int_int : Shp := (.isl .i64)
def ra_slices_Concat__int_int (v : PV) : (Bool × Bool × List Int) := (v.nl, v.ex, v.ints)
def kf_slices_Concat__int_int (v : PV) : Tree (Bool × Bool × List Int) := .chk (rh_slices_Concat__int_int.ok v) (.leaf (ra_slices_Concat__int_int v))
theorem rn_slices_Concat__int_int (b0 : Bool) (b1 : Bool) (es2 : List PV) : (ev GG gm_slices_Concat__int_int lm_slices_Concat__int_int xr_slices_Concat__int_int ⟨slots 36 0 [(0, .p (.sl b0 b1 1 es2))], []⟩ (fun S => finT Tryd.prog rs_slices_Concat__int_int S kf_slices_Concat__int_int) (retT Tryd.prog rs_slices_Concat__int_int kf_slices_Concat__int_int)).run = go_slices_Concat__int_int b0 b1 es2 := by kernel_rfl
theorem ok_slices_Concat__int_int (b0 : Bool) (b1 : Bool) (es2 : List PV) (r : (Bool × Bool × List Int)) (h : go_slices_Concat__int_int b0 b1 es2 = some r) : FunEq Tryd.prog GG 59 [(.sl b0 b1 1 es2)] (em_slices_Concat__int_int r) :=
  fun_of_ev (x := xr_slices_Concat__int_int) (Λ := lm_slices_Concat__int_int) gk_slices_Concat__int_int [[0, 3, 9, 10, 11], [6, 25, 26, 27]] Tryd.func59 rfl (by kernel_rfl) ir_slices_Concat__int_int (by kernel_rfl) (congrArg Array.toList Tryd.results59) Tryd.ntmps59 (⟨trivial, ⟨trivial, ⟨⟨trivial, la_slices_Concat__int_int_0⟩, ⟨trivial, ⟨⟨trivial, la_slices_Concat__int_int_1⟩, ⟨trivial, trivial⟩⟩⟩⟩⟩⟩) (leaf_of fun v => (by kernel_rfl : rh_slices_Concat__int_int.build v = em_slices_Concat__int_int (ra_slices_Concat__int_int v))) (by kernel_rfl) ((rn_slices_Concat__int_int b0 b1 es2).trans h)
def as_slices_Concat__int_int : List Shp := [(.sl 1)]
def ga_slices_Concat__int_int (vs : List PV) : Option (Bool × Bool × List Int) := go_slices_Concat__int_int ((tls 0 vs).headD .nilSl).nl ((tls 0 vs).headD .nilSl).ex ((tls 0 vs).headD .nilSl).elts
theorem at_slices_Concat__int_int : FnAt Tryd.prog GG 59 as_slices_Concat__int_int ga_slices_Concat__int_int em_slices_Concat__int_int := fun vs h r hr => by
  have e : Shp.buildL as_slices_Concat__int_int vs = [(.sl ((tls 0 vs).headD .nilSl).nl ((tls 0 vs).headD .nilSl).ex 1 ((tls 0 vs).headD .nilSl).elts)] := by kernel_rfl
  rw [← Shp.buildL_eq _ h, e]
  exact .inl ⟨by decide, ok_slices_Concat__int_int _ _ _ r hr⟩

def xr_report_Right_1 : XR := (.seq (.ops false [⟨⟨(some 2), (.mv (.c (.bool false))), none⟩, none⟩]) (.seq (.ops false [⟨⟨(some 3), (.mv (.tmp 0)), none⟩, none⟩, ⟨⟨(some 4), (.bin .gtr (.tmp 3) (.c (.int .i64 (1125899906842624)))), none⟩, none⟩, ⟨⟨(some 5), (.mv (.tmp 4)), none⟩, none⟩, ⟨⟨(some 6), (.mv (.tmp 0)), (some (5, false))⟩, none⟩, ⟨⟨(some 7), (.bin .lss (.tmp 6) (.c (.int .i64 (-1125899906842624)))), (some (5, false))⟩, none⟩, ⟨⟨(some 8), (.pick (.tmp 5) (.c (.bool true)) (.tmp 7)), none⟩, none⟩, ⟨⟨(some 2), (.mv (.tmp 8)), none⟩, none⟩]) .ret))
def rs_report_Right_1 : List ResultVar := [(.tmp 2)]
theorem ir_report_Right_1 : compCode Tryd.prog (Tryd.f60.body.getD .skip) [] = some (xr_report_Right_1.erase, []) := by kernel_rfl
/-! report_Right_1 -/
def gm_report_Right_1 : Gam := Gam.bot
theorem gk_report_Right_1 : GamOk Tryd.prog GG gm_report_Right_1 := GamOk.bot
def lm_report_Right_1 : Lam := fun _ j S kn ke => match j with
  | _ => .fail
/-- report_Right_1 -/
def go_report_Right_1 (n0 : Int) : Option Bool :=
  bif (decide (n0 > 1125899906842624)) then
   some true
  else
   some (decide (n0 < (-1125899906842624)))
def em_report_Right_1 (r : Bool) : PV := (.bool r)
def rh_report_Right_1 : Shp := .bool
def ra_report_Right_1 (v : PV) : Bool := v.tru
def kf_report_Right_1 (v : PV) : Tree Bool := .chk (rh_report_Right_1.ok v) (.leaf (ra_report_Right_1 v))
theorem rn_report_Right_1 (n0 : Int) : (ev GG gm_report_Right_1 lm_report_Right_1 xr_report_Right_1 ⟨slots 9 0 [(0, .p (.int .i64 n0))], []⟩ (fun S => finT Tryd.prog rs_report_Right_1 S kf_report_Right_1) (retT Tryd.prog rs_report_Right_1 kf_report_Right_1)).run = go_report_Right_1 n0 := by kernel_rfl
theorem ok_report_Right_1 (n0 : Int) (r : Bool) (h : go_report_Right_1 n0 = some r) : FunEq Tryd.prog GG 60 [(.int .i64 n0)] (em_report_Right_1 r) :=
  fun_of_ev (x := xr_report_Right_1) (Λ := lm_report_Right_1) gk_report_Right_1 [] Tryd.func60 rfl (by kernel_rfl) ir_report_Right_1 (by kernel_rfl) (congrArg Array.toList Tryd.results60) Tryd.ntmps60 (⟨trivial, ⟨trivial, trivial⟩⟩) (leaf_of fun v => (by kernel_rfl : rh_report_Right_1.build v = em_report_Right_1 (ra_report_Right_1 v))) (by kernel_rfl) ((rn_report_Right_1 n0).trans h)
def as_report_Right_1 : List Shp := [(.int .i64)]
def ga_report_Right_1 (vs : List PV) : Option Bool := go_report_Right_1 ((tls 0 vs).headD .nilSl).num
theorem at_report_Right_1 : FnAt Tryd.prog GG 60 as_report_Right_1 ga_report_Right_1 em_report_Right_1 := fun vs h r hr => by
  have e : Shp.buildL as_report_Right_1 vs = [(.int .i64 ((tls 0 vs).headD .nilSl).num)] := by kernel_rfl
  rw [← Shp.buildL_eq _ h, e]
  exact .inl ⟨by decide, ok_report_Right_1 _ r hr⟩

def xb_slices_IndexFunc__int_int_0 : XR := (.seq (.ops false [⟨⟨(some 9), (.bin .lss (.tmp 8) (.tmp 7)), none⟩, none⟩]) (.seq (.cond (.tmp 9) .skip (.exit 0)) (.seq (.block 1 (.seq (.ops false [⟨⟨(some 10), (.mv (.tmp 8)), none⟩, none⟩, ⟨⟨(some 5), (.mv (.tmp 10)), none⟩, none⟩]) (.seq (.ops false [⟨⟨(some 11), (.mv (.tmp 1)), none⟩, none⟩, ⟨⟨(some 12), (.mv (.tmp 0)), none⟩, none⟩, ⟨⟨(some 13), (.mv (.tmp 5)), none⟩, none⟩, ⟨⟨(some 14), (.ixA 1 (.tmp 12) (.tmp 13)), none⟩, none⟩, ⟨⟨(some 15), (.ld false 1 (.tmp 14)), none⟩, (some (.int .i64))⟩, ⟨⟨(some 16), (.call (.tmp 11) [(.tmp 15)]), none⟩, none⟩]) (.cond (.tmp 16) (.seq (.ops false [⟨⟨(some 17), (.mv (.tmp 5)), none⟩, none⟩, ⟨⟨(some 4), (.mv (.tmp 17)), none⟩, none⟩]) .ret) .skip)))) (.ops false [⟨⟨(some 18), (.bin .add (.tmp 8) (.c (.int .i64 (1)))), none⟩, none⟩, ⟨⟨(some 8), (.mv (.tmp 18)), none⟩, none⟩]))))
def xr_slices_IndexFunc__int_int : XR := (.seq (.ops false [⟨⟨(some 4), (.mv (.c (.int .i64 (0)))), none⟩, none⟩]) (.seq (.seq (.ops false [⟨⟨(some 6), (.mv (.tmp 0)), none⟩, none⟩, ⟨⟨(some 7), (.len (.tmp 6)), none⟩, none⟩, ⟨⟨(some 8), (.mv (.c (.int .i64 (0)))), none⟩, none⟩]) (.block 0 (.loop 0 [0, 1, 7, 8] xb_slices_IndexFunc__int_int_0))) (.seq (.ops false [⟨⟨(some 4), (.mv (.c (.int .i64 (-1)))), none⟩, none⟩]) .ret)))
def rs_slices_IndexFunc__int_int : List ResultVar := [(.tmp 4)]
theorem ir_slices_IndexFunc__int_int : compCode Tryd.prog (Tryd.f66.body.getD .skip) [[0, 1, 7, 8]] = some (xr_slices_IndexFunc__int_int.erase, []) := by kernel_rfl
/-! slices_IndexFunc__int_int -/
def gm_slices_IndexFunc__int_int : Gam := (Gam.fn 60 as_report_Right_1 ga_report_Right_1 em_report_Right_1 Gam.bot)
theorem gk_slices_IndexFunc__int_int : GamOk Tryd.prog GG gm_slices_IndexFunc__int_int := (GamOk.fn at_report_Right_1 GamOk.bot)
def st_slices_IndexFunc__int_int_0 (b3 : Bool) (b4 : Bool) (l5 : List Int) (n6 : Int) (n7 : Int) : Option (((Bool × Bool × List Int × Int × Int)) ⊕ ((Unit) ⊕ (Int))) :=
  bif (decide (n7 < n6)) then
   bif (decide (0 ≤ n7)) then
    bif (decide (n7 < (((List.length l5) : Nat) : Int))) then
     bif (decide ((Int.toNat n7) < (List.length l5))) then
      (go_report_Right_1 (List.getD l5 (Int.toNat n7) 0)).bind fun r8 =>
      bif r8 then
       some (Sum.inr (Sum.inr n7))
      else
       some (Sum.inl (b3, b4, l5, n6, (IntKind.wrap .i64 (n7 + 1))))
     else none
    else none
   else none
  else
   some (Sum.inr (Sum.inl ()))
def lp_slices_IndexFunc__int_int_0 (b3 : Bool) (b4 : Bool) (l5 : List Int) (n6 : Int) (n7 : Int) : Option ((Unit) ⊕ (Int)) := loopN (X := (Bool × Bool × List Int × Int × Int)) (fun x => st_slices_IndexFunc__int_int_0 x.1 x.2.1 x.2.2.1 x.2.2.2.1 x.2.2.2.2) (b3, b4, l5, n6, n7)
def sh_slices_IndexFunc__int_int_0 : StSh := ⟨19, [(0, (.p (.isl .i64))), (1, (.p (.fn 60 []))), (7, (.p (.int .i64))), (8, (.p (.int .i64)))], []⟩
def sx_slices_IndexFunc__int_int_0 (x : (Bool × Bool × List Int × Int × Int)) : St := ⟨slots 19 0 [(0, (.p (.isl x.1 x.2.1 .i64 x.2.2.1))), (1, (.p (.fn 60 []))), (7, (.p (.int .i64 x.2.2.2.1))), (8, (.p (.int .i64 x.2.2.2.2)))], []⟩
def sa_slices_IndexFunc__int_int_0 (S : St) : (Bool × Bool × List Int × Int × Int) := (((tls 0 S.t).headD .any).pv.nl, ((tls 0 S.t).headD .any).pv.ex, ((tls 0 S.t).headD .any).pv.ints, ((tls 7 S.t).headD .any).pv.num, ((tls 8 S.t).headD .any).pv.num)
def tz_slices_IndexFunc__int_int_0_1 : StSh := ⟨19, [(4, (.p (.int .i64)))], []⟩
def tx_slices_IndexFunc__int_int_0_1 (x : Int) : St := ⟨slots 19 0 [(4, (.p (.int .i64 x)))], []⟩
def ta_slices_IndexFunc__int_int_0_1 (S : St) : Int := ((tls 4 S.t).headD .any).pv.num
def tz_slices_IndexFunc__int_int_0_0 : StSh := ⟨19, [], []⟩
def tx_slices_IndexFunc__int_int_0_0 (x : Unit) : St := ⟨slots 19 0 [], []⟩
def ta_slices_IndexFunc__int_int_0_0 (S : St) : Unit := ()
def kb_slices_IndexFunc__int_int_0 : Exit → St → Tree (((Bool × Bool × List Int × Int × Int)) ⊕ ((Unit) ⊕ (Int))) := (exOne (.exit 0) [] tz_slices_IndexFunc__int_int_0_0 ta_slices_IndexFunc__int_int_0_0 (fun y => Sum.inr ((Sum.inl y))) (exOne .ret [4] tz_slices_IndexFunc__int_int_0_1 ta_slices_IndexFunc__int_int_0_1 (fun y => Sum.inr ((Sum.inr y))) exNil))
def ky_slices_IndexFunc__int_int_0 : Dec ((Unit) ⊕ (Int)) := fun _ y ke => .sum y (fun a => ke ((.exit 0) : EK).ex (tx_slices_IndexFunc__int_int_0_0 a)) (fun y' => ke (.ret : EK).ex (tx_slices_IndexFunc__int_int_0_1 y'))
theorem kk_slices_IndexFunc__int_int_0 : ExOk Sum.inr kb_slices_IndexFunc__int_int_0 ky_slices_IndexFunc__int_int_0 := (ExOk.one (acc := ta_slices_IndexFunc__int_int_0_0) (bY := tx_slices_IndexFunc__int_int_0_0) (inj1 := fun y => (Sum.inl y)) (fun S => by kernel_rfl) (fun y _ ke => .inr (by kernel_rfl)) (ExOk.one (acc := ta_slices_IndexFunc__int_int_0_1) (bY := tx_slices_IndexFunc__int_int_0_1) (inj1 := fun y => (Sum.inr y)) (fun S => by kernel_rfl) (fun y _ ke => .inr (by kernel_rfl)) ExOk.nil))
def lm_slices_IndexFunc__int_int : Lam := fun _ j S kn ke => match j with
  | 0 => prepT [0, 1, 7, 8] [] S fun S => .chk (sh_slices_IndexFunc__int_int_0.ok S) (.bind (loopN (fun x => st_slices_IndexFunc__int_int_0 x.1 x.2.1 x.2.2.1 x.2.2.2.1 x.2.2.2.2) (sa_slices_IndexFunc__int_int_0 S)) fun y => ky_slices_IndexFunc__int_int_0 _ y ke)
  | _ => .fail
theorem sr_slices_IndexFunc__int_int_0 (x : (Bool × Bool × List Int × Int × Int)) : (ev GG gm_slices_IndexFunc__int_int lm_slices_IndexFunc__int_int xb_slices_IndexFunc__int_int_0 (sx_slices_IndexFunc__int_int_0 x) (fun S => forgetT [0, 1, 7, 8] S fun S => prepT [0, 1, 7, 8] [] S fun S => .chk (sh_slices_IndexFunc__int_int_0.ok S) (.leaf (.inl (sa_slices_IndexFunc__int_int_0 S)))) kb_slices_IndexFunc__int_int_0).run = st_slices_IndexFunc__int_int_0 x.1 x.2.1 x.2.2.1 x.2.2.2.1 x.2.2.2.2 := by kernel_rfl
theorem la_slices_IndexFunc__int_int_0 : LamAt Tryd.prog GG lm_slices_IndexFunc__int_int 0 (.loop [0, 1, 7, 8] xb_slices_IndexFunc__int_int_0.erase) := lam_loop (body := xb_slices_IndexFunc__int_int_0) (Λ' := lm_slices_IndexFunc__int_int) gk_slices_IndexFunc__int_int (⟨trivial, ⟨⟨trivial, trivial⟩, ⟨⟨trivial, ⟨trivial, ⟨⟨trivial, trivial⟩, trivial⟩⟩⟩, trivial⟩⟩⟩) (fun S => (by kernel_rfl : sh_slices_IndexFunc__int_int_0.build S = sx_slices_IndexFunc__int_int_0 (sa_slices_IndexFunc__int_int_0 S))) kk_slices_IndexFunc__int_int_0 sr_slices_IndexFunc__int_int_0 (fun _ _ _ => rfl)
/-- slices_IndexFunc__int_int -/
def go_slices_IndexFunc__int_int (b0 : Bool) (b1 : Bool) (l2 : List Int) : Option Int :=
  (lp_slices_IndexFunc__int_int_0 b0 b1 l2 (((List.length l2) : Nat) : Int) 0).bind fun y9 =>
  Sum.elim (fun z10 =>
   some (-1)) (fun z11 =>
   some z11) y9
def em_slices_IndexFunc__int_int (r : Int) : PV := (.int .i64 r)
def rh_slices_IndexFunc__int_int : Shp := (.int .i64)
def ra_slices_IndexFunc__int_int (v : PV) : Int := v.num
def kf_slices_IndexFunc__int_int (v : PV) : Tree Int := .chk (rh_slices_IndexFunc__int_int.ok v) (.leaf (ra_slices_IndexFunc__int_int v))
theorem rn_slices_IndexFunc__int_int (b0 : Bool) (b1 : Bool) (l2 : List Int) : (ev GG gm_slices_IndexFunc__int_int lm_slices_IndexFunc__int_int xr_slices_IndexFunc__int_int ⟨slots 19 0 [(0, .p (.isl b0 b1 .i64 l2)), (1, .p (.fn 60 []))], []⟩ (fun S => finT Tryd.prog rs_slices_IndexFunc__int_int S kf_slices_IndexFunc__int_int) (retT Tryd.prog rs_slices_IndexFunc__int_int kf_slices_IndexFunc__int_int)).run = go_slices_IndexFunc__int_int b0 b1 l2 := by kernel_rfl
theorem ok_slices_IndexFunc__int_int (b0 : Bool) (b1 : Bool) (l2 : List Int) (r : Int) (h : go_slices_IndexFunc__int_int b0 b1 l2 = some r) : FunEq Tryd.prog GG 66 [(.isl b0 b1 .i64 l2), (.fn 60 [])] (em_slices_IndexFunc__int_int r) :=
  fun_of_ev (x := xr_slices_IndexFunc__int_int) (Λ := lm_slices_IndexFunc__int_int) gk_slices_IndexFunc__int_int [[0, 1, 7, 8]] Tryd.func66 rfl (by kernel_rfl) ir_slices_IndexFunc__int_int (by kernel_rfl) (congrArg Array.toList Tryd.results66) Tryd.ntmps66 (⟨trivial, ⟨⟨trivial, la_slices_IndexFunc__int_int_0⟩, ⟨trivial, trivial⟩⟩⟩) (leaf_of fun v => (by kernel_rfl : rh_slices_IndexFunc__int_int.build v = em_slices_IndexFunc__int_int (ra_slices_IndexFunc__int_int v))) (by kernel_rfl) ((rn_slices_IndexFunc__int_int b0 b1 l2).trans h)
def as_slices_IndexFunc__int_int : List Shp := [(.isl .i64), (.fn 60 [])]
def ga_slices_IndexFunc__int_int (vs : List PV) : Option Int := go_slices_IndexFunc__int_int ((tls 0 vs).headD .nilSl).nl ((tls 0 vs).headD .nilSl).ex ((tls 0 vs).headD .nilSl).ints
theorem at_slices_IndexFunc__int_int : FnAt Tryd.prog GG 66 as_slices_IndexFunc__int_int ga_slices_IndexFunc__int_int em_slices_IndexFunc__int_int := fun vs h r hr => by
  have e : Shp.buildL as_slices_IndexFunc__int_int vs = [(.isl ((tls 0 vs).headD .nilSl).nl ((tls 0 vs).headD .nilSl).ex .i64 ((tls 0 vs).headD .nilSl).ints), (.fn 60 [])] := by kernel_rfl
  rw [← Shp.buildL_eq _ h, e]
  exact .inl ⟨by decide, ok_slices_IndexFunc__int_int _ _ _ r hr⟩

def xr_slices_ContainsFunc__int_int : XR := (.seq (.ops false [⟨⟨(some 4), (.mv (.c (.bool false))), none⟩, none⟩]) (.seq (.ops false [⟨⟨(some 5), (.mv (.tmp 0)), none⟩, none⟩, ⟨⟨(some 6), (.mv (.tmp 1)), none⟩, none⟩, ⟨⟨(some 7), (.call (.func 66) [(.tmp 5), (.tmp 6)]), none⟩, none⟩, ⟨⟨(some 8), (.bin .geq (.tmp 7) (.c (.int .i64 (0)))), none⟩, none⟩, ⟨⟨(some 4), (.mv (.tmp 8)), none⟩, none⟩]) .ret))
def rs_slices_ContainsFunc__int_int : List ResultVar := [(.tmp 4)]
theorem ir_slices_ContainsFunc__int_int : compCode Tryd.prog (Tryd.f52.body.getD .skip) [] = some (xr_slices_ContainsFunc__int_int.erase, []) := by kernel_rfl
/-! slices_ContainsFunc__int_int -/
def gm_slices_ContainsFunc__int_int : Gam := (Gam.fn 66 as_slices_IndexFunc__int_int ga_slices_IndexFunc__int_int em_slices_IndexFunc__int_int Gam.bot)
theorem gk_slices_ContainsFunc__int_int : GamOk Tryd.prog GG gm_slices_ContainsFunc__int_int := (GamOk.fn at_slices_IndexFunc__int_int GamOk.bot)
def lm_slices_ContainsFunc__int_int : Lam := fun _ j S kn ke => match j with
  | _ => .fail
/-- slices_ContainsFunc__int_int -/
def go_slices_ContainsFunc__int_int (b0 : Bool) (b1 : Bool) (l2 : List Int) : Option Bool :=
  (go_slices_IndexFunc__int_int b0 b1 l2).bind fun r3 =>
  some (decide (r3 ≥ 0))
def em_slices_ContainsFunc__int_int (r : Bool) : PV := (.bool r)
def rh_slices_ContainsFunc__int_int : Shp := .bool
def ra_slices_ContainsFunc__int_int (v : PV) : Bool := v.tru
def kf_slices_ContainsFunc__int_int (v : PV) : Tree Bool := .chk (rh_slices_ContainsFunc__int_int.ok v) (.leaf (ra_slices_ContainsFunc__int_int v))
theorem rn_slices_ContainsFunc__int_int (b0 : Bool) (b1 : Bool) (l2 : List Int) : (ev GG gm_slices_ContainsFunc__int_int lm_slices_ContainsFunc__int_int xr_slices_ContainsFunc__int_int ⟨slots 9 0 [(0, .p (.isl b0 b1 .i64 l2)), (1, .p (.fn 60 []))], []⟩ (fun S => finT Tryd.prog rs_slices_ContainsFunc__int_int S kf_slices_ContainsFunc__int_int) (retT Tryd.prog rs_slices_ContainsFunc__int_int kf_slices_ContainsFunc__int_int)).run = go_slices_ContainsFunc__int_int b0 b1 l2 := by kernel_rfl
theorem ok_slices_ContainsFunc__int_int (b0 : Bool) (b1 : Bool) (l2 : List Int) (r : Bool) (h : go_slices_ContainsFunc__int_int b0 b1 l2 = some r) : FunEq Tryd.prog GG 52 [(.isl b0 b1 .i64 l2), (.fn 60 [])] (em_slices_ContainsFunc__int_int r) :=
  fun_of_ev (x := xr_slices_ContainsFunc__int_int) (Λ := lm_slices_ContainsFunc__int_int) gk_slices_ContainsFunc__int_int [] Tryd.func52 rfl (by kernel_rfl) ir_slices_ContainsFunc__int_int (by kernel_rfl) (congrArg Array.toList Tryd.results52) Tryd.ntmps52 (⟨trivial, ⟨trivial, trivial⟩⟩) (leaf_of fun v => (by kernel_rfl : rh_slices_ContainsFunc__int_int.build v = em_slices_ContainsFunc__int_int (ra_slices_ContainsFunc__int_int v))) (by kernel_rfl) ((rn_slices_ContainsFunc__int_int b0 b1 l2).trans h)
def as_slices_ContainsFunc__int_int : List Shp := [(.isl .i64), (.fn 60 [])]
def ga_slices_ContainsFunc__int_int (vs : List PV) : Option Bool := go_slices_ContainsFunc__int_int ((tls 0 vs).headD .nilSl).nl ((tls 0 vs).headD .nilSl).ex ((tls 0 vs).headD .nilSl).ints
theorem at_slices_ContainsFunc__int_int : FnAt Tryd.prog GG 52 as_slices_ContainsFunc__int_int ga_slices_ContainsFunc__int_int em_slices_ContainsFunc__int_int := fun vs h r hr => by
  have e : Shp.buildL as_slices_ContainsFunc__int_int vs = [(.isl ((tls 0 vs).headD .nilSl).nl ((tls 0 vs).headD .nilSl).ex .i64 ((tls 0 vs).headD .nilSl).ints), (.fn 60 [])] := by kernel_rfl
  rw [← Shp.buildL_eq _ h, e]
  exact .inl ⟨by decide, ok_slices_ContainsFunc__int_int _ _ _ r hr⟩

def xr_report_Right : XR := (.seq (.ops false [⟨⟨(some 1), (.box 46 (.tmp 0)), none⟩, none⟩, ⟨⟨(some 2), (.mv (.c (.bool false))), none⟩, none⟩]) (.seq (.ops false [⟨⟨(some 3), (.mv (.func 60)), none⟩, none⟩]) (.seq (.ops false [⟨⟨(some 5), (.fldA 2 (.tmp 1)), none⟩, none⟩, ⟨⟨(some 6), (.ld false 1 (.tmp 5)), none⟩, (some (.isl .i64))⟩, ⟨⟨(some 7), (.len (.tmp 6)), none⟩, none⟩, ⟨⟨(some 8), (.bin .gtr (.tmp 7) (.c (.int .i64 (0)))), none⟩, none⟩, ⟨⟨(some 4), (.mv (.tmp 8)), none⟩, none⟩]) (.seq (.ops false [⟨⟨(some 9), (.fldA 0 (.tmp 1)), none⟩, none⟩, ⟨⟨(some 10), (.ld false 1 (.tmp 9)), none⟩, (some (.int .i64))⟩, ⟨⟨(some 11), (.bin .geq (.tmp 10) (.c (.int .i64 (0)))), none⟩, none⟩, ⟨⟨(some 12), (.mv (.tmp 11)), none⟩, none⟩, ⟨⟨(some 13), (.fldA 0 (.tmp 1)), (some (12, true))⟩, none⟩, ⟨⟨(some 14), (.ld false 1 (.tmp 13)), (some (12, true))⟩, (some (.int .i64))⟩, ⟨⟨(some 15), (.bin .leq (.tmp 14) (.c (.int .i64 (255)))), (some (12, true))⟩, none⟩, ⟨⟨(some 16), (.pick (.tmp 12) (.tmp 15) (.c (.bool false))), none⟩, none⟩, ⟨⟨(some 17), (.mv (.tmp 16)), none⟩, none⟩, ⟨⟨(some 18), (.fldA 1 (.tmp 1)), (some (17, true))⟩, none⟩, ⟨⟨(some 19), (.ld false 1 (.tmp 18)), (some (17, true))⟩, (some (.int .i64))⟩, ⟨⟨(some 20), (.bin .geq (.tmp 19) (.c (.int .i64 (0)))), (some (17, true))⟩, none⟩, ⟨⟨(some 21), (.pick (.tmp 17) (.tmp 20) (.c (.bool false))), none⟩, none⟩, ⟨⟨(some 22), (.mv (.tmp 21)), none⟩, none⟩, ⟨⟨(some 23), (.fldA 1 (.tmp 1)), (some (22, true))⟩, none⟩, ⟨⟨(some 24), (.ld false 1 (.tmp 23)), (some (22, true))⟩, (some (.int .i64))⟩, ⟨⟨(some 25), (.bin .leq (.tmp 24) (.c (.int .i64 (4294967295)))), (some (22, true))⟩, none⟩, ⟨⟨(some 26), (.pick (.tmp 22) (.tmp 25) (.c (.bool false))), none⟩, none⟩, ⟨⟨(some 27), (.mv (.tmp 26)), none⟩, none⟩, ⟨⟨(some 28), (.fldA 2 (.tmp 1)), (some (27, true))⟩, none⟩, ⟨⟨(some 29), (.ld false 1 (.tmp 28)), (some (27, true))⟩, (some (.isl .i64))⟩, ⟨⟨(some 30), (.len (.tmp 29)), (some (27, true))⟩, none⟩, ⟨⟨(some 31), (.bin .leq (.tmp 30) (.c (.int .i64 (4)))), (some (27, true))⟩, none⟩, ⟨⟨(some 32), (.pick (.tmp 27) (.tmp 31) (.c (.bool false))), none⟩, none⟩, ⟨⟨(some 33), (.mv (.tmp 32)), none⟩, none⟩, ⟨⟨(some 34), (.fldA 2 (.tmp 1)), (some (33, true))⟩, none⟩, ⟨⟨(some 35), (.ld false 1 (.tmp 34)), (some (33, true))⟩, (some (.isl .i64))⟩, ⟨⟨(some 36), (.len (.tmp 35)), (some (33, true))⟩, none⟩, ⟨⟨(some 37), (.fldA 3 (.tmp 1)), (some (33, true))⟩, none⟩, ⟨⟨(some 38), (.ld false 1 (.tmp 37)), (some (33, true))⟩, (some (.isl .i64))⟩, ⟨⟨(some 39), (.len (.tmp 38)), (some (33, true))⟩, none⟩, ⟨⟨(some 40), (.bin .eql (.tmp 36) (.tmp 39)), (some (33, true))⟩, none⟩, ⟨⟨(some 41), (.pick (.tmp 33) (.tmp 40) (.c (.bool false))), none⟩, none⟩, ⟨⟨(some 42), (.mv (.tmp 41)), none⟩, none⟩, ⟨⟨(some 43), (.mv (.tmp 4)), (some (42, true))⟩, none⟩, ⟨⟨(some 44), (.fldA 0 (.tmp 1)), (some (42, true))⟩, none⟩, ⟨⟨(some 45), (.ld false 1 (.tmp 44)), (some (42, true))⟩, (some (.int .i64))⟩, ⟨⟨(some 46), (.bin .and (.tmp 45) (.c (.int .i64 (32)))), (some (42, true))⟩, none⟩, ⟨⟨(some 47), (.bin .neq (.tmp 46) (.c (.int .i64 (0)))), (some (42, true))⟩, none⟩, ⟨⟨(some 48), (.binB false (.tmp 43) (.tmp 47)), (some (42, true))⟩, none⟩, ⟨⟨(some 49), (.pick (.tmp 42) (.tmp 48) (.c (.bool false))), none⟩, none⟩, ⟨⟨(some 50), (.mv (.tmp 49)), none⟩, none⟩, ⟨⟨(some 51), (.fldA 2 (.tmp 1)), (some (50, true))⟩, none⟩, ⟨⟨(some 52), (.ld false 1 (.tmp 51)), (some (50, true))⟩, (some (.isl .i64))⟩, ⟨⟨(some 53), (.fldA 3 (.tmp 1)), (some (50, true))⟩, none⟩, ⟨⟨(some 54), (.ld false 1 (.tmp 53)), (some (50, true))⟩, (some (.isl .i64))⟩, ⟨⟨(some 55), (.bsl 22 none 1 [(.tmp 52), (.tmp 54)]), (some (50, true))⟩, none⟩, ⟨⟨(some 56), (.call (.func 59) [(.tmp 55)]), (some (50, true))⟩, none⟩, ⟨⟨(some 57), (.mv (.tmp 3)), (some (50, true))⟩, none⟩, ⟨⟨(some 58), (.call (.func 52) [(.tmp 56), (.tmp 57)]), (some (50, true))⟩, none⟩, ⟨⟨(some 59), (.un .not (.tmp 58)), (some (50, true))⟩, none⟩, ⟨⟨(some 60), (.pick (.tmp 50) (.tmp 59) (.c (.bool false))), none⟩, none⟩, ⟨⟨(some 2), (.mv (.tmp 60)), none⟩, none⟩]) .ret))))
def rs_report_Right : List ResultVar := [(.tmp 2)]
theorem ir_report_Right : compCode Tryd.prog (Tryd.f35.body.getD .skip) [] = some (xr_report_Right.erase, []) := by kernel_rfl
/-! report_Right -/
def gm_report_Right : Gam := (Gam.fn 59 as_slices_Concat__int_int ga_slices_Concat__int_int em_slices_Concat__int_int (Gam.fn 52 as_slices_ContainsFunc__int_int ga_slices_ContainsFunc__int_int em_slices_ContainsFunc__int_int Gam.bot))
theorem gk_report_Right : GamOk Tryd.prog GG gm_report_Right := (GamOk.fn at_slices_Concat__int_int (GamOk.fn at_slices_ContainsFunc__int_int GamOk.bot))
def lm_report_Right : Lam := fun _ j S kn ke => match j with
  | _ => .fail
/-- report_Right -/
def go_report_Right (n0 : Int) (n1 : Int) (b2 : Bool) (b3 : Bool) (l4 : List Int) (b5 : Bool) (b6 : Bool) (l7 : List Int) : Option Bool :=
  bif (decide (n0 ≥ 0)) then
   bif (decide (n0 ≤ 255)) then
    bif (decide (n1 ≥ 0)) then
     bif (decide (n1 ≤ 4294967295)) then
      bif (decide ((((List.length l4) : Nat) : Int) ≤ 4)) then
       bif ((((List.length l4) : Nat) : Int) == (((List.length l7) : Nat) : Int)) then
        bif ((decide ((((List.length l4) : Nat) : Int) > 0)) == ((IntKind.wrap .i64 (bAnd .i64 n0 32)) != 0)) then
         (go_slices_Concat__int_int false true [(.isl b2 b3 .i64 l4), (.isl b5 b6 .i64 l7)]).bind fun r8 =>
         (go_slices_ContainsFunc__int_int r8.1 r8.2.1 r8.2.2).bind fun r9 =>
         some (!r9)
        else
         some false
       else
        some false
      else
       some false
     else
      some false
    else
     some false
   else
    some false
  else
   some false
def em_report_Right (r : Bool) : PV := (.bool r)
def rh_report_Right : Shp := .bool
def ra_report_Right (v : PV) : Bool := v.tru
def kf_report_Right (v : PV) : Tree Bool := .chk (rh_report_Right.ok v) (.leaf (ra_report_Right v))
theorem rn_report_Right (n0 : Int) (n1 : Int) (b2 : Bool) (b3 : Bool) (l4 : List Int) (b5 : Bool) (b6 : Bool) (l7 : List Int) : (ev GG gm_report_Right lm_report_Right xr_report_Right ⟨slots 61 0 [(0, .p (.agg [(.int .i64 n0), (.int .i64 n1), (.isl b2 b3 .i64 l4), (.isl b5 b6 .i64 l7)]))], []⟩ (fun S => finT Tryd.prog rs_report_Right S kf_report_Right) (retT Tryd.prog rs_report_Right kf_report_Right)).run = go_report_Right n0 n1 b2 b3 l4 b5 b6 l7 := by kernel_rfl
theorem ok_report_Right (n0 : Int) (n1 : Int) (b2 : Bool) (b3 : Bool) (l4 : List Int) (b5 : Bool) (b6 : Bool) (l7 : List Int) (r : Bool) (h : go_report_Right n0 n1 b2 b3 l4 b5 b6 l7 = some r) : FunEq Tryd.prog GG 35 [(.agg [(.int .i64 n0), (.int .i64 n1), (.isl b2 b3 .i64 l4), (.isl b5 b6 .i64 l7)])] (em_report_Right r) :=
  fun_of_ev (x := xr_report_Right) (Λ := lm_report_Right) gk_report_Right [] Tryd.func35 rfl (by kernel_rfl) ir_report_Right (by kernel_rfl) (congrArg Array.toList Tryd.results35) Tryd.ntmps35 (⟨trivial, ⟨trivial, ⟨trivial, ⟨trivial, trivial⟩⟩⟩⟩) (leaf_of fun v => (by kernel_rfl : rh_report_Right.build v = em_report_Right (ra_report_Right v))) (by kernel_rfl) ((rn_report_Right n0 n1 b2 b3 l4 b5 b6 l7).trans h)
def as_report_Right : List Shp := [(.agg [(.int .i64), (.int .i64), (.isl .i64), (.isl .i64)])]
def ga_report_Right (vs : List PV) : Option Bool := go_report_Right (((tls 0 vs).headD .nilSl).subs.headD .nilSl).num (((tls 0 vs).headD .nilSl).subs.tail.headD .nilSl).num (((tls 0 vs).headD .nilSl).subs.tail.tail.headD .nilSl).nl (((tls 0 vs).headD .nilSl).subs.tail.tail.headD .nilSl).ex (((tls 0 vs).headD .nilSl).subs.tail.tail.headD .nilSl).ints (((tls 0 vs).headD .nilSl).subs.tail.tail.tail.headD .nilSl).nl (((tls 0 vs).headD .nilSl).subs.tail.tail.tail.headD .nilSl).ex (((tls 0 vs).headD .nilSl).subs.tail.tail.tail.headD .nilSl).ints
theorem at_report_Right : FnAt Tryd.prog GG 35 as_report_Right ga_report_Right em_report_Right := fun vs h r hr => by
  have e : Shp.buildL as_report_Right vs = [(.agg [(.int .i64 (((tls 0 vs).headD .nilSl).subs.headD .nilSl).num), (.int .i64 (((tls 0 vs).headD .nilSl).subs.tail.headD .nilSl).num), (.isl (((tls 0 vs).headD .nilSl).subs.tail.tail.headD .nilSl).nl (((tls 0 vs).headD .nilSl).subs.tail.tail.headD .nilSl).ex .i64 (((tls 0 vs).headD .nilSl).subs.tail.tail.headD .nilSl).ints), (.isl (((tls 0 vs).headD .nilSl).subs.tail.tail.tail.headD .nilSl).nl (((tls 0 vs).headD .nilSl).subs.tail.tail.tail.headD .nilSl).ex .i64 (((tls 0 vs).headD .nilSl).subs.tail.tail.tail.headD .nilSl).ints)])] := by kernel_rfl
  rw [← Shp.buildL_eq _ h, e]
  exact .inl ⟨by decide, ok_report_Right _ _ _ _ _ _ _ _ r hr⟩

def xb_report_Encode_0 : XR := (.seq (.ops false [⟨⟨(some 29), (.bin .lss (.tmp 28) (.tmp 27)), none⟩, none⟩]) (.seq (.cond (.tmp 29) .skip (.exit 0)) (.seq (.block 1 (.seq (.ops false [⟨⟨(some 30), (.ixA 1 (.tmp 26) (.tmp 28)), none⟩, none⟩, ⟨⟨(some 31), (.ld false 1 (.tmp 30)), none⟩, (some (.int .i64))⟩, ⟨⟨(some 6), (.mv (.tmp 31)), none⟩, none⟩]) (.ops false [⟨⟨(some 32), (.mv (.tmp 4)), none⟩, none⟩, ⟨⟨(some 33), (.mv (.tmp 6)), none⟩, none⟩, ⟨⟨(some 34), (.callR 58 5 (.tmp 32) [(.tmp 33), (.c (.int .i64 (8)))]), none⟩, none⟩, ⟨⟨(some 4), (.mv (.tmp 34)), none⟩, none⟩]))) (.ops false [⟨⟨(some 35), (.bin .add (.tmp 28) (.c (.int .i64 (1)))), none⟩, none⟩, ⟨⟨(some 28), (.mv (.tmp 35)), none⟩, none⟩]))))
def xr_report_Encode : XR := (.seq (.ops false [⟨⟨(some 1), (.box 46 (.tmp 0)), none⟩, none⟩, ⟨⟨(some 2), (.mv (.c (.isl true true .u8 []))), none⟩, none⟩, ⟨⟨(some 3), (.mv (.c (.int .i64 (0)))), none⟩, none⟩]) (.seq (.seq (.ops false [⟨⟨(some 7), (.ld true 4 (.tmp 1)), none⟩, (some (.agg [(.int .i64), (.int .i64), (.isl .i64), (.isl .i64)]))⟩, ⟨⟨(some 8), (.call (.func 35) [(.tmp 7)]), none⟩, none⟩, ⟨⟨(some 9), (.un .not (.tmp 8)), none⟩, none⟩]) (.cond (.tmp 9) (.seq (.ops false [⟨⟨(some 2), (.mv (.c (.isl true true .u8 []))), none⟩, none⟩, ⟨⟨(some 3), (.mv (.c (.int .i64 (1)))), none⟩, none⟩]) .ret) .skip)) (.seq (.ops false [⟨⟨(some 10), (.fldA 0 (.tmp 1)), none⟩, none⟩, ⟨⟨(some 11), (.ld false 1 (.tmp 10)), none⟩, (some (.int .i64))⟩, ⟨⟨(some 12), (.cvtI .u8 (.tmp 11)), none⟩, none⟩, ⟨⟨(some 13), (.fldA 2 (.tmp 1)), none⟩, none⟩, ⟨⟨(some 14), (.ld false 1 (.tmp 13)), none⟩, (some (.isl .i64))⟩, ⟨⟨(some 15), (.len (.tmp 14)), none⟩, none⟩, ⟨⟨(some 16), (.cvtI .u8 (.tmp 15)), none⟩, none⟩, ⟨⟨(some 17), (.bsl 5 (some .u8) 1 [(.c (.int .u8 (78))), (.c (.int .u8 (82))), (.tmp 12), (.tmp 16)]), none⟩, none⟩, ⟨⟨(some 18), (.fldA 1 (.tmp 1)), none⟩, none⟩, ⟨⟨(some 19), (.ld false 1 (.tmp 18)), none⟩, (some (.int .i64))⟩, ⟨⟨(some 20), (.callR 58 5 (.tmp 17) [(.tmp 19), (.c (.int .i64 (4)))]), none⟩, none⟩, ⟨⟨(some 4), (.mv (.tmp 20)), none⟩, none⟩]) (.seq (.seq (.ops false [⟨⟨(some 21), (.fldA 2 (.tmp 1)), none⟩, none⟩, ⟨⟨(some 22), (.ld false 1 (.tmp 21)), none⟩, (some (.isl .i64))⟩, ⟨⟨(some 23), (.fldA 3 (.tmp 1)), none⟩, none⟩, ⟨⟨(some 24), (.ld false 1 (.tmp 23)), none⟩, (some (.isl .i64))⟩, ⟨⟨(some 25), (.bsl 22 none 1 [(.tmp 22), (.tmp 24)]), none⟩, none⟩, ⟨⟨(some 26), (.call (.func 59) [(.tmp 25)]), none⟩, none⟩, ⟨⟨(some 27), (.len (.tmp 26)), none⟩, none⟩, ⟨⟨(some 28), (.mv (.c (.int .i64 (0)))), none⟩, none⟩]) (.block 0 (.loop 0 [4, 26, 27, 28] xb_report_Encode_0))) (.seq (.ops false [⟨⟨(some 36), (.mv (.tmp 4)), none⟩, none⟩, ⟨⟨(some 37), (.mv (.tmp 4)), none⟩, none⟩, ⟨⟨(some 38), (.call (.func 48) [(.tmp 37)]), none⟩, none⟩, ⟨⟨(some 39), (.cvtI .i64 (.tmp 38)), none⟩, none⟩, ⟨⟨(some 40), (.callR 58 5 (.tmp 36) [(.tmp 39), (.c (.int .i64 (4)))]), none⟩, none⟩, ⟨⟨(some 2), (.mv (.tmp 40)), none⟩, none⟩, ⟨⟨(some 3), (.mv (.c (.int .i64 (0)))), none⟩, none⟩]) .ret)))))
def rs_report_Encode : List ResultVar := [(.tmp 2), (.tmp 3)]
theorem ir_report_Encode : compCode Tryd.prog (Tryd.f32.body.getD .skip) [[4, 26, 27, 28]] = some (xr_report_Encode.erase, []) := by kernel_rfl
/-! report_Encode -/
def gm_report_Encode : Gam := (Gam.fn 35 as_report_Right ga_report_Right em_report_Right (Gam.fn 1000058 as_report_put ga_report_put em_report_put (Gam.fn 59 as_slices_Concat__int_int ga_slices_Concat__int_int em_slices_Concat__int_int (Gam.fn 48 as_sum_Of ga_sum_Of em_sum_Of Gam.bot))))
theorem gk_report_Encode : GamOk Tryd.prog GG gm_report_Encode := (GamOk.fn at_report_Right (GamOk.fn at_report_put (GamOk.fn at_slices_Concat__int_int (GamOk.fn at_sum_Of GamOk.bot))))
def st_report_Encode_0 (b11 : Bool) (b12 : Bool) (l13 : List Int) (n14 : Int) (n15 : Int) (b16 : Bool) (b17 : Bool) (l18 : List Int) : Option (((Bool × Bool × List Int × Int × Int × Bool × Bool × List Int)) ⊕ (((Bool × Bool × List Int)))) :=
  bif (decide (n15 < n14)) then
   bif (decide (0 ≤ n15)) then
    bif (decide (n15 < (((List.length l13) : Nat) : Int))) then
     bif (decide ((Int.toNat n15) < (List.length l13))) then
      (go_report_put b16 b17 l18 (List.getD l13 (Int.toNat n15) 0) 8).bind fun r19 =>
      some (Sum.inl (b11, b12, l13, n14, (IntKind.wrap .i64 (n15 + 1)), r19.1, false, r19.2.2))
     else none
    else none
   else none
  else
   some (Sum.inr (b16, b17, l18))
def lp_report_Encode_0 (b11 : Bool) (b12 : Bool) (l13 : List Int) (n14 : Int) (n15 : Int) (b16 : Bool) (b17 : Bool) (l18 : List Int) : Option (((Bool × Bool × List Int))) := loopN (X := (Bool × Bool × List Int × Int × Int × Bool × Bool × List Int)) (fun x => st_report_Encode_0 x.1 x.2.1 x.2.2.1 x.2.2.2.1 x.2.2.2.2.1 x.2.2.2.2.2.1 x.2.2.2.2.2.2.1 x.2.2.2.2.2.2.2) (b11, b12, l13, n14, n15, b16, b17, l18)
def sh_report_Encode_0 : StSh := ⟨41, [(4, (.row 0)), (26, (.p (.isl .i64))), (27, (.p (.int .i64))), (28, (.p (.int .i64)))], [(.irow 5 .u8)]⟩
def sx_report_Encode_0 (x : (Bool × Bool × List Int × Int × Int × Bool × Bool × List Int)) : St := ⟨slots 41 0 [(4, (.row 0)), (26, (.p (.isl x.1 x.2.1 .i64 x.2.2.1))), (27, (.p (.int .i64 x.2.2.2.1))), (28, (.p (.int .i64 x.2.2.2.2.1)))], [(.irow 5 .u8 x.2.2.2.2.2.1 x.2.2.2.2.2.2.1 x.2.2.2.2.2.2.2)]⟩
def sa_report_Encode_0 (S : St) : (Bool × Bool × List Int × Int × Int × Bool × Bool × List Int) := (((tls 26 S.t).headD .any).pv.nl, ((tls 26 S.t).headD .any).pv.ex, ((tls 26 S.t).headD .any).pv.ints, ((tls 27 S.t).headD .any).pv.num, ((tls 28 S.t).headD .any).pv.num, ((tls 0 S.own).headD .gone).pvD.nl, ((tls 0 S.own).headD .gone).pvD.ex, ((tls 0 S.own).headD .gone).pvD.ints)
def tz_report_Encode_0_0 : StSh := ⟨41, [(4, (.row 0))], [(.irow 5 .u8)]⟩
def tx_report_Encode_0_0 (x : (Bool × Bool × List Int)) : St := ⟨slots 41 0 [(4, (.row 0))], [(.irow 5 .u8 x.1 x.2.1 x.2.2)]⟩
def ta_report_Encode_0_0 (S : St) : (Bool × Bool × List Int) := (((tls 0 S.own).headD .gone).pvD.nl, ((tls 0 S.own).headD .gone).pvD.ex, ((tls 0 S.own).headD .gone).pvD.ints)
def kb_report_Encode_0 : Exit → St → Tree (((Bool × Bool × List Int × Int × Int × Bool × Bool × List Int)) ⊕ (((Bool × Bool × List Int)))) := (exOne (.exit 0) [4] tz_report_Encode_0_0 ta_report_Encode_0_0 (fun y => Sum.inr (y)) exNil)
def ky_report_Encode_0 : Dec (((Bool × Bool × List Int))) := fun _ y ke => ke ((.exit 0) : EK).ex (tx_report_Encode_0_0 y)
theorem kk_report_Encode_0 : ExOk Sum.inr kb_report_Encode_0 ky_report_Encode_0 := (ExOk.one (acc := ta_report_Encode_0_0) (bY := tx_report_Encode_0_0) (inj1 := fun y => y) (fun S => by kernel_rfl) (fun y _ ke => .inr (by kernel_rfl)) ExOk.nil)
def lm_report_Encode : Lam := fun _ j S kn ke => match j with
  | 0 => prepT [4, 26, 27, 28] [] S fun S => .chk (sh_report_Encode_0.ok S) (.bind (loopN (fun x => st_report_Encode_0 x.1 x.2.1 x.2.2.1 x.2.2.2.1 x.2.2.2.2.1 x.2.2.2.2.2.1 x.2.2.2.2.2.2.1 x.2.2.2.2.2.2.2) (sa_report_Encode_0 S)) fun y => ky_report_Encode_0 _ y ke)
  | _ => .fail
theorem sr_report_Encode_0 (x : (Bool × Bool × List Int × Int × Int × Bool × Bool × List Int)) : (ev GG gm_report_Encode lm_report_Encode xb_report_Encode_0 (sx_report_Encode_0 x) (fun S => forgetT [4, 26, 27, 28] S fun S => prepT [4, 26, 27, 28] [] S fun S => .chk (sh_report_Encode_0.ok S) (.leaf (.inl (sa_report_Encode_0 S)))) kb_report_Encode_0).run = st_report_Encode_0 x.1 x.2.1 x.2.2.1 x.2.2.2.1 x.2.2.2.2.1 x.2.2.2.2.2.1 x.2.2.2.2.2.2.1 x.2.2.2.2.2.2.2 := by kernel_rfl
theorem la_report_Encode_0 : LamAt Tryd.prog GG lm_report_Encode 0 (.loop [4, 26, 27, 28] xb_report_Encode_0.erase) := lam_loop (body := xb_report_Encode_0) (Λ' := lm_report_Encode) gk_report_Encode (⟨trivial, ⟨⟨trivial, trivial⟩, ⟨⟨trivial, trivial⟩, trivial⟩⟩⟩) (fun S => (by kernel_rfl : sh_report_Encode_0.build S = sx_report_Encode_0 (sa_report_Encode_0 S))) kk_report_Encode_0 sr_report_Encode_0 (fun _ _ _ => rfl)
/-- report_Encode -/
def go_report_Encode (n0 : Int) (n1 : Int) (b2 : Bool) (b3 : Bool) (l4 : List Int) (b5 : Bool) (b6 : Bool) (l7 : List Int) : Option (Bool × Bool × List Int × Int) :=
  (go_report_Right n0 n1 b2 b3 l4 b5 b6 l7).bind fun r8 =>
  bif (!r8) then
   some (true, true, [], 1)
  else
   (go_report_put false true [78, 82, (IntKind.wrap .u8 n0), (IntKind.wrap .u8 (((List.length l4) : Nat) : Int))] n1 4).bind fun r9 =>
   (go_slices_Concat__int_int false true [(.isl b2 b3 .i64 l4), (.isl b5 b6 .i64 l7)]).bind fun r10 =>
   (lp_report_Encode_0 r10.1 r10.2.1 r10.2.2 (((List.length r10.2.2) : Nat) : Int) 0 r9.1 false r9.2.2).bind fun y20 =>
   (go_sum_Of y20.1 y20.2.1 y20.2.2).bind fun r21 =>
   (go_report_put y20.1 y20.2.1 y20.2.2 (IntKind.wrap .i64 r21) 4).bind fun r22 =>
   some (r22.1, false, r22.2.2, 0)
def em_report_Encode (r : (Bool × Bool × List Int × Int)) : PV := (.tup [(.isl r.1 r.2.1 .u8 r.2.2.1), (.int .i64 r.2.2.2)])
def rh_report_Encode : Shp := (.tup [(.isl .u8), (.int .i64)])
def ra_report_Encode (v : PV) : (Bool × Bool × List Int × Int) := ((v.subs.headD .nilSl).nl, (v.subs.headD .nilSl).ex, (v.subs.headD .nilSl).ints, (v.subs.tail.headD .nilSl).num)
def kf_report_Encode (v : PV) : Tree (Bool × Bool × List Int × Int) := .chk (rh_report_Encode.ok v) (.leaf (ra_report_Encode v))
theorem rn_report_Encode (n0 : Int) (n1 : Int) (b2 : Bool) (b3 : Bool) (l4 : List Int) (b5 : Bool) (b6 : Bool) (l7 : List Int) : (ev GG gm_report_Encode lm_report_Encode xr_report_Encode ⟨slots 41 0 [(0, .p (.agg [(.int .i64 n0), (.int .i64 n1), (.isl b2 b3 .i64 l4), (.isl b5 b6 .i64 l7)]))], []⟩ (fun S => finT Tryd.prog rs_report_Encode S kf_report_Encode) (retT Tryd.prog rs_report_Encode kf_report_Encode)).run = go_report_Encode n0 n1 b2 b3 l4 b5 b6 l7 := by kernel_rfl
theorem ok_report_Encode (n0 : Int) (n1 : Int) (b2 : Bool) (b3 : Bool) (l4 : List Int) (b5 : Bool) (b6 : Bool) (l7 : List Int) (r : (Bool × Bool × List Int × Int)) (h : go_report_Encode n0 n1 b2 b3 l4 b5 b6 l7 = some r) : FunEq Tryd.prog GG 32 [(.agg [(.int .i64 n0), (.int .i64 n1), (.isl b2 b3 .i64 l4), (.isl b5 b6 .i64 l7)])] (em_report_Encode r) :=
  fun_of_ev (x := xr_report_Encode) (Λ := lm_report_Encode) gk_report_Encode [[4, 26, 27, 28]] Tryd.func32 rfl (by kernel_rfl) ir_report_Encode (by kernel_rfl) (congrArg Array.toList Tryd.results32) Tryd.ntmps32 (⟨trivial, ⟨⟨trivial, ⟨⟨trivial, trivial⟩, trivial⟩⟩, ⟨trivial, ⟨⟨trivial, la_report_Encode_0⟩, ⟨trivial, trivial⟩⟩⟩⟩⟩) (leaf_of fun v => (by kernel_rfl : rh_report_Encode.build v = em_report_Encode (ra_report_Encode v))) (by kernel_rfl) ((rn_report_Encode n0 n1 b2 b3 l4 b5 b6 l7).trans h)
def as_report_Encode : List Shp := [(.agg [(.int .i64), (.int .i64), (.isl .i64), (.isl .i64)])]
def ga_report_Encode (vs : List PV) : Option (Bool × Bool × List Int × Int) := go_report_Encode (((tls 0 vs).headD .nilSl).subs.headD .nilSl).num (((tls 0 vs).headD .nilSl).subs.tail.headD .nilSl).num (((tls 0 vs).headD .nilSl).subs.tail.tail.headD .nilSl).nl (((tls 0 vs).headD .nilSl).subs.tail.tail.headD .nilSl).ex (((tls 0 vs).headD .nilSl).subs.tail.tail.headD .nilSl).ints (((tls 0 vs).headD .nilSl).subs.tail.tail.tail.headD .nilSl).nl (((tls 0 vs).headD .nilSl).subs.tail.tail.tail.headD .nilSl).ex (((tls 0 vs).headD .nilSl).subs.tail.tail.tail.headD .nilSl).ints
theorem at_report_Encode : FnAt Tryd.prog GG 32 as_report_Encode ga_report_Encode em_report_Encode := fun vs h r hr => by
  have e : Shp.buildL as_report_Encode vs = [(.agg [(.int .i64 (((tls 0 vs).headD .nilSl).subs.headD .nilSl).num), (.int .i64 (((tls 0 vs).headD .nilSl).subs.tail.headD .nilSl).num), (.isl (((tls 0 vs).headD .nilSl).subs.tail.tail.headD .nilSl).nl (((tls 0 vs).headD .nilSl).subs.tail.tail.headD .nilSl).ex .i64 (((tls 0 vs).headD .nilSl).subs.tail.tail.headD .nilSl).ints), (.isl (((tls 0 vs).headD .nilSl).subs.tail.tail.tail.headD .nilSl).nl (((tls 0 vs).headD .nilSl).subs.tail.tail.tail.headD .nilSl).ex .i64 (((tls 0 vs).headD .nilSl).subs.tail.tail.tail.headD .nilSl).ints)])] := by kernel_rfl
  rw [← Shp.buildL_eq _ h, e]
  exact .inl ⟨by decide, ok_report_Encode _ _ _ _ _ _ _ _ r hr⟩

def xb_report_get_0 : XR := (.seq (.ops false [⟨⟨(some 8), (.bin .lss (.tmp 7) (.tmp 6)), none⟩, none⟩]) (.seq (.cond (.tmp 8) .skip (.exit 0)) (.seq (.block 1 (.seq (.ops false [⟨⟨(some 9), (.mv (.tmp 7)), none⟩, none⟩, ⟨⟨(some 4), (.mv (.tmp 9)), none⟩, none⟩]) (.ops false [⟨⟨(some 10), (.mv (.tmp 3)), none⟩, none⟩, ⟨⟨(some 11), (.mv (.tmp 0)), none⟩, none⟩, ⟨⟨(some 12), (.mv (.tmp 4)), none⟩, none⟩, ⟨⟨(some 13), (.ixA 1 (.tmp 11) (.tmp 12)), none⟩, none⟩, ⟨⟨(some 14), (.ld false 1 (.tmp 13)), none⟩, (some (.int .u8))⟩, ⟨⟨(some 15), (.cvtI .u64 (.tmp 14)), none⟩, none⟩, ⟨⟨(some 16), (.mv (.tmp 4)), none⟩, none⟩, ⟨⟨(some 17), (.bin .mul (.c (.int .i64 (8))) (.tmp 16)), none⟩, none⟩, ⟨⟨(some 18), (.bin .shl (.tmp 15) (.tmp 17)), none⟩, none⟩, ⟨⟨(some 19), (.bin .or (.tmp 10) (.tmp 18)), none⟩, none⟩, ⟨⟨(some 3), (.mv (.tmp 19)), none⟩, none⟩]))) (.ops false [⟨⟨(some 20), (.bin .add (.tmp 7) (.c (.int .i64 (1)))), none⟩, none⟩, ⟨⟨(some 7), (.mv (.tmp 20)), none⟩, none⟩]))))
def xr_report_get : XR := (.seq (.ops false [⟨⟨(some 2), (.mv (.c (.int .i64 (0)))), none⟩, none⟩]) (.seq (.ops false [⟨⟨(some 3), (.mv (.c (.int .u64 (0)))), none⟩, none⟩]) (.seq (.seq (.ops false [⟨⟨(some 5), (.mv (.tmp 0)), none⟩, none⟩, ⟨⟨(some 6), (.len (.tmp 5)), none⟩, none⟩, ⟨⟨(some 7), (.mv (.c (.int .i64 (0)))), none⟩, none⟩]) (.block 0 (.loop 0 [0, 3, 6, 7] xb_report_get_0))) (.seq (.ops false [⟨⟨(some 21), (.mv (.tmp 3)), none⟩, none⟩, ⟨⟨(some 22), (.cvtI .i64 (.tmp 21)), none⟩, none⟩, ⟨⟨(some 2), (.mv (.tmp 22)), none⟩, none⟩]) .ret))))
def rs_report_get : List ResultVar := [(.tmp 2)]
theorem ir_report_get : compCode Tryd.prog (Tryd.f61.body.getD .skip) [[0, 3, 6, 7]] = some (xr_report_get.erase, []) := by kernel_rfl
/-! report_get -/
def gm_report_get : Gam := Gam.bot
theorem gk_report_get : GamOk Tryd.prog GG gm_report_get := GamOk.bot
def st_report_get_0 (b3 : Bool) (b4 : Bool) (l5 : List Int) (n6 : Int) (n7 : Int) (n8 : Int) : Option (((Bool × Bool × List Int × Int × Int × Int)) ⊕ ((Int))) :=
  bif (decide (n8 < n7)) then
   bif (decide (0 ≤ n8)) then
    bif (decide (n8 < (((List.length l5) : Nat) : Int))) then
     bif (decide ((Int.toNat n8) < (List.length l5))) then
      bif (decide (0 ≤ (IntKind.wrap .i64 (8 * n8)))) then
       some (Sum.inl (b3, b4, l5, (IntKind.wrap .u64 (bOr .u64 n6 (IntKind.wrap .u64 ((IntKind.wrap .u64 (List.getD l5 (Int.toNat n8) 0)) * (2 ^ (min (Int.toNat (IntKind.wrap .i64 (8 * n8))) 64)))))), n7, (IntKind.wrap .i64 (n8 + 1))))
      else none
     else none
    else none
   else none
  else
   some (Sum.inr n6)
def lp_report_get_0 (b3 : Bool) (b4 : Bool) (l5 : List Int) (n6 : Int) (n7 : Int) (n8 : Int) : Option ((Int)) := loopN (X := (Bool × Bool × List Int × Int × Int × Int)) (fun x => st_report_get_0 x.1 x.2.1 x.2.2.1 x.2.2.2.1 x.2.2.2.2.1 x.2.2.2.2.2) (b3, b4, l5, n6, n7, n8)
def sh_report_get_0 : StSh := ⟨23, [(0, (.p (.isl .u8))), (3, (.p (.int .u64))), (6, (.p (.int .i64))), (7, (.p (.int .i64)))], []⟩
def sx_report_get_0 (x : (Bool × Bool × List Int × Int × Int × Int)) : St := ⟨slots 23 0 [(0, (.p (.isl x.1 x.2.1 .u8 x.2.2.1))), (3, (.p (.int .u64 x.2.2.2.1))), (6, (.p (.int .i64 x.2.2.2.2.1))), (7, (.p (.int .i64 x.2.2.2.2.2)))], []⟩
def sa_report_get_0 (S : St) : (Bool × Bool × List Int × Int × Int × Int) := (((tls 0 S.t).headD .any).pv.nl, ((tls 0 S.t).headD .any).pv.ex, ((tls 0 S.t).headD .any).pv.ints, ((tls 3 S.t).headD .any).pv.num, ((tls 6 S.t).headD .any).pv.num, ((tls 7 S.t).headD .any).pv.num)
def tz_report_get_0_0 : StSh := ⟨23, [(3, (.p (.int .u64)))], []⟩
def tx_report_get_0_0 (x : Int) : St := ⟨slots 23 0 [(3, (.p (.int .u64 x)))], []⟩
def ta_report_get_0_0 (S : St) : Int := ((tls 3 S.t).headD .any).pv.num
def kb_report_get_0 : Exit → St → Tree (((Bool × Bool × List Int × Int × Int × Int)) ⊕ ((Int))) := (exOne (.exit 0) [3] tz_report_get_0_0 ta_report_get_0_0 (fun y => Sum.inr (y)) exNil)
def ky_report_get_0 : Dec ((Int)) := fun _ y ke => ke ((.exit 0) : EK).ex (tx_report_get_0_0 y)
theorem kk_report_get_0 : ExOk Sum.inr kb_report_get_0 ky_report_get_0 := (ExOk.one (acc := ta_report_get_0_0) (bY := tx_report_get_0_0) (inj1 := fun y => y) (fun S => by kernel_rfl) (fun y _ ke => .inr (by kernel_rfl)) ExOk.nil)
def lm_report_get : Lam := fun _ j S kn ke => match j with
  | 0 => prepT [0, 3, 6, 7] [] S fun S => .chk (sh_report_get_0.ok S) (.bind (loopN (fun x => st_report_get_0 x.1 x.2.1 x.2.2.1 x.2.2.2.1 x.2.2.2.2.1 x.2.2.2.2.2) (sa_report_get_0 S)) fun y => ky_report_get_0 _ y ke)
  | _ => .fail
theorem sr_report_get_0 (x : (Bool × Bool × List Int × Int × Int × Int)) : (ev GG gm_report_get lm_report_get xb_report_get_0 (sx_report_get_0 x) (fun S => forgetT [0, 3, 6, 7] S fun S => prepT [0, 3, 6, 7] [] S fun S => .chk (sh_report_get_0.ok S) (.leaf (.inl (sa_report_get_0 S)))) kb_report_get_0).run = st_report_get_0 x.1 x.2.1 x.2.2.1 x.2.2.2.1 x.2.2.2.2.1 x.2.2.2.2.2 := by kernel_rfl
theorem la_report_get_0 : LamAt Tryd.prog GG lm_report_get 0 (.loop [0, 3, 6, 7] xb_report_get_0.erase) := lam_loop (body := xb_report_get_0) (Λ' := lm_report_get) gk_report_get (⟨trivial, ⟨⟨trivial, trivial⟩, ⟨⟨trivial, trivial⟩, trivial⟩⟩⟩) (fun S => (by kernel_rfl : sh_report_get_0.build S = sx_report_get_0 (sa_report_get_0 S))) kk_report_get_0 sr_report_get_0 (fun _ _ _ => rfl)
/-- report_get -/
def go_report_get (b0 : Bool) (b1 : Bool) (l2 : List Int) : Option Int :=
  (lp_report_get_0 b0 b1 l2 0 (((List.length l2) : Nat) : Int) 0).bind fun y9 =>
  some (IntKind.wrap .i64 y9)
def em_report_get (r : Int) : PV := (.int .i64 r)
def rh_report_get : Shp := (.int .i64)
def ra_report_get (v : PV) : Int := v.num
def kf_report_get (v : PV) : Tree Int := .chk (rh_report_get.ok v) (.leaf (ra_report_get v))
theorem rn_report_get (b0 : Bool) (b1 : Bool) (l2 : List Int) : (ev GG gm_report_get lm_report_get xr_report_get ⟨slots 23 0 [(0, .p (.isl b0 b1 .u8 l2))], []⟩ (fun S => finT Tryd.prog rs_report_get S kf_report_get) (retT Tryd.prog rs_report_get kf_report_get)).run = go_report_get b0 b1 l2 := by kernel_rfl
theorem ok_report_get (b0 : Bool) (b1 : Bool) (l2 : List Int) (r : Int) (h : go_report_get b0 b1 l2 = some r) : FunEq Tryd.prog GG 61 [(.isl b0 b1 .u8 l2)] (em_report_get r) :=
  fun_of_ev (x := xr_report_get) (Λ := lm_report_get) gk_report_get [[0, 3, 6, 7]] Tryd.func61 rfl (by kernel_rfl) ir_report_get (by kernel_rfl) (congrArg Array.toList Tryd.results61) Tryd.ntmps61 (⟨trivial, ⟨trivial, ⟨⟨trivial, la_report_get_0⟩, ⟨trivial, trivial⟩⟩⟩⟩) (leaf_of fun v => (by kernel_rfl : rh_report_get.build v = em_report_get (ra_report_get v))) (by kernel_rfl) ((rn_report_get b0 b1 l2).trans h)
def as_report_get : List Shp := [(.isl .u8)]
def ga_report_get (vs : List PV) : Option Int := go_report_get ((tls 0 vs).headD .nilSl).nl ((tls 0 vs).headD .nilSl).ex ((tls 0 vs).headD .nilSl).ints
theorem at_report_get : FnAt Tryd.prog GG 61 as_report_get ga_report_get em_report_get := fun vs h r hr => by
  have e : Shp.buildL as_report_get vs = [(.isl ((tls 0 vs).headD .nilSl).nl ((tls 0 vs).headD .nilSl).ex .u8 ((tls 0 vs).headD .nilSl).ints)] := by kernel_rfl
  rw [← Shp.buildL_eq _ h, e]
  exact .inl ⟨by decide, ok_report_get _ _ _ r hr⟩

def xb_report_Decode_0 : XR := (.seq (.ops false [⟨⟨(some 74), (.bin .lss (.tmp 73) (.tmp 72)), none⟩, none⟩]) (.seq (.cond (.tmp 74) .skip (.exit 1)) (.seq (.block 2 (.seq (.ops false [⟨⟨(some 75), (.mv (.tmp 73)), none⟩, none⟩, ⟨⟨(some 7), (.mv (.tmp 75)), none⟩, none⟩]) (.seq (.ops true [⟨⟨(some 76), (.fldA 2 (.tmp 4)), none⟩, none⟩, ⟨⟨(some 77), (.ld false 1 (.tmp 76)), none⟩, (some (.isl .i64))⟩, ⟨⟨(some 78), (.mv (.tmp 0)), none⟩, none⟩, ⟨⟨(some 79), (.mv (.tmp 7)), none⟩, none⟩, ⟨⟨(some 80), (.bin .mul (.c (.int .i64 (8))) (.tmp 79)), none⟩, none⟩, ⟨⟨(some 81), (.bin .add (.c (.int .i64 (8))) (.tmp 80)), none⟩, none⟩, ⟨⟨(some 82), (.mv (.tmp 7)), none⟩, none⟩, ⟨⟨(some 83), (.bin .add (.tmp 82) (.c (.int .i64 (1)))), none⟩, none⟩, ⟨⟨(some 84), (.bin .mul (.c (.int .i64 (8))) (.tmp 83)), none⟩, none⟩, ⟨⟨(some 85), (.bin .add (.c (.int .i64 (8))) (.tmp 84)), none⟩, none⟩, ⟨⟨(some 86), (.slc 1 (.tmp 78) (some (.tmp 81)) (some (.tmp 85)) none), none⟩, none⟩, ⟨⟨(some 87), (.call (.func 61) [(.tmp 86)]), none⟩, none⟩, ⟨⟨(some 88), (.bsl 3 (some .i64) 1 [(.tmp 87)]), none⟩, none⟩, ⟨⟨(some 89), (.app 3 (some .i64) 1 8 (.tmp 77) (.tmp 88)), none⟩, none⟩, ⟨⟨(some 90), (.fldA 2 (.tmp 4)), none⟩, none⟩, ⟨⟨none, (.st 1 (.tmp 90) (.tmp 89)), none⟩, none⟩]) (.ops true [⟨⟨(some 91), (.fldA 3 (.tmp 4)), none⟩, none⟩, ⟨⟨(some 92), (.ld false 1 (.tmp 91)), none⟩, (some (.isl .i64))⟩, ⟨⟨(some 93), (.mv (.tmp 0)), none⟩, none⟩, ⟨⟨(some 94), (.mv (.tmp 5)), none⟩, none⟩, ⟨⟨(some 95), (.mv (.tmp 7)), none⟩, none⟩, ⟨⟨(some 96), (.bin .add (.tmp 94) (.tmp 95)), none⟩, none⟩, ⟨⟨(some 97), (.bin .mul (.c (.int .i64 (8))) (.tmp 96)), none⟩, none⟩, ⟨⟨(some 98), (.bin .add (.c (.int .i64 (8))) (.tmp 97)), none⟩, none⟩, ⟨⟨(some 99), (.mv (.tmp 5)), none⟩, none⟩, ⟨⟨(some 100), (.mv (.tmp 7)), none⟩, none⟩, ⟨⟨(some 101), (.bin .add (.tmp 99) (.tmp 100)), none⟩, none⟩, ⟨⟨(some 102), (.bin .add (.tmp 101) (.c (.int .i64 (1)))), none⟩, none⟩, ⟨⟨(some 103), (.bin .mul (.c (.int .i64 (8))) (.tmp 102)), none⟩, none⟩, ⟨⟨(some 104), (.bin .add (.c (.int .i64 (8))) (.tmp 103)), none⟩, none⟩, ⟨⟨(some 105), (.slc 1 (.tmp 93) (some (.tmp 98)) (some (.tmp 104)) none), none⟩, none⟩, ⟨⟨(some 106), (.call (.func 61) [(.tmp 105)]), none⟩, none⟩, ⟨⟨(some 107), (.bsl 3 (some .i64) 1 [(.tmp 106)]), none⟩, none⟩, ⟨⟨(some 108), (.app 3 (some .i64) 1 8 (.tmp 92) (.tmp 107)), none⟩, none⟩, ⟨⟨(some 109), (.fldA 3 (.tmp 4)), none⟩, none⟩, ⟨⟨none, (.st 1 (.tmp 109) (.tmp 108)), none⟩, none⟩])))) (.ops false [⟨⟨(some 110), (.bin .add (.tmp 73) (.c (.int .i64 (1)))), none⟩, none⟩, ⟨⟨(some 73), (.mv (.tmp 110)), none⟩, none⟩]))))
def xr_report_Decode : XR := (.seq (.ops false [⟨⟨(some 2), (.alloc 46 [(.int .i64 (0)), (.int .i64 (0)), (.isl true true .i64 []), (.isl true true .i64 [])]), none⟩, none⟩, ⟨⟨(some 3), (.mv (.c (.int .i64 (0)))), none⟩, none⟩]) (.seq (.seq (.ops false [⟨⟨(some 8), (.mv (.tmp 0)), none⟩, none⟩, ⟨⟨(some 9), (.len (.tmp 8)), none⟩, none⟩, ⟨⟨(some 10), (.bin .lss (.tmp 9) (.c (.int .i64 (12)))), none⟩, none⟩]) (.cond (.tmp 10) (.seq (.ops false [⟨⟨(some 11), (.build [(.int .i64 (0)), (.int .i64 (0)), (.isl true true .i64 []), (.isl true true .i64 [])] []), none⟩, none⟩, ⟨⟨none, (.st 4 (.tmp 2) (.tmp 11)), none⟩, none⟩, ⟨⟨(some 3), (.mv (.c (.int .i64 (2)))), none⟩, none⟩]) .ret) .skip)) (.seq (.ops true [⟨⟨(some 12), (.mv (.tmp 0)), none⟩, none⟩, ⟨⟨(some 13), (.ixA 1 (.tmp 12) (.c (.int .i64 (2)))), none⟩, none⟩, ⟨⟨(some 14), (.ld false 1 (.tmp 13)), none⟩, (some (.int .u8))⟩, ⟨⟨(some 15), (.cvtI .i64 (.tmp 14)), none⟩, none⟩, ⟨⟨(some 16), (.mv (.tmp 0)), none⟩, none⟩, ⟨⟨(some 17), (.slc 1 (.tmp 16) (some (.c (.int .i64 (4)))) (some (.c (.int .i64 (8)))) none), none⟩, none⟩, ⟨⟨(some 18), (.call (.func 61) [(.tmp 17)]), none⟩, none⟩, ⟨⟨(some 19), (.build [(.int .i64 (0)), (.int .i64 (0)), (.isl true true .i64 []), (.isl true true .i64 [])] [(0, (1, (.tmp 15))), (1, (1, (.tmp 18)))]), none⟩, none⟩, ⟨⟨(some 4), (.alloc 46 [(.int .i64 (0)), (.int .i64 (0)), (.isl true true .i64 []), (.isl true true .i64 [])]), none⟩, none⟩, ⟨⟨none, (.st 4 (.tmp 4) (.tmp 19)), none⟩, none⟩]) (.seq (.ops false [⟨⟨(some 20), (.mv (.tmp 0)), none⟩, none⟩, ⟨⟨(some 21), (.ixA 1 (.tmp 20) (.c (.int .i64 (3)))), none⟩, none⟩, ⟨⟨(some 22), (.ld false 1 (.tmp 21)), none⟩, (some (.int .u8))⟩, ⟨⟨(some 23), (.cvtI .i64 (.tmp 22)), none⟩, none⟩, ⟨⟨(some 5), (.mv (.tmp 23)), none⟩, none⟩]) (.seq (.ops false [⟨⟨(some 24), (.mv (.tmp 5)), none⟩, none⟩, ⟨⟨(some 25), (.bin .mul (.c (.int .i64 (16))) (.tmp 24)), none⟩, none⟩, ⟨⟨(some 26), (.bin .add (.c (.int .i64 (8))) (.tmp 25)), none⟩, none⟩, ⟨⟨(some 6), (.mv (.tmp 26)), none⟩, none⟩]) (.seq (.block 0 (.seq (.ops false [⟨⟨(some 28), (.mv (.tmp 0)), none⟩, none⟩, ⟨⟨(some 29), (.slc 1 (.tmp 28) none (some (.c (.int .i64 (2)))) none), none⟩, none⟩, ⟨⟨(some 30), (.cvtBS (.tmp 29)), none⟩, none⟩, ⟨⟨(some 31), (.binS .neq (.tmp 30) (.c (.str [(78), (82)]))), none⟩, none⟩, ⟨⟨(some 32), (.mv (.tmp 31)), none⟩, none⟩, ⟨⟨(some 33), (.mv (.tmp 5)), (some (32, false))⟩, none⟩, ⟨⟨(some 34), (.bin .gtr (.tmp 33) (.c (.int .i64 (4)))), (some (32, false))⟩, none⟩, ⟨⟨(some 35), (.pick (.tmp 32) (.c (.bool true)) (.tmp 34)), none⟩, none⟩, ⟨⟨(some 36), (.mv (.tmp 35)), none⟩, none⟩, ⟨⟨(some 37), (.mv (.tmp 5)), (some (36, false))⟩, none⟩, ⟨⟨(some 38), (.bin .gtr (.tmp 37) (.c (.int .i64 (0)))), (some (36, false))⟩, none⟩, ⟨⟨(some 39), (.fldA 0 (.tmp 4)), (some (36, false))⟩, none⟩, ⟨⟨(some 40), (.ld false 1 (.tmp 39)), (some (36, false))⟩, (some (.int .i64))⟩, ⟨⟨(some 41), (.bin .and (.tmp 40) (.c (.int .i64 (32)))), (some (36, false))⟩, none⟩, ⟨⟨(some 42), (.bin .neq (.tmp 41) (.c (.int .i64 (0)))), (some (36, false))⟩, none⟩, ⟨⟨(some 43), (.binB true (.tmp 38) (.tmp 42)), (some (36, false))⟩, none⟩, ⟨⟨(some 44), (.pick (.tmp 36) (.c (.bool true)) (.tmp 43)), none⟩, none⟩, ⟨⟨(some 27), (.mv (.tmp 44)), none⟩, none⟩]) (.cond (.tmp 27) (.seq (.ops false [⟨⟨(some 45), (.build [(.int .i64 (0)), (.int .i64 (0)), (.isl true true .i64 []), (.isl true true .i64 [])] []), none⟩, none⟩, ⟨⟨none, (.st 4 (.tmp 2) (.tmp 45)), none⟩, none⟩, ⟨⟨(some 3), (.mv (.c (.int .i64 (4)))), none⟩, none⟩]) .ret) (.seq (.ops false [⟨⟨(some 47), (.mv (.tmp 0)), none⟩, none⟩, ⟨⟨(some 48), (.len (.tmp 47)), none⟩, none⟩, ⟨⟨(some 49), (.mv (.tmp 6)), none⟩, none⟩, ⟨⟨(some 50), (.bin .add (.tmp 49) (.c (.int .i64 (4)))), none⟩, none⟩, ⟨⟨(some 51), (.bin .lss (.tmp 48) (.tmp 50)), none⟩, none⟩, ⟨⟨(some 46), (.mv (.tmp 51)), none⟩, none⟩]) (.cond (.tmp 46) (.seq (.ops false [⟨⟨(some 52), (.build [(.int .i64 (0)), (.int .i64 (0)), (.isl true true .i64 []), (.isl true true .i64 [])] []), none⟩, none⟩, ⟨⟨none, (.st 4 (.tmp 2) (.tmp 52)), none⟩, none⟩, ⟨⟨(some 3), (.mv (.c (.int .i64 (2)))), none⟩, none⟩]) .ret) (.seq (.ops false [⟨⟨(some 54), (.mv (.tmp 0)), none⟩, none⟩, ⟨⟨(some 55), (.len (.tmp 54)), none⟩, none⟩, ⟨⟨(some 56), (.mv (.tmp 6)), none⟩, none⟩, ⟨⟨(some 57), (.bin .add (.tmp 56) (.c (.int .i64 (4)))), none⟩, none⟩, ⟨⟨(some 58), (.bin .gtr (.tmp 55) (.tmp 57)), none⟩, none⟩, ⟨⟨(some 53), (.mv (.tmp 58)), none⟩, none⟩]) (.cond (.tmp 53) (.seq (.ops false [⟨⟨(some 59), (.build [(.int .i64 (0)), (.int .i64 (0)), (.isl true true .i64 []), (.isl true true .i64 [])] []), none⟩, none⟩, ⟨⟨none, (.st 4 (.tmp 2) (.tmp 59)), none⟩, none⟩, ⟨⟨(some 3), (.mv (.c (.int .i64 (5)))), none⟩, none⟩]) .ret) (.seq (.ops true [⟨⟨(some 61), (.mv (.tmp 0)), none⟩, none⟩, ⟨⟨(some 62), (.mv (.tmp 6)), none⟩, none⟩, ⟨⟨(some 63), (.slc 1 (.tmp 61) (some (.tmp 62)) none none), none⟩, none⟩, ⟨⟨(some 64), (.call (.func 61) [(.tmp 63)]), none⟩, none⟩, ⟨⟨(some 65), (.mv (.tmp 0)), none⟩, none⟩, ⟨⟨(some 66), (.mv (.tmp 6)), none⟩, none⟩, ⟨⟨(some 67), (.slc 1 (.tmp 65) none (some (.tmp 66)) none), none⟩, none⟩, ⟨⟨(some 68), (.call (.func 48) [(.tmp 67)]), none⟩, none⟩, ⟨⟨(some 69), (.cvtI .i64 (.tmp 68)), none⟩, none⟩, ⟨⟨(some 70), (.bin .neq (.tmp 64) (.tmp 69)), none⟩, none⟩, ⟨⟨(some 60), (.mv (.tmp 70)), none⟩, none⟩]) (.cond (.tmp 60) (.seq (.ops false [⟨⟨(some 71), (.build [(.int .i64 (0)), (.int .i64 (0)), (.isl true true .i64 []), (.isl true true .i64 [])] []), none⟩, none⟩, ⟨⟨none, (.st 4 (.tmp 2) (.tmp 71)), none⟩, none⟩, ⟨⟨(some 3), (.mv (.c (.int .i64 (6)))), none⟩, none⟩]) .ret) .skip))))))))) (.seq (.seq (.ops false [⟨⟨(some 72), (.mv (.tmp 5)), none⟩, none⟩, ⟨⟨(some 73), (.mv (.c (.int .i64 (0)))), none⟩, none⟩]) (.block 1 (.loop 0 [0, 2, 4, 5, 72, 73] xb_report_Decode_0))) (.seq (.seq (.ops false [⟨⟨(some 111), (.ld true 4 (.tmp 4)), none⟩, (some (.agg [(.int .i64), (.int .i64), (.isl .i64), (.isl .i64)]))⟩, ⟨⟨(some 112), (.call (.func 35) [(.tmp 111)]), none⟩, none⟩, ⟨⟨(some 113), (.un .not (.tmp 112)), none⟩, none⟩]) (.cond (.tmp 113) (.seq (.ops false [⟨⟨(some 114), (.build [(.int .i64 (0)), (.int .i64 (0)), (.isl true true .i64 []), (.isl true true .i64 [])] []), none⟩, none⟩, ⟨⟨none, (.st 4 (.tmp 2) (.tmp 114)), none⟩, none⟩, ⟨⟨(some 3), (.mv (.c (.int .i64 (3)))), none⟩, none⟩]) .ret) .skip)) (.seq (.ops false [⟨⟨(some 115), (.ld true 4 (.tmp 4)), none⟩, (some (.agg [(.int .i64), (.int .i64), (.isl .i64), (.isl .i64)]))⟩, ⟨⟨none, (.st 4 (.tmp 2) (.tmp 115)), none⟩, none⟩, ⟨⟨(some 3), (.mv (.c (.int .i64 (0)))), none⟩, none⟩]) .ret)))))))))
def rs_report_Decode : List ResultVar := [(.cell 2 46), (.tmp 3)]
theorem ir_report_Decode : compCode Tryd.prog (Tryd.f36.body.getD .skip) [[0, 2, 4, 5, 72, 73]] = some (xr_report_Decode.erase, []) := by kernel_rfl
/-! report_Decode -/
def gm_report_Decode : Gam := (Gam.fn 61 as_report_get ga_report_get em_report_get (Gam.fn 48 as_sum_Of ga_sum_Of em_sum_Of (Gam.fn 35 as_report_Right ga_report_Right em_report_Right Gam.bot)))
theorem gk_report_Decode : GamOk Tryd.prog GG gm_report_Decode := (GamOk.fn at_report_get (GamOk.fn at_sum_Of (GamOk.fn at_report_Right GamOk.bot)))
def st_report_Decode_0 (b6 : Bool) (b7 : Bool) (l8 : List Int) (n9 : Int) (n10 : Int) (n11 : Int) (n12 : Int) (n13 : Int) (b14 : Bool) (b15 : Bool) (l16 : List Int) (b17 : Bool) (b18 : Bool) (l19 : List Int) (n20 : Int) (n21 : Int) (b22 : Bool) (b23 : Bool) (l24 : List Int) (b25 : Bool) (b26 : Bool) (l27 : List Int) : Option (((Bool × Bool × List Int × Int × Int × Int × Int × Int × Bool × Bool × List Int × Bool × Bool × List Int × Int × Int × Bool × Bool × List Int × Bool × Bool × List Int)) ⊕ (((Int × Int × Bool × Bool × List Int × Bool × Bool × List Int × Int × Int × Bool × Bool × List Int × Bool × Bool × List Int)))) :=
  bif (decide (n11 < n10)) then
   bif (decide (0 ≤ (IntKind.wrap .i64 (8 + (IntKind.wrap .i64 (8 * n11)))))) then
    bif (decide ((IntKind.wrap .i64 (8 + (IntKind.wrap .i64 (8 * n11)))) ≤ (IntKind.wrap .i64 (8 + (IntKind.wrap .i64 (8 * (IntKind.wrap .i64 (n11 + 1)))))))) then
     bif (decide ((IntKind.wrap .i64 (8 + (IntKind.wrap .i64 (8 * (IntKind.wrap .i64 (n11 + 1)))))) ≤ (((List.length l8) : Nat) : Int))) then
      (go_report_get b6 false (List.take (Int.toNat ((IntKind.wrap .i64 (8 + (IntKind.wrap .i64 (8 * (IntKind.wrap .i64 (n11 + 1)))))) - (IntKind.wrap .i64 (8 + (IntKind.wrap .i64 (8 * n11)))))) (List.drop (Int.toNat (IntKind.wrap .i64 (8 + (IntKind.wrap .i64 (8 * n11))))) l8))).bind fun r28 =>
      bif (decide ((((List.length l24) + 1) * 8) ≤ 140737488355328)) then
       bif (decide (((List.length l24) + 1) ≤ 4611686018427387904)) then
        bif (decide (0 ≤ (IntKind.wrap .i64 (8 + (IntKind.wrap .i64 (8 * (IntKind.wrap .i64 (n9 + n11)))))))) then
         bif (decide ((IntKind.wrap .i64 (8 + (IntKind.wrap .i64 (8 * (IntKind.wrap .i64 (n9 + n11)))))) ≤ (IntKind.wrap .i64 (8 + (IntKind.wrap .i64 (8 * (IntKind.wrap .i64 ((IntKind.wrap .i64 (n9 + n11)) + 1)))))))) then
          bif (decide ((IntKind.wrap .i64 (8 + (IntKind.wrap .i64 (8 * (IntKind.wrap .i64 ((IntKind.wrap .i64 (n9 + n11)) + 1)))))) ≤ (((List.length l8) : Nat) : Int))) then
           (go_report_get b6 false (List.take (Int.toNat ((IntKind.wrap .i64 (8 + (IntKind.wrap .i64 (8 * (IntKind.wrap .i64 ((IntKind.wrap .i64 (n9 + n11)) + 1)))))) - (IntKind.wrap .i64 (8 + (IntKind.wrap .i64 (8 * (IntKind.wrap .i64 (n9 + n11)))))))) (List.drop (Int.toNat (IntKind.wrap .i64 (8 + (IntKind.wrap .i64 (8 * (IntKind.wrap .i64 (n9 + n11))))))) l8))).bind fun r29 =>
           bif (decide ((((List.length l27) + 1) * 8) ≤ 140737488355328)) then
            bif (decide (((List.length l27) + 1) ≤ 4611686018427387904)) then
             some (Sum.inl (b6, b7, l8, n9, n10, (IntKind.wrap .i64 (n11 + 1)), n12, n13, b14, b15, l16, b17, b18, l19, n20, n21, (b22 && false), false, (l24 ++ [r28]), (b25 && false), false, (l27 ++ [r29])))
            else none
           else none
          else none
         else none
        else none
       else none
      else none
     else none
    else none
   else none
  else
   some (Sum.inr (n12, n13, b14, b15, l16, b17, b18, l19, n20, n21, b22, b23, l24, b25, b26, l27))
def lp_report_Decode_0 (b6 : Bool) (b7 : Bool) (l8 : List Int) (n9 : Int) (n10 : Int) (n11 : Int) (n12 : Int) (n13 : Int) (b14 : Bool) (b15 : Bool) (l16 : List Int) (b17 : Bool) (b18 : Bool) (l19 : List Int) (n20 : Int) (n21 : Int) (b22 : Bool) (b23 : Bool) (l24 : List Int) (b25 : Bool) (b26 : Bool) (l27 : List Int) : Option (((Int × Int × Bool × Bool × List Int × Bool × Bool × List Int × Int × Int × Bool × Bool × List Int × Bool × Bool × List Int))) := loopN (X := (Bool × Bool × List Int × Int × Int × Int × Int × Int × Bool × Bool × List Int × Bool × Bool × List Int × Int × Int × Bool × Bool × List Int × Bool × Bool × List Int)) (fun x => st_report_Decode_0 x.1 x.2.1 x.2.2.1 x.2.2.2.1 x.2.2.2.2.1 x.2.2.2.2.2.1 x.2.2.2.2.2.2.1 x.2.2.2.2.2.2.2.1 x.2.2.2.2.2.2.2.2.1 x.2.2.2.2.2.2.2.2.2.1 x.2.2.2.2.2.2.2.2.2.2.1 x.2.2.2.2.2.2.2.2.2.2.2.1 x.2.2.2.2.2.2.2.2.2.2.2.2.1 x.2.2.2.2.2.2.2.2.2.2.2.2.2.1 x.2.2.2.2.2.2.2.2.2.2.2.2.2.2.1 x.2.2.2.2.2.2.2.2.2.2.2.2.2.2.2.1 x.2.2.2.2.2.2.2.2.2.2.2.2.2.2.2.2.1 x.2.2.2.2.2.2.2.2.2.2.2.2.2.2.2.2.2.1 x.2.2.2.2.2.2.2.2.2.2.2.2.2.2.2.2.2.2.1 x.2.2.2.2.2.2.2.2.2.2.2.2.2.2.2.2.2.2.2.1 x.2.2.2.2.2.2.2.2.2.2.2.2.2.2.2.2.2.2.2.2.1 x.2.2.2.2.2.2.2.2.2.2.2.2.2.2.2.2.2.2.2.2.2) (b6, b7, l8, n9, n10, n11, n12, n13, b14, b15, l16, b17, b18, l19, n20, n21, b22, b23, l24, b25, b26, l27)
def sh_report_Decode_0 : StSh := ⟨116, [(0, (.p (.isl .u8))), (2, (.ptr 0 0)), (4, (.ptr 1 0)), (5, (.p (.int .i64))), (72, (.p (.int .i64))), (73, (.p (.int .i64)))], [(.box 46 [(.p (.int .i64)), (.p (.int .i64)), (.p (.isl .i64)), (.p (.isl .i64))]), (.box 46 [(.p (.int .i64)), (.p (.int .i64)), (.row 2), (.row 3)]), (.irow 3 .i64), (.irow 3 .i64)]⟩
def sx_report_Decode_0 (x : (Bool × Bool × List Int × Int × Int × Int × Int × Int × Bool × Bool × List Int × Bool × Bool × List Int × Int × Int × Bool × Bool × List Int × Bool × Bool × List Int)) : St := ⟨slots 116 0 [(0, (.p (.isl x.1 x.2.1 .u8 x.2.2.1))), (2, (.ptr 0 0)), (4, (.ptr 1 0)), (5, (.p (.int .i64 x.2.2.2.1))), (72, (.p (.int .i64 x.2.2.2.2.1))), (73, (.p (.int .i64 x.2.2.2.2.2.1)))], [(.box 46 [(.p (.int .i64 x.2.2.2.2.2.2.1)), (.p (.int .i64 x.2.2.2.2.2.2.2.1)), (.p (.isl x.2.2.2.2.2.2.2.2.1 x.2.2.2.2.2.2.2.2.2.1 .i64 x.2.2.2.2.2.2.2.2.2.2.1)), (.p (.isl x.2.2.2.2.2.2.2.2.2.2.2.1 x.2.2.2.2.2.2.2.2.2.2.2.2.1 .i64 x.2.2.2.2.2.2.2.2.2.2.2.2.2.1))]), (.box 46 [(.p (.int .i64 x.2.2.2.2.2.2.2.2.2.2.2.2.2.2.1)), (.p (.int .i64 x.2.2.2.2.2.2.2.2.2.2.2.2.2.2.2.1)), (.row 2), (.row 3)]), (.irow 3 .i64 x.2.2.2.2.2.2.2.2.2.2.2.2.2.2.2.2.1 x.2.2.2.2.2.2.2.2.2.2.2.2.2.2.2.2.2.1 x.2.2.2.2.2.2.2.2.2.2.2.2.2.2.2.2.2.2.1), (.irow 3 .i64 x.2.2.2.2.2.2.2.2.2.2.2.2.2.2.2.2.2.2.2.1 x.2.2.2.2.2.2.2.2.2.2.2.2.2.2.2.2.2.2.2.2.1 x.2.2.2.2.2.2.2.2.2.2.2.2.2.2.2.2.2.2.2.2.2)]⟩
def sa_report_Decode_0 (S : St) : (Bool × Bool × List Int × Int × Int × Int × Int × Int × Bool × Bool × List Int × Bool × Bool × List Int × Int × Int × Bool × Bool × List Int × Bool × Bool × List Int) := (((tls 0 S.t).headD .any).pv.nl, ((tls 0 S.t).headD .any).pv.ex, ((tls 0 S.t).headD .any).pv.ints, ((tls 5 S.t).headD .any).pv.num, ((tls 72 S.t).headD .any).pv.num, ((tls 73 S.t).headD .any).pv.num, (((tls 0 S.own).headD .gone).subs.headD .any).pv.num, (((tls 0 S.own).headD .gone).subs.tail.headD .any).pv.num, (((tls 0 S.own).headD .gone).subs.tail.tail.headD .any).pv.nl, (((tls 0 S.own).headD .gone).subs.tail.tail.headD .any).pv.ex, (((tls 0 S.own).headD .gone).subs.tail.tail.headD .any).pv.ints, (((tls 0 S.own).headD .gone).subs.tail.tail.tail.headD .any).pv.nl, (((tls 0 S.own).headD .gone).subs.tail.tail.tail.headD .any).pv.ex, (((tls 0 S.own).headD .gone).subs.tail.tail.tail.headD .any).pv.ints, (((tls 1 S.own).headD .gone).subs.headD .any).pv.num, (((tls 1 S.own).headD .gone).subs.tail.headD .any).pv.num, ((tls 2 S.own).headD .gone).pvD.nl, ((tls 2 S.own).headD .gone).pvD.ex, ((tls 2 S.own).headD .gone).pvD.ints, ((tls 3 S.own).headD .gone).pvD.nl, ((tls 3 S.own).headD .gone).pvD.ex, ((tls 3 S.own).headD .gone).pvD.ints)
def tz_report_Decode_0_0 : StSh := ⟨116, [(2, (.ptr 0 0)), (4, (.ptr 1 0))], [(.box 46 [(.p (.int .i64)), (.p (.int .i64)), (.p (.isl .i64)), (.p (.isl .i64))]), (.box 46 [(.p (.int .i64)), (.p (.int .i64)), (.row 2), (.row 3)]), (.irow 3 .i64), (.irow 3 .i64)]⟩
def tx_report_Decode_0_0 (x : (Int × Int × Bool × Bool × List Int × Bool × Bool × List Int × Int × Int × Bool × Bool × List Int × Bool × Bool × List Int)) : St := ⟨slots 116 0 [(2, (.ptr 0 0)), (4, (.ptr 1 0))], [(.box 46 [(.p (.int .i64 x.1)), (.p (.int .i64 x.2.1)), (.p (.isl x.2.2.1 x.2.2.2.1 .i64 x.2.2.2.2.1)), (.p (.isl x.2.2.2.2.2.1 x.2.2.2.2.2.2.1 .i64 x.2.2.2.2.2.2.2.1))]), (.box 46 [(.p (.int .i64 x.2.2.2.2.2.2.2.2.1)), (.p (.int .i64 x.2.2.2.2.2.2.2.2.2.1)), (.row 2), (.row 3)]), (.irow 3 .i64 x.2.2.2.2.2.2.2.2.2.2.1 x.2.2.2.2.2.2.2.2.2.2.2.1 x.2.2.2.2.2.2.2.2.2.2.2.2.1), (.irow 3 .i64 x.2.2.2.2.2.2.2.2.2.2.2.2.2.1 x.2.2.2.2.2.2.2.2.2.2.2.2.2.2.1 x.2.2.2.2.2.2.2.2.2.2.2.2.2.2.2)]⟩
def ta_report_Decode_0_0 (S : St) : (Int × Int × Bool × Bool × List Int × Bool × Bool × List Int × Int × Int × Bool × Bool × List Int × Bool × Bool × List Int) := ((((tls 0 S.own).headD .gone).subs.headD .any).pv.num, (((tls 0 S.own).headD .gone).subs.tail.headD .any).pv.num, (((tls 0 S.own).headD .gone).subs.tail.tail.headD .any).pv.nl, (((tls 0 S.own).headD .gone).subs.tail.tail.headD .any).pv.ex, (((tls 0 S.own).headD .gone).subs.tail.tail.headD .any).pv.ints, (((tls 0 S.own).headD .gone).subs.tail.tail.tail.headD .any).pv.nl, (((tls 0 S.own).headD .gone).subs.tail.tail.tail.headD .any).pv.ex, (((tls 0 S.own).headD .gone).subs.tail.tail.tail.headD .any).pv.ints, (((tls 1 S.own).headD .gone).subs.headD .any).pv.num, (((tls 1 S.own).headD .gone).subs.tail.headD .any).pv.num, ((tls 2 S.own).headD .gone).pvD.nl, ((tls 2 S.own).headD .gone).pvD.ex, ((tls 2 S.own).headD .gone).pvD.ints, ((tls 3 S.own).headD .gone).pvD.nl, ((tls 3 S.own).headD .gone).pvD.ex, ((tls 3 S.own).headD .gone).pvD.ints)
def kb_report_Decode_0 : Exit → St → Tree (((Bool × Bool × List Int × Int × Int × Int × Int × Int × Bool × Bool × List Int × Bool × Bool × List Int × Int × Int × Bool × Bool × List Int × Bool × Bool × List Int)) ⊕ (((Int × Int × Bool × Bool × List Int × Bool × Bool × List Int × Int × Int × Bool × Bool × List Int × Bool × Bool × List Int)))) := (exOne (.exit 1) [2, 4] tz_report_Decode_0_0 ta_report_Decode_0_0 (fun y => Sum.inr (y)) exNil)
def ky_report_Decode_0 : Dec (((Int × Int × Bool × Bool × List Int × Bool × Bool × List Int × Int × Int × Bool × Bool × List Int × Bool × Bool × List Int))) := fun _ y ke => ke ((.exit 1) : EK).ex (tx_report_Decode_0_0 y)
theorem kk_report_Decode_0 : ExOk Sum.inr kb_report_Decode_0 ky_report_Decode_0 := (ExOk.one (acc := ta_report_Decode_0_0) (bY := tx_report_Decode_0_0) (inj1 := fun y => y) (fun S => by kernel_rfl) (fun y _ ke => .inr (by kernel_rfl)) ExOk.nil)
def lm_report_Decode : Lam := fun _ j S kn ke => match j with
  | 0 => prepT [0, 2, 4, 5, 72, 73] [(100402, 3), (100403, 3)] S fun S => .chk (sh_report_Decode_0.ok S) (.bind (loopN (fun x => st_report_Decode_0 x.1 x.2.1 x.2.2.1 x.2.2.2.1 x.2.2.2.2.1 x.2.2.2.2.2.1 x.2.2.2.2.2.2.1 x.2.2.2.2.2.2.2.1 x.2.2.2.2.2.2.2.2.1 x.2.2.2.2.2.2.2.2.2.1 x.2.2.2.2.2.2.2.2.2.2.1 x.2.2.2.2.2.2.2.2.2.2.2.1 x.2.2.2.2.2.2.2.2.2.2.2.2.1 x.2.2.2.2.2.2.2.2.2.2.2.2.2.1 x.2.2.2.2.2.2.2.2.2.2.2.2.2.2.1 x.2.2.2.2.2.2.2.2.2.2.2.2.2.2.2.1 x.2.2.2.2.2.2.2.2.2.2.2.2.2.2.2.2.1 x.2.2.2.2.2.2.2.2.2.2.2.2.2.2.2.2.2.1 x.2.2.2.2.2.2.2.2.2.2.2.2.2.2.2.2.2.2.1 x.2.2.2.2.2.2.2.2.2.2.2.2.2.2.2.2.2.2.2.1 x.2.2.2.2.2.2.2.2.2.2.2.2.2.2.2.2.2.2.2.2.1 x.2.2.2.2.2.2.2.2.2.2.2.2.2.2.2.2.2.2.2.2.2) (sa_report_Decode_0 S)) fun y => ky_report_Decode_0 _ y ke)
  | _ => .fail
theorem sr_report_Decode_0 (x : (Bool × Bool × List Int × Int × Int × Int × Int × Int × Bool × Bool × List Int × Bool × Bool × List Int × Int × Int × Bool × Bool × List Int × Bool × Bool × List Int)) : (ev GG gm_report_Decode lm_report_Decode xb_report_Decode_0 (sx_report_Decode_0 x) (fun S => forgetT [0, 2, 4, 5, 72, 73] S fun S => prepT [0, 2, 4, 5, 72, 73] [(100402, 3), (100403, 3)] S fun S => .chk (sh_report_Decode_0.ok S) (.leaf (.inl (sa_report_Decode_0 S)))) kb_report_Decode_0).run = st_report_Decode_0 x.1 x.2.1 x.2.2.1 x.2.2.2.1 x.2.2.2.2.1 x.2.2.2.2.2.1 x.2.2.2.2.2.2.1 x.2.2.2.2.2.2.2.1 x.2.2.2.2.2.2.2.2.1 x.2.2.2.2.2.2.2.2.2.1 x.2.2.2.2.2.2.2.2.2.2.1 x.2.2.2.2.2.2.2.2.2.2.2.1 x.2.2.2.2.2.2.2.2.2.2.2.2.1 x.2.2.2.2.2.2.2.2.2.2.2.2.2.1 x.2.2.2.2.2.2.2.2.2.2.2.2.2.2.1 x.2.2.2.2.2.2.2.2.2.2.2.2.2.2.2.1 x.2.2.2.2.2.2.2.2.2.2.2.2.2.2.2.2.1 x.2.2.2.2.2.2.2.2.2.2.2.2.2.2.2.2.2.1 x.2.2.2.2.2.2.2.2.2.2.2.2.2.2.2.2.2.2.1 x.2.2.2.2.2.2.2.2.2.2.2.2.2.2.2.2.2.2.2.1 x.2.2.2.2.2.2.2.2.2.2.2.2.2.2.2.2.2.2.2.2.1 x.2.2.2.2.2.2.2.2.2.2.2.2.2.2.2.2.2.2.2.2.2 := by kernel_rfl
theorem la_report_Decode_0 : LamAt Tryd.prog GG lm_report_Decode 0 (.loop [0, 2, 4, 5, 72, 73] xb_report_Decode_0.erase) := lam_loop (body := xb_report_Decode_0) (Λ' := lm_report_Decode) gk_report_Decode (⟨trivial, ⟨⟨trivial, trivial⟩, ⟨⟨trivial, ⟨trivial, trivial⟩⟩, trivial⟩⟩⟩) (fun S => (by kernel_rfl : sh_report_Decode_0.build S = sx_report_Decode_0 (sa_report_Decode_0 S))) kk_report_Decode_0 sr_report_Decode_0 (fun _ _ _ => rfl)
/-- report_Decode -/
def go_report_Decode (b0 : Bool) (b1 : Bool) (l2 : List Int) : Option (Int × Int × Bool × Bool × List Int × Bool × Bool × List Int × Int) :=
  bif (decide ((((List.length l2) : Nat) : Int) < 12)) then
   some (0, 0, true, true, [], true, true, [], 2)
  else
   bif (decide (2 < (((List.length l2) : Nat) : Int))) then
    bif (decide (2 < (List.length l2))) then
     bif (decide (8 ≤ (((List.length l2) : Nat) : Int))) then
      (go_report_get b0 false (List.take 4 (List.drop 4 l2))).bind fun r3 =>
      bif (decide (3 < (((List.length l2) : Nat) : Int))) then
       bif (decide (3 < (List.length l2))) then
        bif (decide (2 ≤ (((List.length l2) : Nat) : Int))) then
         bif (List.all (List.take 2 (List.drop 0 l2)) (fun x32 => (decide ((0 ≤ x32) ∧ (x32 < 256))))) then
          bif (!((List.take 2 (List.drop 0 l2)) == [78, 82])) then
           some (0, 0, true, true, [], true, true, [], 4)
          else
           bif (decide ((IntKind.wrap .i64 (List.getD l2 3 0)) > 4)) then
            some (0, 0, true, true, [], true, true, [], 4)
           else
            bif (!((decide ((IntKind.wrap .i64 (List.getD l2 3 0)) > 0)) == ((IntKind.wrap .i64 (bAnd .i64 (IntKind.wrap .i64 (List.getD l2 2 0)) 32)) != 0))) then
             some (0, 0, true, true, [], true, true, [], 4)
            else
             bif (decide ((((List.length l2) : Nat) : Int) < (IntKind.wrap .i64 ((IntKind.wrap .i64 (8 + (IntKind.wrap .i64 (16 * (IntKind.wrap .i64 (List.getD l2 3 0)))))) + 4)))) then
              some (0, 0, true, true, [], true, true, [], 2)
             else
              bif (decide ((((List.length l2) : Nat) : Int) > (IntKind.wrap .i64 ((IntKind.wrap .i64 (8 + (IntKind.wrap .i64 (16 * (IntKind.wrap .i64 (List.getD l2 3 0)))))) + 4)))) then
               some (0, 0, true, true, [], true, true, [], 5)
              else
               bif (decide (0 ≤ (IntKind.wrap .i64 (8 + (IntKind.wrap .i64 (16 * (IntKind.wrap .i64 (List.getD l2 3 0)))))))) then
                bif (decide ((IntKind.wrap .i64 (8 + (IntKind.wrap .i64 (16 * (IntKind.wrap .i64 (List.getD l2 3 0)))))) ≤ (((List.length l2) : Nat) : Int))) then
                 bif (decide ((((List.length l2) : Nat) : Int) ≤ (((List.length l2) : Nat) : Int))) then
                  (go_report_get b0 b1 (List.take (Int.toNat ((((List.length l2) : Nat) : Int) - (IntKind.wrap .i64 (8 + (IntKind.wrap .i64 (16 * (IntKind.wrap .i64 (List.getD l2 3 0)))))))) (List.drop (Int.toNat (IntKind.wrap .i64 (8 + (IntKind.wrap .i64 (16 * (IntKind.wrap .i64 (List.getD l2 3 0))))))) l2))).bind fun r4 =>
                  bif (decide (0 ≤ (IntKind.wrap .i64 (8 + (IntKind.wrap .i64 (16 * (IntKind.wrap .i64 (List.getD l2 3 0)))))))) then
                   bif (decide ((IntKind.wrap .i64 (8 + (IntKind.wrap .i64 (16 * (IntKind.wrap .i64 (List.getD l2 3 0)))))) ≤ (((List.length l2) : Nat) : Int))) then
                    (go_sum_Of b0 false (List.take (Int.toNat ((IntKind.wrap .i64 (8 + (IntKind.wrap .i64 (16 * (IntKind.wrap .i64 (List.getD l2 3 0)))))) - 0)) (List.drop 0 l2))).bind fun r5 =>
                    bif (r4 != (IntKind.wrap .i64 r5)) then
                     some (0, 0, true, true, [], true, true, [], 6)
                    else
                     (lp_report_Decode_0 b0 b1 l2 (IntKind.wrap .i64 (List.getD l2 3 0)) (IntKind.wrap .i64 (List.getD l2 3 0)) 0 0 0 true true [] true true [] (IntKind.wrap .i64 (List.getD l2 2 0)) r3 true true [] true true []).bind fun y30 =>
                     (go_report_Right y30.2.2.2.2.2.2.2.2.1 y30.2.2.2.2.2.2.2.2.2.1 y30.2.2.2.2.2.2.2.2.2.2.1 y30.2.2.2.2.2.2.2.2.2.2.2.1 y30.2.2.2.2.2.2.2.2.2.2.2.2.1 y30.2.2.2.2.2.2.2.2.2.2.2.2.2.1 y30.2.2.2.2.2.2.2.2.2.2.2.2.2.2.1 y30.2.2.2.2.2.2.2.2.2.2.2.2.2.2.2).bind fun r31 =>
                     bif (!r31) then
                      some (0, 0, true, true, [], true, true, [], 3)
                     else
                      some (y30.2.2.2.2.2.2.2.2.1, y30.2.2.2.2.2.2.2.2.2.1, y30.2.2.2.2.2.2.2.2.2.2.1, y30.2.2.2.2.2.2.2.2.2.2.2.1, y30.2.2.2.2.2.2.2.2.2.2.2.2.1, y30.2.2.2.2.2.2.2.2.2.2.2.2.2.1, y30.2.2.2.2.2.2.2.2.2.2.2.2.2.2.1, y30.2.2.2.2.2.2.2.2.2.2.2.2.2.2.2, 0)
                   else none
                  else none
                 else none
                else none
               else none
         else none
        else none
       else none
      else none
     else none
    else none
   else none
def em_report_Decode (r : (Int × Int × Bool × Bool × List Int × Bool × Bool × List Int × Int)) : PV := (.tup [(.agg [(.int .i64 r.1), (.int .i64 r.2.1), (.isl r.2.2.1 r.2.2.2.1 .i64 r.2.2.2.2.1), (.isl r.2.2.2.2.2.1 r.2.2.2.2.2.2.1 .i64 r.2.2.2.2.2.2.2.1)]), (.int .i64 r.2.2.2.2.2.2.2.2)])
def rh_report_Decode : Shp := (.tup [(.agg [(.int .i64), (.int .i64), (.isl .i64), (.isl .i64)]), (.int .i64)])
def ra_report_Decode (v : PV) : (Int × Int × Bool × Bool × List Int × Bool × Bool × List Int × Int) := (((v.subs.headD .nilSl).subs.headD .nilSl).num, ((v.subs.headD .nilSl).subs.tail.headD .nilSl).num, ((v.subs.headD .nilSl).subs.tail.tail.headD .nilSl).nl, ((v.subs.headD .nilSl).subs.tail.tail.headD .nilSl).ex, ((v.subs.headD .nilSl).subs.tail.tail.headD .nilSl).ints, ((v.subs.headD .nilSl).subs.tail.tail.tail.headD .nilSl).nl, ((v.subs.headD .nilSl).subs.tail.tail.tail.headD .nilSl).ex, ((v.subs.headD .nilSl).subs.tail.tail.tail.headD .nilSl).ints, (v.subs.tail.headD .nilSl).num)
def kf_report_Decode (v : PV) : Tree (Int × Int × Bool × Bool × List Int × Bool × Bool × List Int × Int) := .chk (rh_report_Decode.ok v) (.leaf (ra_report_Decode v))
theorem rn_report_Decode (b0 : Bool) (b1 : Bool) (l2 : List Int) : (ev GG gm_report_Decode lm_report_Decode xr_report_Decode ⟨slots 116 0 [(0, .p (.isl b0 b1 .u8 l2))], []⟩ (fun S => finT Tryd.prog rs_report_Decode S kf_report_Decode) (retT Tryd.prog rs_report_Decode kf_report_Decode)).run = go_report_Decode b0 b1 l2 := by kernel_rfl
theorem ok_report_Decode (b0 : Bool) (b1 : Bool) (l2 : List Int) (r : (Int × Int × Bool × Bool × List Int × Bool × Bool × List Int × Int)) (h : go_report_Decode b0 b1 l2 = some r) : FunEq Tryd.prog GG 36 [(.isl b0 b1 .u8 l2)] (em_report_Decode r) :=
  fun_of_ev (x := xr_report_Decode) (Λ := lm_report_Decode) gk_report_Decode [[0, 2, 4, 5, 72, 73]] Tryd.func36 rfl (by kernel_rfl) ir_report_Decode (by kernel_rfl) (congrArg Array.toList Tryd.results36) Tryd.ntmps36 (⟨trivial, ⟨⟨trivial, ⟨⟨trivial, trivial⟩, trivial⟩⟩, ⟨trivial, ⟨trivial, ⟨trivial, ⟨⟨trivial, ⟨⟨trivial, trivial⟩, ⟨trivial, ⟨⟨trivial, trivial⟩, ⟨trivial, ⟨⟨trivial, trivial⟩, ⟨trivial, ⟨⟨trivial, trivial⟩, trivial⟩⟩⟩⟩⟩⟩⟩⟩, ⟨⟨trivial, la_report_Decode_0⟩, ⟨⟨trivial, ⟨⟨trivial, trivial⟩, trivial⟩⟩, ⟨trivial, trivial⟩⟩⟩⟩⟩⟩⟩⟩⟩) (leaf_of fun v => (by kernel_rfl : rh_report_Decode.build v = em_report_Decode (ra_report_Decode v))) (by kernel_rfl) ((rn_report_Decode b0 b1 l2).trans h)
def as_report_Decode : List Shp := [(.isl .u8)]
def ga_report_Decode (vs : List PV) : Option (Int × Int × Bool × Bool × List Int × Bool × Bool × List Int × Int) := go_report_Decode ((tls 0 vs).headD .nilSl).nl ((tls 0 vs).headD .nilSl).ex ((tls 0 vs).headD .nilSl).ints
theorem at_report_Decode : FnAt Tryd.prog GG 36 as_report_Decode ga_report_Decode em_report_Decode := fun vs h r hr => by
  have e : Shp.buildL as_report_Decode vs = [(.isl ((tls 0 vs).headD .nilSl).nl ((tls 0 vs).headD .nilSl).ex .u8 ((tls 0 vs).headD .nilSl).ints)] := by kernel_rfl
  rw [← Shp.buildL_eq _ h, e]
  exact .inl ⟨by decide, ok_report_Decode _ _ _ r hr⟩

def xr_watch_Right : XR := (.seq (.ops false [⟨⟨(some 1), (.box 78 (.tmp 0)), none⟩, none⟩, ⟨⟨(some 2), (.mv (.c (.bool false))), none⟩, none⟩]) (.seq (.block 0 (.seq (.ops false [⟨⟨(some 4), (.fldA 0 (.tmp 1)), none⟩, none⟩, ⟨⟨(some 5), (.ld false 1 (.tmp 4)), none⟩, (some (.int .i64))⟩, ⟨⟨(some 6), (.bin .lss (.tmp 5) (.c (.int .i64 (0)))), none⟩, none⟩, ⟨⟨(some 7), (.mv (.tmp 6)), none⟩, none⟩, ⟨⟨(some 8), (.fldA 0 (.tmp 1)), (some (7, false))⟩, none⟩, ⟨⟨(some 9), (.ld false 1 (.tmp 8)), (some (7, false))⟩, (some (.int .i64))⟩, ⟨⟨(some 10), (.bin .gtr (.tmp 9) (.c (.int .i64 (3)))), (some (7, false))⟩, none⟩, ⟨⟨(some 11), (.pick (.tmp 7) (.c (.bool true)) (.tmp 10)), none⟩, none⟩, ⟨⟨(some 12), (.mv (.tmp 11)), none⟩, none⟩, ⟨⟨(some 13), (.fldA 1 (.tmp 1)), (some (12, false))⟩, none⟩, ⟨⟨(some 14), (.ld false 1 (.tmp 13)), (some (12, false))⟩, (some (.int .i64))⟩, ⟨⟨(some 15), (.bin .lss (.tmp 14) (.c (.int .i64 (0)))), (some (12, false))⟩, none⟩, ⟨⟨(some 16), (.pick (.tmp 12) (.c (.bool true)) (.tmp 15)), none⟩, none⟩, ⟨⟨(some 17), (.mv (.tmp 16)), none⟩, none⟩, ⟨⟨(some 18), (.fldA 1 (.tmp 1)), (some (17, false))⟩, none⟩, ⟨⟨(some 19), (.ld false 1 (.tmp 18)), (some (17, false))⟩, (some (.int .i64))⟩, ⟨⟨(some 20), (.bin .gtr (.tmp 19) (.c (.int .i64 (1)))), (some (17, false))⟩, none⟩, ⟨⟨(some 21), (.pick (.tmp 17) (.c (.bool true)) (.tmp 20)), none⟩, none⟩, ⟨⟨(some 22), (.mv (.tmp 21)), none⟩, none⟩, ⟨⟨(some 23), (.fldA 2 (.tmp 1)), (some (22, false))⟩, none⟩, ⟨⟨(some 24), (.ld false 1 (.tmp 23)), (some (22, false))⟩, (some (.int .i64))⟩, ⟨⟨(some 25), (.bin .lss (.tmp 24) (.c (.int .i64 (0)))), (some (22, false))⟩, none⟩, ⟨⟨(some 26), (.pick (.tmp 22) (.c (.bool true)) (.tmp 25)), none⟩, none⟩, ⟨⟨(some 27), (.mv (.tmp 26)), none⟩, none⟩, ⟨⟨(some 28), (.fldA 2 (.tmp 1)), (some (27, false))⟩, none⟩, ⟨⟨(some 29), (.ld false 1 (.tmp 28)), (some (27, false))⟩, (some (.int .i64))⟩, ⟨⟨(some 30), (.bin .gtr (.tmp 29) (.c (.int .i64 (3)))), (some (27, false))⟩, none⟩, ⟨⟨(some 31), (.pick (.tmp 27) (.c (.bool true)) (.tmp 30)), none⟩, none⟩, ⟨⟨(some 3), (.mv (.tmp 31)), none⟩, none⟩]) (.cond (.tmp 3) (.seq (.ops false [⟨⟨(some 2), (.mv (.c (.bool false))), none⟩, none⟩]) .ret) (.seq (.ops false [⟨⟨(some 33), (.fldA 3 (.tmp 1)), none⟩, none⟩, ⟨⟨(some 34), (.ld false 1 (.tmp 33)), none⟩, (some (.int .i64))⟩, ⟨⟨(some 35), (.bin .lss (.tmp 34) (.c (.int .i64 (0)))), none⟩, none⟩, ⟨⟨(some 36), (.mv (.tmp 35)), none⟩, none⟩, ⟨⟨(some 37), (.fldA 3 (.tmp 1)), (some (36, false))⟩, none⟩, ⟨⟨(some 38), (.ld false 1 (.tmp 37)), (some (36, false))⟩, (some (.int .i64))⟩, ⟨⟨(some 39), (.bin .gtr (.tmp 38) (.c (.int .i64 (65537)))), (some (36, false))⟩, none⟩, ⟨⟨(some 40), (.pick (.tmp 36) (.c (.bool true)) (.tmp 39)), none⟩, none⟩, ⟨⟨(some 41), (.mv (.tmp 40)), none⟩, none⟩, ⟨⟨(some 42), (.fldA 3 (.tmp 1)), (some (41, false))⟩, none⟩, ⟨⟨(some 43), (.ld false 1 (.tmp 42)), (some (41, false))⟩, (some (.int .i64))⟩, ⟨⟨(some 44), (.bin .gtr (.tmp 43) (.c (.int .i64 (65536)))), (some (41, false))⟩, none⟩, ⟨⟨(some 45), (.mv (.tmp 44)), (some (41, false))⟩, none⟩, ⟨⟨(some 46), (.fldA 0 (.tmp 1)), (some (45, true))⟩, none⟩, ⟨⟨(some 47), (.ld false 1 (.tmp 46)), (some (45, true))⟩, (some (.int .i64))⟩, ⟨⟨(some 48), (.bin .neq (.tmp 47) (.c (.int .i64 (3)))), (some (45, true))⟩, none⟩, ⟨⟨(some 49), (.pick (.tmp 45) (.tmp 48) (.c (.bool false))), (some (41, false))⟩, none⟩, ⟨⟨(some 50), (.pick (.tmp 41) (.c (.bool true)) (.tmp 49)), none⟩, none⟩, ⟨⟨(some 51), (.mv (.tmp 50)), none⟩, none⟩, ⟨⟨(some 52), (.fldA 0 (.tmp 1)), (some (51, false))⟩, none⟩, ⟨⟨(some 53), (.ld false 1 (.tmp 52)), (some (51, false))⟩, (some (.int .i64))⟩, ⟨⟨(some 54), (.bin .eql (.tmp 53) (.c (.int .i64 (1)))), (some (51, false))⟩, none⟩, ⟨⟨(some 55), (.mv (.tmp 54)), (some (51, false))⟩, none⟩, ⟨⟨(some 56), (.fldA 2 (.tmp 1)), (some (55, true))⟩, none⟩, ⟨⟨(some 57), (.ld false 1 (.tmp 56)), (some (55, true))⟩, (some (.int .i64))⟩, ⟨⟨(some 58), (.bin .eql (.tmp 57) (.c (.int .i64 (3)))), (some (55, true))⟩, none⟩, ⟨⟨(some 59), (.pick (.tmp 55) (.tmp 58) (.c (.bool false))), (some (51, false))⟩, none⟩, ⟨⟨(some 60), (.pick (.tmp 51) (.c (.bool true)) (.tmp 59)), none⟩, none⟩, ⟨⟨(some 32), (.mv (.tmp 60)), none⟩, none⟩]) (.cond (.tmp 32) (.seq (.ops false [⟨⟨(some 2), (.mv (.c (.bool false))), none⟩, none⟩]) .ret) .skip))))) (.seq (.ops false [⟨⟨(some 61), (.fldA 0 (.tmp 1)), none⟩, none⟩, ⟨⟨(some 62), (.ld false 1 (.tmp 61)), none⟩, (some (.int .i64))⟩, ⟨⟨(some 63), (.bin .neq (.tmp 62) (.c (.int .i64 (0)))), none⟩, none⟩, ⟨⟨(some 64), (.mv (.tmp 63)), none⟩, none⟩, ⟨⟨(some 65), (.ld true 4 (.tmp 1)), (some (64, false))⟩, (some (.agg [(.int .i64), (.int .i64), (.int .i64), (.int .i64)]))⟩, ⟨⟨(some 66), (.build [(.int .i64 (0)), (.int .i64 (0)), (.int .i64 (0)), (.int .i64 (0))] []), (some (64, false))⟩, none⟩, ⟨⟨(some 67), (.eqAgg false [(.int .i64), (.int .i64), (.int .i64), (.int .i64)] (.tmp 65) (.tmp 66)), (some (64, false))⟩, none⟩, ⟨⟨(some 68), (.pick (.tmp 64) (.c (.bool true)) (.tmp 67)), none⟩, none⟩, ⟨⟨(some 2), (.mv (.tmp 68)), none⟩, none⟩]) .ret)))
def rs_watch_Right : List ResultVar := [(.tmp 2)]
theorem ir_watch_Right : compCode Tryd.prog (Tryd.f68.body.getD .skip) [] = some (xr_watch_Right.erase, []) := by kernel_rfl
/-! watch_Right -/
def gm_watch_Right : Gam := Gam.bot
theorem gk_watch_Right : GamOk Tryd.prog GG gm_watch_Right := GamOk.bot
def lm_watch_Right : Lam := fun _ j S kn ke => match j with
  | _ => .fail
/-- watch_Right -/
def go_watch_Right (n0 : Int) (n1 : Int) (n2 : Int) (n3 : Int) : Option Bool :=
  bif (decide (n0 < 0)) then
   some false
  else
   bif (decide (n0 > 3)) then
    some false
   else
    bif (decide (n1 < 0)) then
     some false
    else
     bif (decide (n1 > 1)) then
      some false
     else
      bif (decide (n2 < 0)) then
       some false
      else
       bif (decide (n2 > 3)) then
        some false
       else
        bif (decide (n3 < 0)) then
         some false
        else
         bif (decide (n3 > 65537)) then
          some false
         else
          bif (decide (n3 > 65536)) then
           bif (n0 != 3) then
            some false
           else
            bif (n0 == 1) then
             bif (n2 == 3) then
              some false
             else
              bif (n0 != 0) then
               some true
              else
               some ((n0 == 0) && ((n1 == 0) && ((n2 == 0) && ((n3 == 0) && true))))
            else
             bif (n0 != 0) then
              some true
             else
              some ((n0 == 0) && ((n1 == 0) && ((n2 == 0) && ((n3 == 0) && true))))
          else
           bif (n0 == 1) then
            bif (n2 == 3) then
             some false
            else
             bif (n0 != 0) then
              some true
             else
              some ((n0 == 0) && ((n1 == 0) && ((n2 == 0) && ((n3 == 0) && true))))
           else
            bif (n0 != 0) then
             some true
            else
             some ((n0 == 0) && ((n1 == 0) && ((n2 == 0) && ((n3 == 0) && true))))
def em_watch_Right (r : Bool) : PV := (.bool r)
def rh_watch_Right : Shp := .bool
def ra_watch_Right (v : PV) : Bool := v.tru
def kf_watch_Right (v : PV) : Tree Bool := .chk (rh_watch_Right.ok v) (.leaf (ra_watch_Right v))
theorem rn_watch_Right (n0 : Int) (n1 : Int) (n2 : Int) (n3 : Int) : (ev GG gm_watch_Right lm_watch_Right xr_watch_Right ⟨slots 69 0 [(0, .p (.agg [(.int .i64 n0), (.int .i64 n1), (.int .i64 n2), (.int .i64 n3)]))], []⟩ (fun S => finT Tryd.prog rs_watch_Right S kf_watch_Right) (retT Tryd.prog rs_watch_Right kf_watch_Right)).run = go_watch_Right n0 n1 n2 n3 := by kernel_rfl
theorem ok_watch_Right (n0 : Int) (n1 : Int) (n2 : Int) (n3 : Int) (r : Bool) (h : go_watch_Right n0 n1 n2 n3 = some r) : FunEq Tryd.prog GG 68 [(.agg [(.int .i64 n0), (.int .i64 n1), (.int .i64 n2), (.int .i64 n3)])] (em_watch_Right r) :=
  fun_of_ev (x := xr_watch_Right) (Λ := lm_watch_Right) gk_watch_Right [] Tryd.func68 rfl (by kernel_rfl) ir_watch_Right (by kernel_rfl) (congrArg Array.toList Tryd.results68) Tryd.ntmps68 (⟨trivial, ⟨⟨trivial, ⟨⟨trivial, trivial⟩, ⟨trivial, ⟨⟨trivial, trivial⟩, trivial⟩⟩⟩⟩, ⟨trivial, trivial⟩⟩⟩) (leaf_of fun v => (by kernel_rfl : rh_watch_Right.build v = em_watch_Right (ra_watch_Right v))) (by kernel_rfl) ((rn_watch_Right n0 n1 n2 n3).trans h)
def as_watch_Right : List Shp := [(.agg [(.int .i64), (.int .i64), (.int .i64), (.int .i64)])]
def ga_watch_Right (vs : List PV) : Option Bool := go_watch_Right (((tls 0 vs).headD .nilSl).subs.headD .nilSl).num (((tls 0 vs).headD .nilSl).subs.tail.headD .nilSl).num (((tls 0 vs).headD .nilSl).subs.tail.tail.headD .nilSl).num (((tls 0 vs).headD .nilSl).subs.tail.tail.tail.headD .nilSl).num
theorem at_watch_Right : FnAt Tryd.prog GG 68 as_watch_Right ga_watch_Right em_watch_Right := fun vs h r hr => by
  have e : Shp.buildL as_watch_Right vs = [(.agg [(.int .i64 (((tls 0 vs).headD .nilSl).subs.headD .nilSl).num), (.int .i64 (((tls 0 vs).headD .nilSl).subs.tail.headD .nilSl).num), (.int .i64 (((tls 0 vs).headD .nilSl).subs.tail.tail.headD .nilSl).num), (.int .i64 (((tls 0 vs).headD .nilSl).subs.tail.tail.tail.headD .nilSl).num)])] := by kernel_rfl
  rw [← Shp.buildL_eq _ h, e]
  exact .inl ⟨by decide, ok_watch_Right _ _ _ _ r hr⟩

def xr_watch_Valid : XR := (.seq (.ops false [⟨⟨(some 1), (.box 78 (.tmp 0)), none⟩, none⟩, ⟨⟨(some 2), (.mv (.c (.bool false))), none⟩, none⟩]) (.seq (.ops false [⟨⟨(some 3), (.fldA 0 (.tmp 1)), none⟩, none⟩, ⟨⟨(some 4), (.ld false 1 (.tmp 3)), none⟩, (some (.int .i64))⟩, ⟨⟨(some 5), (.bin .eql (.tmp 4) (.c (.int .i64 (1)))), none⟩, none⟩, ⟨⟨(some 6), (.mv (.tmp 5)), none⟩, none⟩, ⟨⟨(some 7), (.fldA 0 (.tmp 1)), (some (6, false))⟩, none⟩, ⟨⟨(some 8), (.ld false 1 (.tmp 7)), (some (6, false))⟩, (some (.int .i64))⟩, ⟨⟨(some 9), (.bin .eql (.tmp 8) (.c (.int .i64 (2)))), (some (6, false))⟩, none⟩, ⟨⟨(some 10), (.pick (.tmp 6) (.c (.bool true)) (.tmp 9)), none⟩, none⟩, ⟨⟨(some 2), (.mv (.tmp 10)), none⟩, none⟩]) .ret))
def rs_watch_Valid : List ResultVar := [(.tmp 2)]
theorem ir_watch_Valid : compCode Tryd.prog (Tryd.f69.body.getD .skip) [] = some (xr_watch_Valid.erase, []) := by kernel_rfl
/-! watch_Valid -/
def gm_watch_Valid : Gam := Gam.bot
theorem gk_watch_Valid : GamOk Tryd.prog GG gm_watch_Valid := GamOk.bot
def lm_watch_Valid : Lam := fun _ j S kn ke => match j with
  | _ => .fail
/-- watch_Valid -/
def go_watch_Valid (n0 : Int) (n1 : Int) (n2 : Int) (n3 : Int) : Option Bool :=
  bif (n0 == 1) then
   some true
  else
   some (n0 == 2)
def em_watch_Valid (r : Bool) : PV := (.bool r)
def rh_watch_Valid : Shp := .bool
def ra_watch_Valid (v : PV) : Bool := v.tru
def kf_watch_Valid (v : PV) : Tree Bool := .chk (rh_watch_Valid.ok v) (.leaf (ra_watch_Valid v))
theorem rn_watch_Valid (n0 : Int) (n1 : Int) (n2 : Int) (n3 : Int) : (ev GG gm_watch_Valid lm_watch_Valid xr_watch_Valid ⟨slots 11 0 [(0, .p (.agg [(.int .i64 n0), (.int .i64 n1), (.int .i64 n2), (.int .i64 n3)]))], []⟩ (fun S => finT Tryd.prog rs_watch_Valid S kf_watch_Valid) (retT Tryd.prog rs_watch_Valid kf_watch_Valid)).run = go_watch_Valid n0 n1 n2 n3 := by kernel_rfl
theorem ok_watch_Valid (n0 : Int) (n1 : Int) (n2 : Int) (n3 : Int) (r : Bool) (h : go_watch_Valid n0 n1 n2 n3 = some r) : FunEq Tryd.prog GG 69 [(.agg [(.int .i64 n0), (.int .i64 n1), (.int .i64 n2), (.int .i64 n3)])] (em_watch_Valid r) :=
  fun_of_ev (x := xr_watch_Valid) (Λ := lm_watch_Valid) gk_watch_Valid [] Tryd.func69 rfl (by kernel_rfl) ir_watch_Valid (by kernel_rfl) (congrArg Array.toList Tryd.results69) Tryd.ntmps69 (⟨trivial, ⟨trivial, trivial⟩⟩) (leaf_of fun v => (by kernel_rfl : rh_watch_Valid.build v = em_watch_Valid (ra_watch_Valid v))) (by kernel_rfl) ((rn_watch_Valid n0 n1 n2 n3).trans h)
def as_watch_Valid : List Shp := [(.agg [(.int .i64), (.int .i64), (.int .i64), (.int .i64)])]
def ga_watch_Valid (vs : List PV) : Option Bool := go_watch_Valid (((tls 0 vs).headD .nilSl).subs.headD .nilSl).num (((tls 0 vs).headD .nilSl).subs.tail.headD .nilSl).num (((tls 0 vs).headD .nilSl).subs.tail.tail.headD .nilSl).num (((tls 0 vs).headD .nilSl).subs.tail.tail.tail.headD .nilSl).num
theorem at_watch_Valid : FnAt Tryd.prog GG 69 as_watch_Valid ga_watch_Valid em_watch_Valid := fun vs h r hr => by
  have e : Shp.buildL as_watch_Valid vs = [(.agg [(.int .i64 (((tls 0 vs).headD .nilSl).subs.headD .nilSl).num), (.int .i64 (((tls 0 vs).headD .nilSl).subs.tail.headD .nilSl).num), (.int .i64 (((tls 0 vs).headD .nilSl).subs.tail.tail.headD .nilSl).num), (.int .i64 (((tls 0 vs).headD .nilSl).subs.tail.tail.tail.headD .nilSl).num)])] := by kernel_rfl
  rw [← Shp.buildL_eq _ h, e]
  exact .inl ⟨by decide, ok_watch_Valid _ _ _ _ r hr⟩

def xb_report_Health_0 : XR := (.seq (.ops false [⟨⟨(some 29), (.bin .lss (.tmp 28) (.c (.int .i64 (3)))), none⟩, none⟩]) (.seq (.cond (.tmp 29) .skip (.exit 0)) (.seq (.block 1 (.seq (.ops false [⟨⟨(some 30), (.mv (.tmp 28)), none⟩, none⟩, ⟨⟨(some 31), (.ixV false 1 3 (.tmp 27) (.tmp 28)), none⟩, none⟩, ⟨⟨(some 8), (.mv (.tmp 30)), none⟩, none⟩, ⟨⟨(some 9), (.mv (.tmp 31)), none⟩, none⟩]) (.seq (.ops false [⟨⟨(some 32), (.mv (.tmp 9)), none⟩, none⟩]) (.cond (.tmp 32) (.ops false [⟨⟨(some 33), (.mv (.tmp 7)), none⟩, none⟩, ⟨⟨(some 34), (.bsl 3 (some .i64) 1 [(.c (.int .i64 (8))), (.c (.int .i64 (16))), (.c (.int .i64 (32)))]), none⟩, none⟩, ⟨⟨(some 35), (.mv (.tmp 8)), none⟩, none⟩, ⟨⟨(some 36), (.ixA 1 (.tmp 34) (.tmp 35)), none⟩, none⟩, ⟨⟨(some 37), (.ld false 1 (.tmp 36)), none⟩, (some (.int .i64))⟩, ⟨⟨(some 38), (.bin .add (.tmp 33) (.tmp 37)), none⟩, none⟩, ⟨⟨(some 7), (.mv (.tmp 38)), none⟩, none⟩]) .skip)))) (.ops false [⟨⟨(some 39), (.bin .add (.tmp 28) (.c (.int .i64 (1)))), none⟩, none⟩, ⟨⟨(some 28), (.mv (.tmp 39)), none⟩, none⟩]))))
def xr_report_Health : XR := (.seq (.ops false [⟨⟨(some 3), (.box 78 (.tmp 0)), none⟩, none⟩, ⟨⟨(some 6), (.mv (.c (.int .i64 (0)))), none⟩, none⟩]) (.seq (.seq (.ops false [⟨⟨(some 10), (.ld true 4 (.tmp 3)), none⟩, (some (.agg [(.int .i64), (.int .i64), (.int .i64), (.int .i64)]))⟩, ⟨⟨(some 11), (.call (.func 68) [(.tmp 10)]), none⟩, none⟩, ⟨⟨(some 12), (.un .not (.tmp 11)), none⟩, none⟩]) (.cond (.tmp 12) (.seq (.ops false [⟨⟨(some 6), (.mv (.c (.int .i64 (0)))), none⟩, none⟩]) .ret) .skip)) (.seq (.ops false [⟨⟨(some 13), (.fldA 0 (.tmp 3)), none⟩, none⟩, ⟨⟨(some 14), (.ld false 1 (.tmp 13)), none⟩, (some (.int .i64))⟩, ⟨⟨(some 15), (.fldA 1 (.tmp 3)), none⟩, none⟩, ⟨⟨(some 16), (.ld false 1 (.tmp 15)), none⟩, (some (.int .i64))⟩, ⟨⟨(some 17), (.bin .mul (.c (.int .i64 (4))) (.tmp 16)), none⟩, none⟩, ⟨⟨(some 18), (.bin .add (.tmp 14) (.tmp 17)), none⟩, none⟩, ⟨⟨(some 19), (.fldA 2 (.tmp 3)), none⟩, none⟩, ⟨⟨(some 20), (.ld false 1 (.tmp 19)), none⟩, (some (.int .i64))⟩, ⟨⟨(some 21), (.bin .mul (.c (.int .i64 (64))) (.tmp 20)), none⟩, none⟩, ⟨⟨(some 22), (.bin .add (.tmp 18) (.tmp 21)), none⟩, none⟩, ⟨⟨(some 7), (.mv (.tmp 22)), none⟩, none⟩]) (.seq (.seq (.ops false [⟨⟨(some 23), (.mv (.tmp 1)), none⟩, none⟩, ⟨⟨(some 24), (.mv (.tmp 2)), none⟩, none⟩, ⟨⟨(some 25), (.ld true 4 (.tmp 3)), none⟩, (some (.agg [(.int .i64), (.int .i64), (.int .i64), (.int .i64)]))⟩, ⟨⟨(some 26), (.call (.func 69) [(.tmp 25)]), none⟩, none⟩, ⟨⟨(some 27), (.build [(.bool false), (.bool false), (.bool false)] [(0, (1, (.tmp 23))), (1, (1, (.tmp 24))), (2, (1, (.tmp 26)))]), none⟩, none⟩, ⟨⟨(some 28), (.mv (.c (.int .i64 (0)))), none⟩, none⟩]) (.block 0 (.loop 0 [7, 27, 28] xb_report_Health_0))) (.seq (.ops false [⟨⟨(some 40), (.mv (.tmp 7)), none⟩, none⟩, ⟨⟨(some 6), (.mv (.tmp 40)), none⟩, none⟩]) .ret)))))
def rs_report_Health : List ResultVar := [(.tmp 6)]
theorem ir_report_Health : compCode Tryd.prog (Tryd.f57.body.getD .skip) [[7, 27, 28]] = some (xr_report_Health.erase, []) := by kernel_rfl
/-! report_Health -/
def gm_report_Health : Gam := (Gam.fn 68 as_watch_Right ga_watch_Right em_watch_Right (Gam.fn 69 as_watch_Valid ga_watch_Valid em_watch_Valid Gam.bot))
theorem gk_report_Health : GamOk Tryd.prog GG gm_report_Health := (GamOk.fn at_watch_Right (GamOk.fn at_watch_Valid GamOk.bot))
def st_report_Health_0 (n8 : Int) (b9 : Bool) (b10 : Bool) (b11 : Bool) (n12 : Int) : Option (((Int × Bool × Bool × Bool × Int)) ⊕ ((Int))) :=
  bif (decide (n12 < 3)) then
   bif (decide (0 ≤ n12)) then
    bif (decide (n12 < ((3 : Nat) : Int))) then
     bif ((Int.toNat n12) == 0) then
      bif b9 then
       bif (decide (0 ≤ n12)) then
        bif (decide (n12 < ((3 : Nat) : Int))) then
         bif (decide ((Int.toNat n12) < 3)) then
          some (Sum.inl ((IntKind.wrap .i64 (n8 + (List.getD [8, 16, 32] (Int.toNat n12) 0))), b9, b10, b11, (IntKind.wrap .i64 (n12 + 1))))
         else none
        else none
       else none
      else
       some (Sum.inl (n8, b9, b10, b11, (IntKind.wrap .i64 (n12 + 1))))
     else
      bif ((Int.toNat n12) == 1) then
       bif b10 then
        bif (decide (0 ≤ n12)) then
         bif (decide (n12 < ((3 : Nat) : Int))) then
          bif (decide ((Int.toNat n12) < 3)) then
           some (Sum.inl ((IntKind.wrap .i64 (n8 + (List.getD [8, 16, 32] (Int.toNat n12) 0))), b9, b10, b11, (IntKind.wrap .i64 (n12 + 1))))
          else none
         else none
        else none
       else
        some (Sum.inl (n8, b9, b10, b11, (IntKind.wrap .i64 (n12 + 1))))
      else
       bif ((Int.toNat n12) == 2) then
        bif b11 then
         bif (decide (0 ≤ n12)) then
          bif (decide (n12 < ((3 : Nat) : Int))) then
           bif (decide ((Int.toNat n12) < 3)) then
            some (Sum.inl ((IntKind.wrap .i64 (n8 + (List.getD [8, 16, 32] (Int.toNat n12) 0))), b9, b10, b11, (IntKind.wrap .i64 (n12 + 1))))
           else none
          else none
         else none
        else
         some (Sum.inl (n8, b9, b10, b11, (IntKind.wrap .i64 (n12 + 1))))
       else
        none
    else none
   else none
  else
   some (Sum.inr n8)
def lp_report_Health_0 (n8 : Int) (b9 : Bool) (b10 : Bool) (b11 : Bool) (n12 : Int) : Option ((Int)) := loopN (X := (Int × Bool × Bool × Bool × Int)) (fun x => st_report_Health_0 x.1 x.2.1 x.2.2.1 x.2.2.2.1 x.2.2.2.2) (n8, b9, b10, b11, n12)
def sh_report_Health_0 : StSh := ⟨41, [(7, (.p (.int .i64))), (27, (.p (.agg [.bool, .bool, .bool]))), (28, (.p (.int .i64)))], []⟩
def sx_report_Health_0 (x : (Int × Bool × Bool × Bool × Int)) : St := ⟨slots 41 0 [(7, (.p (.int .i64 x.1))), (27, (.p (.agg [(.bool x.2.1), (.bool x.2.2.1), (.bool x.2.2.2.1)]))), (28, (.p (.int .i64 x.2.2.2.2)))], []⟩
def sa_report_Health_0 (S : St) : (Int × Bool × Bool × Bool × Int) := (((tls 7 S.t).headD .any).pv.num, (((tls 27 S.t).headD .any).pv.subs.headD .nilSl).tru, (((tls 27 S.t).headD .any).pv.subs.tail.headD .nilSl).tru, (((tls 27 S.t).headD .any).pv.subs.tail.tail.headD .nilSl).tru, ((tls 28 S.t).headD .any).pv.num)
def tz_report_Health_0_0 : StSh := ⟨41, [(7, (.p (.int .i64)))], []⟩
def tx_report_Health_0_0 (x : Int) : St := ⟨slots 41 0 [(7, (.p (.int .i64 x)))], []⟩
def ta_report_Health_0_0 (S : St) : Int := ((tls 7 S.t).headD .any).pv.num
def kb_report_Health_0 : Exit → St → Tree (((Int × Bool × Bool × Bool × Int)) ⊕ ((Int))) := (exOne (.exit 0) [7] tz_report_Health_0_0 ta_report_Health_0_0 (fun y => Sum.inr (y)) exNil)
def ky_report_Health_0 : Dec ((Int)) := fun _ y ke => ke ((.exit 0) : EK).ex (tx_report_Health_0_0 y)
theorem kk_report_Health_0 : ExOk Sum.inr kb_report_Health_0 ky_report_Health_0 := (ExOk.one (acc := ta_report_Health_0_0) (bY := tx_report_Health_0_0) (inj1 := fun y => y) (fun S => by kernel_rfl) (fun y _ ke => .inr (by kernel_rfl)) ExOk.nil)
def lm_report_Health : Lam := fun _ j S kn ke => match j with
  | 0 => prepT [7, 27, 28] [] S fun S => .chk (sh_report_Health_0.ok S) (.bind (loopN (fun x => st_report_Health_0 x.1 x.2.1 x.2.2.1 x.2.2.2.1 x.2.2.2.2) (sa_report_Health_0 S)) fun y => ky_report_Health_0 _ y ke)
  | _ => .fail
theorem sr_report_Health_0 (x : (Int × Bool × Bool × Bool × Int)) : (ev GG gm_report_Health lm_report_Health xb_report_Health_0 (sx_report_Health_0 x) (fun S => forgetT [7, 27, 28] S fun S => prepT [7, 27, 28] [] S fun S => .chk (sh_report_Health_0.ok S) (.leaf (.inl (sa_report_Health_0 S)))) kb_report_Health_0).run = st_report_Health_0 x.1 x.2.1 x.2.2.1 x.2.2.2.1 x.2.2.2.2 := by kernel_rfl
theorem la_report_Health_0 : LamAt Tryd.prog GG lm_report_Health 0 (.loop [7, 27, 28] xb_report_Health_0.erase) := lam_loop (body := xb_report_Health_0) (Λ' := lm_report_Health) gk_report_Health (⟨trivial, ⟨⟨trivial, trivial⟩, ⟨⟨trivial, ⟨trivial, ⟨trivial, trivial⟩⟩⟩, trivial⟩⟩⟩) (fun S => (by kernel_rfl : sh_report_Health_0.build S = sx_report_Health_0 (sa_report_Health_0 S))) kk_report_Health_0 sr_report_Health_0 (fun _ _ _ => rfl)
/-- report_Health -/
def go_report_Health (n0 : Int) (n1 : Int) (n2 : Int) (n3 : Int) (b4 : Bool) (b5 : Bool) : Option Int :=
  (go_watch_Right n0 n1 n2 n3).bind fun r6 =>
  bif (!r6) then
   some 0
  else
   (go_watch_Valid n0 n1 n2 n3).bind fun r7 =>
   (lp_report_Health_0 (IntKind.wrap .i64 ((IntKind.wrap .i64 (n0 + (IntKind.wrap .i64 (4 * n1)))) + (IntKind.wrap .i64 (64 * n2)))) b4 b5 r7 0).bind fun y13 =>
   some y13
def em_report_Health (r : Int) : PV := (.int .i64 r)
def rh_report_Health : Shp := (.int .i64)
def ra_report_Health (v : PV) : Int := v.num
def kf_report_Health (v : PV) : Tree Int := .chk (rh_report_Health.ok v) (.leaf (ra_report_Health v))
theorem rn_report_Health (n0 : Int) (n1 : Int) (n2 : Int) (n3 : Int) (b4 : Bool) (b5 : Bool) : (ev GG gm_report_Health lm_report_Health xr_report_Health ⟨slots 41 0 [(0, .p (.agg [(.int .i64 n0), (.int .i64 n1), (.int .i64 n2), (.int .i64 n3)])), (1, .p (.bool b4)), (2, .p (.bool b5))], []⟩ (fun S => finT Tryd.prog rs_report_Health S kf_report_Health) (retT Tryd.prog rs_report_Health kf_report_Health)).run = go_report_Health n0 n1 n2 n3 b4 b5 := by kernel_rfl
theorem ok_report_Health (n0 : Int) (n1 : Int) (n2 : Int) (n3 : Int) (b4 : Bool) (b5 : Bool) (r : Int) (h : go_report_Health n0 n1 n2 n3 b4 b5 = some r) : FunEq Tryd.prog GG 57 [(.agg [(.int .i64 n0), (.int .i64 n1), (.int .i64 n2), (.int .i64 n3)]), (.bool b4), (.bool b5)] (em_report_Health r) :=
  fun_of_ev (x := xr_report_Health) (Λ := lm_report_Health) gk_report_Health [[7, 27, 28]] Tryd.func57 rfl (by kernel_rfl) ir_report_Health (by kernel_rfl) (congrArg Array.toList Tryd.results57) Tryd.ntmps57 (⟨trivial, ⟨⟨trivial, ⟨⟨trivial, trivial⟩, trivial⟩⟩, ⟨trivial, ⟨⟨trivial, la_report_Health_0⟩, ⟨trivial, trivial⟩⟩⟩⟩⟩) (leaf_of fun v => (by kernel_rfl : rh_report_Health.build v = em_report_Health (ra_report_Health v))) (by kernel_rfl) ((rn_report_Health n0 n1 n2 n3 b4 b5).trans h)
def as_report_Health : List Shp := [(.agg [(.int .i64), (.int .i64), (.int .i64), (.int .i64)]), .bool, .bool]
def ga_report_Health (vs : List PV) : Option Int := go_report_Health (((tls 0 vs).headD .nilSl).subs.headD .nilSl).num (((tls 0 vs).headD .nilSl).subs.tail.headD .nilSl).num (((tls 0 vs).headD .nilSl).subs.tail.tail.headD .nilSl).num (((tls 0 vs).headD .nilSl).subs.tail.tail.tail.headD .nilSl).num ((tls 1 vs).headD .nilSl).tru ((tls 2 vs).headD .nilSl).tru
theorem at_report_Health : FnAt Tryd.prog GG 57 as_report_Health ga_report_Health em_report_Health := fun vs h r hr => by
  have e : Shp.buildL as_report_Health vs = [(.agg [(.int .i64 (((tls 0 vs).headD .nilSl).subs.headD .nilSl).num), (.int .i64 (((tls 0 vs).headD .nilSl).subs.tail.headD .nilSl).num), (.int .i64 (((tls 0 vs).headD .nilSl).subs.tail.tail.headD .nilSl).num), (.int .i64 (((tls 0 vs).headD .nilSl).subs.tail.tail.tail.headD .nilSl).num)]), (.bool ((tls 1 vs).headD .nilSl).tru), (.bool ((tls 2 vs).headD .nilSl).tru)] := by kernel_rfl
  rw [← Shp.buildL_eq _ h, e]
  exact .inl ⟨by decide, ok_report_Health _ _ _ _ _ _ r hr⟩

def xr_report_Same : XR := (.seq (.ops false [⟨⟨(some 2), (.box 46 (.tmp 0)), none⟩, none⟩, ⟨⟨(some 3), (.box 46 (.tmp 1)), none⟩, none⟩, ⟨⟨(some 4), (.mv (.c (.bool false))), none⟩, none⟩]) (.seq (.ops false [⟨⟨(some 5), (.fldA 0 (.tmp 2)), none⟩, none⟩, ⟨⟨(some 6), (.ld false 1 (.tmp 5)), none⟩, (some (.int .i64))⟩, ⟨⟨(some 7), (.fldA 0 (.tmp 3)), none⟩, none⟩, ⟨⟨(some 8), (.ld false 1 (.tmp 7)), none⟩, (some (.int .i64))⟩, ⟨⟨(some 9), (.bin .eql (.tmp 6) (.tmp 8)), none⟩, none⟩, ⟨⟨(some 10), (.mv (.tmp 9)), none⟩, none⟩, ⟨⟨(some 11), (.fldA 1 (.tmp 2)), (some (10, true))⟩, none⟩, ⟨⟨(some 12), (.ld false 1 (.tmp 11)), (some (10, true))⟩, (some (.int .i64))⟩, ⟨⟨(some 13), (.fldA 1 (.tmp 3)), (some (10, true))⟩, none⟩, ⟨⟨(some 14), (.ld false 1 (.tmp 13)), (some (10, true))⟩, (some (.int .i64))⟩, ⟨⟨(some 15), (.bin .eql (.tmp 12) (.tmp 14)), (some (10, true))⟩, none⟩, ⟨⟨(some 16), (.pick (.tmp 10) (.tmp 15) (.c (.bool false))), none⟩, none⟩, ⟨⟨(some 17), (.mv (.tmp 16)), none⟩, none⟩, ⟨⟨(some 18), (.fldA 2 (.tmp 2)), (some (17, true))⟩, none⟩, ⟨⟨(some 19), (.ld false 1 (.tmp 18)), (some (17, true))⟩, (some (.isl .i64))⟩, ⟨⟨(some 20), (.fldA 2 (.tmp 3)), (some (17, true))⟩, none⟩, ⟨⟨(some 21), (.ld false 1 (.tmp 20)), (some (17, true))⟩, (some (.isl .i64))⟩, ⟨⟨(some 22), (.call (.func 56) [(.tmp 19), (.tmp 21)]), (some (17, true))⟩, none⟩, ⟨⟨(some 23), (.pick (.tmp 17) (.tmp 22) (.c (.bool false))), none⟩, none⟩, ⟨⟨(some 24), (.mv (.tmp 23)), none⟩, none⟩, ⟨⟨(some 25), (.fldA 3 (.tmp 2)), (some (24, true))⟩, none⟩, ⟨⟨(some 26), (.ld false 1 (.tmp 25)), (some (24, true))⟩, (some (.isl .i64))⟩, ⟨⟨(some 27), (.fldA 3 (.tmp 3)), (some (24, true))⟩, none⟩, ⟨⟨(some 28), (.ld false 1 (.tmp 27)), (some (24, true))⟩, (some (.isl .i64))⟩, ⟨⟨(some 29), (.call (.func 56) [(.tmp 26), (.tmp 28)]), (some (24, true))⟩, none⟩, ⟨⟨(some 30), (.pick (.tmp 24) (.tmp 29) (.c (.bool false))), none⟩, none⟩, ⟨⟨(some 4), (.mv (.tmp 30)), none⟩, none⟩]) .ret))
def rs_report_Same : List ResultVar := [(.tmp 4)]
theorem ir_report_Same : compCode Tryd.prog (Tryd.f38.body.getD .skip) [] = some (xr_report_Same.erase, []) := by kernel_rfl
/-! report_Same -/
def gm_report_Same : Gam := (Gam.fn 56 as_slices_Equal__int_int ga_slices_Equal__int_int em_slices_Equal__int_int Gam.bot)
theorem gk_report_Same : GamOk Tryd.prog GG gm_report_Same := (GamOk.fn at_slices_Equal__int_int GamOk.bot)
def lm_report_Same : Lam := fun _ j S kn ke => match j with
  | _ => .fail
/-- report_Same -/
def go_report_Same (n0 : Int) (n1 : Int) (b2 : Bool) (b3 : Bool) (l4 : List Int) (b5 : Bool) (b6 : Bool) (l7 : List Int) (n8 : Int) (n9 : Int) (b10 : Bool) (b11 : Bool) (l12 : List Int) (b13 : Bool) (b14 : Bool) (l15 : List Int) : Option Bool :=
  bif (n0 == n8) then
   bif (n1 == n9) then
    (go_slices_Equal__int_int b2 b3 l4 b10 b11 l12).bind fun r16 =>
    bif r16 then
     (go_slices_Equal__int_int b5 b6 l7 b13 b14 l15).bind fun r17 =>
     some r17
    else
     some false
   else
    some false
  else
   some false
def em_report_Same (r : Bool) : PV := (.bool r)
def rh_report_Same : Shp := .bool
def ra_report_Same (v : PV) : Bool := v.tru
def kf_report_Same (v : PV) : Tree Bool := .chk (rh_report_Same.ok v) (.leaf (ra_report_Same v))
theorem rn_report_Same (n0 : Int) (n1 : Int) (b2 : Bool) (b3 : Bool) (l4 : List Int) (b5 : Bool) (b6 : Bool) (l7 : List Int) (n8 : Int) (n9 : Int) (b10 : Bool) (b11 : Bool) (l12 : List Int) (b13 : Bool) (b14 : Bool) (l15 : List Int) : (ev GG gm_report_Same lm_report_Same xr_report_Same ⟨slots 31 0 [(0, .p (.agg [(.int .i64 n0), (.int .i64 n1), (.isl b2 b3 .i64 l4), (.isl b5 b6 .i64 l7)])), (1, .p (.agg [(.int .i64 n8), (.int .i64 n9), (.isl b10 b11 .i64 l12), (.isl b13 b14 .i64 l15)]))], []⟩ (fun S => finT Tryd.prog rs_report_Same S kf_report_Same) (retT Tryd.prog rs_report_Same kf_report_Same)).run = go_report_Same n0 n1 b2 b3 l4 b5 b6 l7 n8 n9 b10 b11 l12 b13 b14 l15 := by kernel_rfl
theorem ok_report_Same (n0 : Int) (n1 : Int) (b2 : Bool) (b3 : Bool) (l4 : List Int) (b5 : Bool) (b6 : Bool) (l7 : List Int) (n8 : Int) (n9 : Int) (b10 : Bool) (b11 : Bool) (l12 : List Int) (b13 : Bool) (b14 : Bool) (l15 : List Int) (r : Bool) (h : go_report_Same n0 n1 b2 b3 l4 b5 b6 l7 n8 n9 b10 b11 l12 b13 b14 l15 = some r) : FunEq Tryd.prog GG 38 [(.agg [(.int .i64 n0), (.int .i64 n1), (.isl b2 b3 .i64 l4), (.isl b5 b6 .i64 l7)]), (.agg [(.int .i64 n8), (.int .i64 n9), (.isl b10 b11 .i64 l12), (.isl b13 b14 .i64 l15)])] (em_report_Same r) :=
  fun_of_ev (x := xr_report_Same) (Λ := lm_report_Same) gk_report_Same [] Tryd.func38 rfl (by kernel_rfl) ir_report_Same (by kernel_rfl) (congrArg Array.toList Tryd.results38) Tryd.ntmps38 (⟨trivial, ⟨trivial, trivial⟩⟩) (leaf_of fun v => (by kernel_rfl : rh_report_Same.build v = em_report_Same (ra_report_Same v))) (by kernel_rfl) ((rn_report_Same n0 n1 b2 b3 l4 b5 b6 l7 n8 n9 b10 b11 l12 b13 b14 l15).trans h)
def as_report_Same : List Shp := [(.agg [(.int .i64), (.int .i64), (.isl .i64), (.isl .i64)]), (.agg [(.int .i64), (.int .i64), (.isl .i64), (.isl .i64)])]
def ga_report_Same (vs : List PV) : Option Bool := go_report_Same (((tls 0 vs).headD .nilSl).subs.headD .nilSl).num (((tls 0 vs).headD .nilSl).subs.tail.headD .nilSl).num (((tls 0 vs).headD .nilSl).subs.tail.tail.headD .nilSl).nl (((tls 0 vs).headD .nilSl).subs.tail.tail.headD .nilSl).ex (((tls 0 vs).headD .nilSl).subs.tail.tail.headD .nilSl).ints (((tls 0 vs).headD .nilSl).subs.tail.tail.tail.headD .nilSl).nl (((tls 0 vs).headD .nilSl).subs.tail.tail.tail.headD .nilSl).ex (((tls 0 vs).headD .nilSl).subs.tail.tail.tail.headD .nilSl).ints (((tls 1 vs).headD .nilSl).subs.headD .nilSl).num (((tls 1 vs).headD .nilSl).subs.tail.headD .nilSl).num (((tls 1 vs).headD .nilSl).subs.tail.tail.headD .nilSl).nl (((tls 1 vs).headD .nilSl).subs.tail.tail.headD .nilSl).ex (((tls 1 vs).headD .nilSl).subs.tail.tail.headD .nilSl).ints (((tls 1 vs).headD .nilSl).subs.tail.tail.tail.headD .nilSl).nl (((tls 1 vs).headD .nilSl).subs.tail.tail.tail.headD .nilSl).ex (((tls 1 vs).headD .nilSl).subs.tail.tail.tail.headD .nilSl).ints
theorem at_report_Same : FnAt Tryd.prog GG 38 as_report_Same ga_report_Same em_report_Same := fun vs h r hr => by
  have e : Shp.buildL as_report_Same vs = [(.agg [(.int .i64 (((tls 0 vs).headD .nilSl).subs.headD .nilSl).num), (.int .i64 (((tls 0 vs).headD .nilSl).subs.tail.headD .nilSl).num), (.isl (((tls 0 vs).headD .nilSl).subs.tail.tail.headD .nilSl).nl (((tls 0 vs).headD .nilSl).subs.tail.tail.headD .nilSl).ex .i64 (((tls 0 vs).headD .nilSl).subs.tail.tail.headD .nilSl).ints), (.isl (((tls 0 vs).headD .nilSl).subs.tail.tail.tail.headD .nilSl).nl (((tls 0 vs).headD .nilSl).subs.tail.tail.tail.headD .nilSl).ex .i64 (((tls 0 vs).headD .nilSl).subs.tail.tail.tail.headD .nilSl).ints)]), (.agg [(.int .i64 (((tls 1 vs).headD .nilSl).subs.headD .nilSl).num), (.int .i64 (((tls 1 vs).headD .nilSl).subs.tail.headD .nilSl).num), (.isl (((tls 1 vs).headD .nilSl).subs.tail.tail.headD .nilSl).nl (((tls 1 vs).headD .nilSl).subs.tail.tail.headD .nilSl).ex .i64 (((tls 1 vs).headD .nilSl).subs.tail.tail.headD .nilSl).ints), (.isl (((tls 1 vs).headD .nilSl).subs.tail.tail.tail.headD .nilSl).nl (((tls 1 vs).headD .nilSl).subs.tail.tail.tail.headD .nilSl).ex .i64 (((tls 1 vs).headD .nilSl).subs.tail.tail.tail.headD .nilSl).ints)])] := by kernel_rfl
  rw [← Shp.buildL_eq _ h, e]
  exact .inl ⟨by decide, ok_report_Same _ _ _ _ _ _ _ _ _ _ _ _ _ _ _ _ r hr⟩

def xr_coupletlaw18_awake : XR := (.seq (.ops false [⟨⟨(some 0), (.mv (.c (.bool false))), none⟩, none⟩]) (.seq (.ops false [⟨⟨(some 6), (.bsl 3 (some .i64) 1 [(.c (.int .i64 (1)))]), none⟩, none⟩, ⟨⟨(some 7), (.bsl 3 (some .i64) 1 [(.c (.int .i64 (2)))]), none⟩, none⟩, ⟨⟨(some 8), (.build [(.int .i64 (0)), (.int .i64 (0)), (.isl true true .i64 []), (.isl true true .i64 [])] [(0, (1, (.c (.int .i64 (33))))), (1, (1, (.c (.int .i64 (5))))), (2, (1, (.tmp 6))), (3, (1, (.tmp 7)))]), none⟩, none⟩, ⟨⟨(some 1), (.alloc 46 [(.int .i64 (0)), (.int .i64 (0)), (.isl true true .i64 []), (.isl true true .i64 [])]), none⟩, none⟩, ⟨⟨none, (.st 4 (.tmp 1) (.tmp 8)), none⟩, none⟩]) (.seq (.ops false [⟨⟨(some 10), (.ld true 4 (.tmp 1)), none⟩, (some (.agg [(.int .i64), (.int .i64), (.isl .i64), (.isl .i64)]))⟩, ⟨⟨(some 11), (.call (.func 32) [(.tmp 10)]), none⟩, none⟩, ⟨⟨(some 9), (.mv (.tmp 11)), none⟩, none⟩, ⟨⟨(some 12), (.ext (.tmp 9) 0), none⟩, none⟩, ⟨⟨(some 13), (.ext (.tmp 9) 1), none⟩, none⟩, ⟨⟨(some 2), (.mv (.tmp 12)), none⟩, none⟩, ⟨⟨(some 3), (.mv (.tmp 13)), none⟩, none⟩]) (.seq (.ops false [⟨⟨(some 15), (.mv (.tmp 2)), none⟩, none⟩, ⟨⟨(some 16), (.call (.func 36) [(.tmp 15)]), none⟩, none⟩, ⟨⟨(some 14), (.mv (.tmp 16)), none⟩, none⟩, ⟨⟨(some 17), (.ext (.tmp 14) 0), none⟩, none⟩, ⟨⟨(some 18), (.ext (.tmp 14) 1), none⟩, none⟩, ⟨⟨(some 4), (.alloc 46 [(.int .i64 (0)), (.int .i64 (0)), (.isl true true .i64 []), (.isl true true .i64 [])]), none⟩, none⟩, ⟨⟨none, (.st 4 (.tmp 4) (.tmp 17)), none⟩, none⟩, ⟨⟨(some 5), (.mv (.tmp 18)), none⟩, none⟩]) (.seq (.ops false [⟨⟨(some 19), (.build [(.int .i64 (0)), (.int .i64 (0)), (.int .i64 (0)), (.int .i64 (0))] [(0, (1, (.c (.int .i64 (1)))))]), none⟩, none⟩, ⟨⟨(some 20), (.call (.func 57) [(.tmp 19), (.c (.bool false)), (.c (.bool false))]), none⟩, none⟩, ⟨⟨(some 21), (.bin .eql (.tmp 20) (.c (.int .i64 (33)))), none⟩, none⟩, ⟨⟨(some 22), (.mv (.tmp 21)), none⟩, none⟩, ⟨⟨(some 23), (.mv (.tmp 3)), (some (22, true))⟩, none⟩, ⟨⟨(some 24), (.bin .eql (.tmp 23) (.c (.int .i64 (0)))), (some (22, true))⟩, none⟩, ⟨⟨(some 25), (.pick (.tmp 22) (.tmp 24) (.c (.bool false))), none⟩, none⟩, ⟨⟨(some 26), (.mv (.tmp 25)), none⟩, none⟩, ⟨⟨(some 27), (.mv (.tmp 5)), (some (26, true))⟩, none⟩, ⟨⟨(some 28), (.bin .eql (.tmp 27) (.c (.int .i64 (0)))), (some (26, true))⟩, none⟩, ⟨⟨(some 29), (.pick (.tmp 26) (.tmp 28) (.c (.bool false))), none⟩, none⟩, ⟨⟨(some 30), (.mv (.tmp 29)), none⟩, none⟩, ⟨⟨(some 31), (.ld true 4 (.tmp 4)), (some (30, true))⟩, (some (.agg [(.int .i64), (.int .i64), (.isl .i64), (.isl .i64)]))⟩, ⟨⟨(some 32), (.ld true 4 (.tmp 1)), (some (30, true))⟩, (some (.agg [(.int .i64), (.int .i64), (.isl .i64), (.isl .i64)]))⟩, ⟨⟨(some 33), (.call (.func 38) [(.tmp 31), (.tmp 32)]), (some (30, true))⟩, none⟩, ⟨⟨(some 34), (.pick (.tmp 30) (.tmp 33) (.c (.bool false))), none⟩, none⟩, ⟨⟨(some 35), (.mv (.tmp 34)), none⟩, none⟩, ⟨⟨(some 36), (.ld true 4 (.tmp 1)), (some (35, true))⟩, (some (.agg [(.int .i64), (.int .i64), (.isl .i64), (.isl .i64)]))⟩, ⟨⟨(some 37), (.call (.func 35) [(.tmp 36)]), (some (35, true))⟩, none⟩, ⟨⟨(some 38), (.pick (.tmp 35) (.tmp 37) (.c (.bool false))), none⟩, none⟩, ⟨⟨(some 39), (.mv (.tmp 38)), none⟩, none⟩, ⟨⟨(some 40), (.mv (.tmp 2)), (some (39, true))⟩, none⟩, ⟨⟨(some 41), (.len (.tmp 40)), (some (39, true))⟩, none⟩, ⟨⟨(some 42), (.bin .eql (.tmp 41) (.c (.int .i64 (28)))), (some (39, true))⟩, none⟩, ⟨⟨(some 43), (.pick (.tmp 39) (.tmp 42) (.c (.bool false))), none⟩, none⟩, ⟨⟨(some 0), (.mv (.tmp 43)), none⟩, none⟩]) .ret)))))
def rs_coupletlaw18_awake : List ResultVar := [(.tmp 0)]
theorem ir_coupletlaw18_awake : compCode Tryd.prog (Tryd.f31.body.getD .skip) [] = some (xr_coupletlaw18_awake.erase, []) := by kernel_rfl
/-! coupletlaw18_awake -/
def gm_coupletlaw18_awake : Gam := (Gam.fn 32 as_report_Encode ga_report_Encode em_report_Encode (Gam.fn 36 as_report_Decode ga_report_Decode em_report_Decode (Gam.fn 57 as_report_Health ga_report_Health em_report_Health (Gam.fn 38 as_report_Same ga_report_Same em_report_Same (Gam.fn 35 as_report_Right ga_report_Right em_report_Right Gam.bot)))))
theorem gk_coupletlaw18_awake : GamOk Tryd.prog GG gm_coupletlaw18_awake := (GamOk.fn at_report_Encode (GamOk.fn at_report_Decode (GamOk.fn at_report_Health (GamOk.fn at_report_Same (GamOk.fn at_report_Right GamOk.bot)))))
def lm_coupletlaw18_awake : Lam := fun _ j S kn ke => match j with
  | _ => .fail
/-- coupletlaw18_awake -/
def go_coupletlaw18_awake : Option Bool :=
  (go_report_Encode 33 5 false true [1] false true [2]).bind fun r0 =>
  (go_report_Decode r0.1 r0.2.1 r0.2.2.1).bind fun r1 =>
  (go_report_Health 1 0 0 0 false false).bind fun r2 =>
  bif (r2 == 33) then
   bif (r0.2.2.2 == 0) then
    bif (r1.2.2.2.2.2.2.2.2 == 0) then
     (go_report_Same r1.1 r1.2.1 r1.2.2.1 r1.2.2.2.1 r1.2.2.2.2.1 r1.2.2.2.2.2.1 r1.2.2.2.2.2.2.1 r1.2.2.2.2.2.2.2.1 33 5 false true [1] false true [2]).bind fun r3 =>
     bif r3 then
      (go_report_Right 33 5 false true [1] false true [2]).bind fun r4 =>
      bif r4 then
       some ((((List.length r0.2.2.1) : Nat) : Int) == 28)
      else
       some false
     else
      some false
    else
     some false
   else
    some false
  else
   some false
def em_coupletlaw18_awake (r : Bool) : PV := (.bool r)
def rh_coupletlaw18_awake : Shp := .bool
def ra_coupletlaw18_awake (v : PV) : Bool := v.tru
def kf_coupletlaw18_awake (v : PV) : Tree Bool := .chk (rh_coupletlaw18_awake.ok v) (.leaf (ra_coupletlaw18_awake v))
theorem rn_coupletlaw18_awake : (ev GG gm_coupletlaw18_awake lm_coupletlaw18_awake xr_coupletlaw18_awake ⟨slots 44 0 [], []⟩ (fun S => finT Tryd.prog rs_coupletlaw18_awake S kf_coupletlaw18_awake) (retT Tryd.prog rs_coupletlaw18_awake kf_coupletlaw18_awake)).run = go_coupletlaw18_awake := by kernel_rfl
theorem ok_coupletlaw18_awake (r : Bool) (h : go_coupletlaw18_awake = some r) : FunEq Tryd.prog GG 31 [] (em_coupletlaw18_awake r) :=
  fun_of_ev (x := xr_coupletlaw18_awake) (Λ := lm_coupletlaw18_awake) gk_coupletlaw18_awake [] Tryd.func31 rfl (by kernel_rfl) ir_coupletlaw18_awake (by kernel_rfl) (congrArg Array.toList Tryd.results31) Tryd.ntmps31 (⟨trivial, ⟨trivial, ⟨trivial, ⟨trivial, ⟨trivial, trivial⟩⟩⟩⟩⟩) (leaf_of fun v => (by kernel_rfl : rh_coupletlaw18_awake.build v = em_coupletlaw18_awake (ra_coupletlaw18_awake v))) (by kernel_rfl) ((rn_coupletlaw18_awake).trans h)
def as_coupletlaw18_awake : List Shp := []
def ga_coupletlaw18_awake (vs : List PV) : Option Bool := go_coupletlaw18_awake
theorem at_coupletlaw18_awake : FnAt Tryd.prog GG 31 as_coupletlaw18_awake ga_coupletlaw18_awake em_coupletlaw18_awake := fun vs h r hr => by
  have e : Shp.buildL as_coupletlaw18_awake vs = [] := by kernel_rfl
  rw [← Shp.buildL_eq _ h, e]
  exact .inl ⟨by decide, ok_coupletlaw18_awake  r hr⟩

def xr_coupletlaw18_Given : XR := (.seq (.ops false [⟨⟨(some 1), (.box 46 (.tmp 0)), none⟩, none⟩, ⟨⟨(some 2), (.alloc 49 [(.int .i64 (0)), (.int .i64 (0)), (.isl true true .i64 []), (.isl true true .i64 [])]), none⟩, none⟩]) (.seq (.ops false [⟨⟨(some 3), (.fldA 0 (.tmp 1)), none⟩, none⟩, ⟨⟨(some 4), (.ld false 1 (.tmp 3)), none⟩, (some (.int .i64))⟩, ⟨⟨(some 5), (.fldA 1 (.tmp 1)), none⟩, none⟩, ⟨⟨(some 6), (.ld false 1 (.tmp 5)), none⟩, (some (.int .i64))⟩, ⟨⟨(some 7), (.fldA 2 (.tmp 1)), none⟩, none⟩, ⟨⟨(some 8), (.ld false 1 (.tmp 7)), none⟩, (some (.isl .i64))⟩, ⟨⟨(some 9), (.fldA 3 (.tmp 1)), none⟩, none⟩, ⟨⟨(some 10), (.ld false 1 (.tmp 9)), none⟩, (some (.isl .i64))⟩, ⟨⟨(some 11), (.build [(.int .i64 (0)), (.int .i64 (0)), (.isl true true .i64 []), (.isl true true .i64 [])] [(0, (1, (.tmp 4))), (1, (1, (.tmp 6))), (2, (1, (.tmp 8))), (3, (1, (.tmp 10)))]), none⟩, none⟩, ⟨⟨none, (.st 4 (.tmp 2) (.tmp 11)), none⟩, none⟩]) .ret))
def rs_coupletlaw18_Given : List ResultVar := [(.cell 2 49)]
theorem ir_coupletlaw18_Given : compCode Tryd.prog (Tryd.f34.body.getD .skip) [] = some (xr_coupletlaw18_Given.erase, []) := by kernel_rfl
/-! coupletlaw18_Given -/
def gm_coupletlaw18_Given : Gam := Gam.bot
theorem gk_coupletlaw18_Given : GamOk Tryd.prog GG gm_coupletlaw18_Given := GamOk.bot
def lm_coupletlaw18_Given : Lam := fun _ j S kn ke => match j with
  | _ => .fail
/-- coupletlaw18_Given -/
def go_coupletlaw18_Given (n0 : Int) (n1 : Int) (b2 : Bool) (b3 : Bool) (l4 : List Int) (b5 : Bool) (b6 : Bool) (l7 : List Int) : Option (Int × Int × Bool × Bool × List Int × Bool × Bool × List Int) :=
  some (n0, n1, b2, b3, l4, b5, b6, l7)
def em_coupletlaw18_Given (r : (Int × Int × Bool × Bool × List Int × Bool × Bool × List Int)) : PV := (.agg [(.int .i64 r.1), (.int .i64 r.2.1), (.isl r.2.2.1 r.2.2.2.1 .i64 r.2.2.2.2.1), (.isl r.2.2.2.2.2.1 r.2.2.2.2.2.2.1 .i64 r.2.2.2.2.2.2.2)])
def rh_coupletlaw18_Given : Shp := (.agg [(.int .i64), (.int .i64), (.isl .i64), (.isl .i64)])
def ra_coupletlaw18_Given (v : PV) : (Int × Int × Bool × Bool × List Int × Bool × Bool × List Int) := ((v.subs.headD .nilSl).num, (v.subs.tail.headD .nilSl).num, (v.subs.tail.tail.headD .nilSl).nl, (v.subs.tail.tail.headD .nilSl).ex, (v.subs.tail.tail.headD .nilSl).ints, (v.subs.tail.tail.tail.headD .nilSl).nl, (v.subs.tail.tail.tail.headD .nilSl).ex, (v.subs.tail.tail.tail.headD .nilSl).ints)
def kf_coupletlaw18_Given (v : PV) : Tree (Int × Int × Bool × Bool × List Int × Bool × Bool × List Int) := .chk (rh_coupletlaw18_Given.ok v) (.leaf (ra_coupletlaw18_Given v))
theorem rn_coupletlaw18_Given (n0 : Int) (n1 : Int) (b2 : Bool) (b3 : Bool) (l4 : List Int) (b5 : Bool) (b6 : Bool) (l7 : List Int) : (ev GG gm_coupletlaw18_Given lm_coupletlaw18_Given xr_coupletlaw18_Given ⟨slots 12 0 [(0, .p (.agg [(.int .i64 n0), (.int .i64 n1), (.isl b2 b3 .i64 l4), (.isl b5 b6 .i64 l7)]))], []⟩ (fun S => finT Tryd.prog rs_coupletlaw18_Given S kf_coupletlaw18_Given) (retT Tryd.prog rs_coupletlaw18_Given kf_coupletlaw18_Given)).run = go_coupletlaw18_Given n0 n1 b2 b3 l4 b5 b6 l7 := by kernel_rfl
theorem ok_coupletlaw18_Given (n0 : Int) (n1 : Int) (b2 : Bool) (b3 : Bool) (l4 : List Int) (b5 : Bool) (b6 : Bool) (l7 : List Int) (r : (Int × Int × Bool × Bool × List Int × Bool × Bool × List Int)) (h : go_coupletlaw18_Given n0 n1 b2 b3 l4 b5 b6 l7 = some r) : FunEq Tryd.prog GG 34 [(.agg [(.int .i64 n0), (.int .i64 n1), (.isl b2 b3 .i64 l4), (.isl b5 b6 .i64 l7)])] (em_coupletlaw18_Given r) :=
  fun_of_ev (x := xr_coupletlaw18_Given) (Λ := lm_coupletlaw18_Given) gk_coupletlaw18_Given [] Tryd.func34 rfl (by kernel_rfl) ir_coupletlaw18_Given (by kernel_rfl) (congrArg Array.toList Tryd.results34) Tryd.ntmps34 (⟨trivial, ⟨trivial, trivial⟩⟩) (leaf_of fun v => (by kernel_rfl : rh_coupletlaw18_Given.build v = em_coupletlaw18_Given (ra_coupletlaw18_Given v))) (by kernel_rfl) ((rn_coupletlaw18_Given n0 n1 b2 b3 l4 b5 b6 l7).trans h)
def as_coupletlaw18_Given : List Shp := [(.agg [(.int .i64), (.int .i64), (.isl .i64), (.isl .i64)])]
def ga_coupletlaw18_Given (vs : List PV) : Option (Int × Int × Bool × Bool × List Int × Bool × Bool × List Int) := go_coupletlaw18_Given (((tls 0 vs).headD .nilSl).subs.headD .nilSl).num (((tls 0 vs).headD .nilSl).subs.tail.headD .nilSl).num (((tls 0 vs).headD .nilSl).subs.tail.tail.headD .nilSl).nl (((tls 0 vs).headD .nilSl).subs.tail.tail.headD .nilSl).ex (((tls 0 vs).headD .nilSl).subs.tail.tail.headD .nilSl).ints (((tls 0 vs).headD .nilSl).subs.tail.tail.tail.headD .nilSl).nl (((tls 0 vs).headD .nilSl).subs.tail.tail.tail.headD .nilSl).ex (((tls 0 vs).headD .nilSl).subs.tail.tail.tail.headD .nilSl).ints
theorem at_coupletlaw18_Given : FnAt Tryd.prog GG 34 as_coupletlaw18_Given ga_coupletlaw18_Given em_coupletlaw18_Given := fun vs h r hr => by
  have e : Shp.buildL as_coupletlaw18_Given vs = [(.agg [(.int .i64 (((tls 0 vs).headD .nilSl).subs.headD .nilSl).num), (.int .i64 (((tls 0 vs).headD .nilSl).subs.tail.headD .nilSl).num), (.isl (((tls 0 vs).headD .nilSl).subs.tail.tail.headD .nilSl).nl (((tls 0 vs).headD .nilSl).subs.tail.tail.headD .nilSl).ex .i64 (((tls 0 vs).headD .nilSl).subs.tail.tail.headD .nilSl).ints), (.isl (((tls 0 vs).headD .nilSl).subs.tail.tail.tail.headD .nilSl).nl (((tls 0 vs).headD .nilSl).subs.tail.tail.tail.headD .nilSl).ex .i64 (((tls 0 vs).headD .nilSl).subs.tail.tail.tail.headD .nilSl).ints)])] := by kernel_rfl
  rw [← Shp.buildL_eq _ h, e]
  exact .inl ⟨by decide, ok_coupletlaw18_Given _ _ _ _ _ _ _ _ r hr⟩

def xb_coupletref18_Right_0 : XR := (.seq (.seq (.ops false [⟨⟨(some 37), (.mv (.tmp 3)), none⟩, none⟩, ⟨⟨(some 38), (.fldA 2 (.tmp 1)), none⟩, none⟩, ⟨⟨(some 39), (.ld false 1 (.tmp 38)), none⟩, (some (.isl .i64))⟩, ⟨⟨(some 40), (.len (.tmp 39)), none⟩, none⟩, ⟨⟨(some 41), (.bin .lss (.tmp 37) (.tmp 40)), none⟩, none⟩]) (.cond (.tmp 41) .skip (.exit 0))) (.seq (.block 1 (.seq (.ops false [⟨⟨(some 44), (.fldA 2 (.tmp 1)), none⟩, none⟩, ⟨⟨(some 45), (.ld false 1 (.tmp 44)), none⟩, (some (.isl .i64))⟩, ⟨⟨(some 46), (.mv (.tmp 3)), none⟩, none⟩, ⟨⟨(some 47), (.ixA 1 (.tmp 45) (.tmp 46)), none⟩, none⟩, ⟨⟨(some 48), (.ld false 1 (.tmp 47)), none⟩, (some (.int .i64))⟩, ⟨⟨(some 49), (.call (.func 49) [(.tmp 48)]), none⟩, none⟩, ⟨⟨(some 50), (.un .not (.tmp 49)), none⟩, none⟩, ⟨⟨(some 51), (.mv (.tmp 50)), none⟩, none⟩, ⟨⟨(some 52), (.fldA 3 (.tmp 1)), (some (51, false))⟩, none⟩, ⟨⟨(some 53), (.ld false 1 (.tmp 52)), (some (51, false))⟩, (some (.isl .i64))⟩, ⟨⟨(some 54), (.mv (.tmp 3)), (some (51, false))⟩, none⟩, ⟨⟨(some 55), (.ixA 1 (.tmp 53) (.tmp 54)), (some (51, false))⟩, none⟩, ⟨⟨(some 56), (.ld false 1 (.tmp 55)), (some (51, false))⟩, (some (.int .i64))⟩, ⟨⟨(some 57), (.call (.func 49) [(.tmp 56)]), (some (51, false))⟩, none⟩, ⟨⟨(some 58), (.un .not (.tmp 57)), (some (51, false))⟩, none⟩, ⟨⟨(some 59), (.pick (.tmp 51) (.c (.bool true)) (.tmp 58)), none⟩, none⟩]) (.cond (.tmp 59) (.seq (.ops false [⟨⟨(some 2), (.mv (.c (.bool false))), none⟩, none⟩]) .ret) .skip))) (.ops false [⟨⟨(some 42), (.mv (.tmp 3)), none⟩, none⟩, ⟨⟨(some 43), (.bin .add (.tmp 42) (.c (.int .i64 (1)))), none⟩, none⟩, ⟨⟨(some 3), (.mv (.tmp 43)), none⟩, none⟩])))
def xr_coupletref18_Right : XR := (.seq (.ops false [⟨⟨(some 1), (.box 49 (.tmp 0)), none⟩, none⟩, ⟨⟨(some 2), (.mv (.c (.bool false))), none⟩, none⟩]) (.seq (.seq (.ops false [⟨⟨(some 4), (.fldA 0 (.tmp 1)), none⟩, none⟩, ⟨⟨(some 5), (.ld false 1 (.tmp 4)), none⟩, (some (.int .i64))⟩, ⟨⟨(some 6), (.bin .lss (.tmp 5) (.c (.int .i64 (0)))), none⟩, none⟩, ⟨⟨(some 7), (.mv (.tmp 6)), none⟩, none⟩, ⟨⟨(some 8), (.fldA 0 (.tmp 1)), (some (7, false))⟩, none⟩, ⟨⟨(some 9), (.ld false 1 (.tmp 8)), (some (7, false))⟩, (some (.int .i64))⟩, ⟨⟨(some 10), (.bin .gtr (.tmp 9) (.c (.int .i64 (255)))), (some (7, false))⟩, none⟩, ⟨⟨(some 11), (.pick (.tmp 7) (.c (.bool true)) (.tmp 10)), none⟩, none⟩, ⟨⟨(some 12), (.mv (.tmp 11)), none⟩, none⟩, ⟨⟨(some 13), (.fldA 1 (.tmp 1)), (some (12, false))⟩, none⟩, ⟨⟨(some 14), (.ld false 1 (.tmp 13)), (some (12, false))⟩, (some (.int .i64))⟩, ⟨⟨(some 15), (.bin .lss (.tmp 14) (.c (.int .i64 (0)))), (some (12, false))⟩, none⟩, ⟨⟨(some 16), (.pick (.tmp 12) (.c (.bool true)) (.tmp 15)), none⟩, none⟩, ⟨⟨(some 17), (.mv (.tmp 16)), none⟩, none⟩, ⟨⟨(some 18), (.fldA 1 (.tmp 1)), (some (17, false))⟩, none⟩, ⟨⟨(some 19), (.ld false 1 (.tmp 18)), (some (17, false))⟩, (some (.int .i64))⟩, ⟨⟨(some 20), (.bin .gtr (.tmp 19) (.c (.int .i64 (4294967295)))), (some (17, false))⟩, none⟩, ⟨⟨(some 21), (.pick (.tmp 17) (.c (.bool true)) (.tmp 20)), none⟩, none⟩, ⟨⟨(some 22), (.mv (.tmp 21)), none⟩, none⟩, ⟨⟨(some 23), (.fldA 2 (.tmp 1)), (some (22, false))⟩, none⟩, ⟨⟨(some 24), (.ld false 1 (.tmp 23)), (some (22, false))⟩, (some (.isl .i64))⟩, ⟨⟨(some 25), (.len (.tmp 24)), (some (22, false))⟩, none⟩, ⟨⟨(some 26), (.bin .gtr (.tmp 25) (.c (.int .i64 (4)))), (some (22, false))⟩, none⟩, ⟨⟨(some 27), (.pick (.tmp 22) (.c (.bool true)) (.tmp 26)), none⟩, none⟩, ⟨⟨(some 28), (.mv (.tmp 27)), none⟩, none⟩, ⟨⟨(some 29), (.fldA 2 (.tmp 1)), (some (28, false))⟩, none⟩, ⟨⟨(some 30), (.ld false 1 (.tmp 29)), (some (28, false))⟩, (some (.isl .i64))⟩, ⟨⟨(some 31), (.len (.tmp 30)), (some (28, false))⟩, none⟩, ⟨⟨(some 32), (.fldA 3 (.tmp 1)), (some (28, false))⟩, none⟩, ⟨⟨(some 33), (.ld false 1 (.tmp 32)), (some (28, false))⟩, (some (.isl .i64))⟩, ⟨⟨(some 34), (.len (.tmp 33)), (some (28, false))⟩, none⟩, ⟨⟨(some 35), (.bin .neq (.tmp 31) (.tmp 34)), (some (28, false))⟩, none⟩, ⟨⟨(some 36), (.pick (.tmp 28) (.c (.bool true)) (.tmp 35)), none⟩, none⟩]) (.cond (.tmp 36) (.seq (.ops false [⟨⟨(some 2), (.mv (.c (.bool false))), none⟩, none⟩]) .ret) .skip)) (.seq (.seq (.ops false [⟨⟨(some 3), (.mv (.c (.int .i64 (0)))), none⟩, none⟩]) (.block 0 (.loop 0 [1, 3] xb_coupletref18_Right_0))) (.seq (.ops false [⟨⟨(some 60), (.fldA 2 (.tmp 1)), none⟩, none⟩, ⟨⟨(some 61), (.ld false 1 (.tmp 60)), none⟩, (some (.isl .i64))⟩, ⟨⟨(some 62), (.len (.tmp 61)), none⟩, none⟩, ⟨⟨(some 63), (.bin .gtr (.tmp 62) (.c (.int .i64 (0)))), none⟩, none⟩, ⟨⟨(some 64), (.fldA 0 (.tmp 1)), none⟩, none⟩, ⟨⟨(some 65), (.ld false 1 (.tmp 64)), none⟩, (some (.int .i64))⟩, ⟨⟨(some 66), (.bin .quo (.tmp 65) (.c (.int .i64 (32)))), none⟩, none⟩, ⟨⟨(some 67), (.bin .rem (.tmp 66) (.c (.int .i64 (2)))), none⟩, none⟩, ⟨⟨(some 68), (.bin .eql (.tmp 67) (.c (.int .i64 (1)))), none⟩, none⟩, ⟨⟨(some 69), (.binB false (.tmp 63) (.tmp 68)), none⟩, none⟩, ⟨⟨(some 2), (.mv (.tmp 69)), none⟩, none⟩]) .ret))))
def rs_coupletref18_Right : List ResultVar := [(.tmp 2)]
theorem ir_coupletref18_Right : compCode Tryd.prog (Tryd.f33.body.getD .skip) [[1, 3]] = some (xr_coupletref18_Right.erase, []) := by kernel_rfl
/-! coupletref18_Right -/
def gm_coupletref18_Right : Gam := (Gam.fn 49 as_coupletref02_Right ga_coupletref02_Right em_coupletref02_Right Gam.bot)
theorem gk_coupletref18_Right : GamOk Tryd.prog GG gm_coupletref18_Right := (GamOk.fn at_coupletref02_Right GamOk.bot)
def st_coupletref18_Right_0 (n8 : Int) (n9 : Int) (n10 : Int) (b11 : Bool) (b12 : Bool) (l13 : List Int) (b14 : Bool) (b15 : Bool) (l16 : List Int) : Option (((Int × Int × Int × Bool × Bool × List Int × Bool × Bool × List Int)) ⊕ (((Int × Int × Bool × Bool × List Int × Bool × Bool × List Int)) ⊕ (Bool))) :=
  bif (decide (n8 < (((List.length l13) : Nat) : Int))) then
   bif (decide (0 ≤ n8)) then
    bif (decide (n8 < (((List.length l13) : Nat) : Int))) then
     bif (decide ((Int.toNat n8) < (List.length l13))) then
      (go_coupletref02_Right (List.getD l13 (Int.toNat n8) 0)).bind fun r17 =>
      bif (!r17) then
       some (Sum.inr (Sum.inr false))
      else
       bif (decide (0 ≤ n8)) then
        bif (decide (n8 < (((List.length l16) : Nat) : Int))) then
         bif (decide ((Int.toNat n8) < (List.length l16))) then
          (go_coupletref02_Right (List.getD l16 (Int.toNat n8) 0)).bind fun r18 =>
          bif (!r18) then
           some (Sum.inr (Sum.inr false))
          else
           some (Sum.inl ((IntKind.wrap .i64 (n8 + 1)), n9, n10, b11, b12, l13, b14, b15, l16))
         else none
        else none
       else none
     else none
    else none
   else none
  else
   some (Sum.inr (Sum.inl (n9, n10, b11, b12, l13, b14, b15, l16)))
def lp_coupletref18_Right_0 (n8 : Int) (n9 : Int) (n10 : Int) (b11 : Bool) (b12 : Bool) (l13 : List Int) (b14 : Bool) (b15 : Bool) (l16 : List Int) : Option (((Int × Int × Bool × Bool × List Int × Bool × Bool × List Int)) ⊕ (Bool)) := loopN (X := (Int × Int × Int × Bool × Bool × List Int × Bool × Bool × List Int)) (fun x => st_coupletref18_Right_0 x.1 x.2.1 x.2.2.1 x.2.2.2.1 x.2.2.2.2.1 x.2.2.2.2.2.1 x.2.2.2.2.2.2.1 x.2.2.2.2.2.2.2.1 x.2.2.2.2.2.2.2.2) (n8, n9, n10, b11, b12, l13, b14, b15, l16)
def sh_coupletref18_Right_0 : StSh := ⟨70, [(1, (.ptr 0 0)), (3, (.p (.int .i64)))], [(.box 49 [(.p (.int .i64)), (.p (.int .i64)), (.p (.isl .i64)), (.p (.isl .i64))])]⟩
def sx_coupletref18_Right_0 (x : (Int × Int × Int × Bool × Bool × List Int × Bool × Bool × List Int)) : St := ⟨slots 70 0 [(1, (.ptr 0 0)), (3, (.p (.int .i64 x.1)))], [(.box 49 [(.p (.int .i64 x.2.1)), (.p (.int .i64 x.2.2.1)), (.p (.isl x.2.2.2.1 x.2.2.2.2.1 .i64 x.2.2.2.2.2.1)), (.p (.isl x.2.2.2.2.2.2.1 x.2.2.2.2.2.2.2.1 .i64 x.2.2.2.2.2.2.2.2))])]⟩
def sa_coupletref18_Right_0 (S : St) : (Int × Int × Int × Bool × Bool × List Int × Bool × Bool × List Int) := (((tls 3 S.t).headD .any).pv.num, (((tls 0 S.own).headD .gone).subs.headD .any).pv.num, (((tls 0 S.own).headD .gone).subs.tail.headD .any).pv.num, (((tls 0 S.own).headD .gone).subs.tail.tail.headD .any).pv.nl, (((tls 0 S.own).headD .gone).subs.tail.tail.headD .any).pv.ex, (((tls 0 S.own).headD .gone).subs.tail.tail.headD .any).pv.ints, (((tls 0 S.own).headD .gone).subs.tail.tail.tail.headD .any).pv.nl, (((tls 0 S.own).headD .gone).subs.tail.tail.tail.headD .any).pv.ex, (((tls 0 S.own).headD .gone).subs.tail.tail.tail.headD .any).pv.ints)
def tz_coupletref18_Right_0_1 : StSh := ⟨70, [(2, (.p .bool))], []⟩
def tx_coupletref18_Right_0_1 (x : Bool) : St := ⟨slots 70 0 [(2, (.p (.bool x)))], []⟩
def ta_coupletref18_Right_0_1 (S : St) : Bool := ((tls 2 S.t).headD .any).pv.tru
def tz_coupletref18_Right_0_0 : StSh := ⟨70, [(1, (.ptr 0 0))], [(.box 49 [(.p (.int .i64)), (.p (.int .i64)), (.p (.isl .i64)), (.p (.isl .i64))])]⟩
def tx_coupletref18_Right_0_0 (x : (Int × Int × Bool × Bool × List Int × Bool × Bool × List Int)) : St := ⟨slots 70 0 [(1, (.ptr 0 0))], [(.box 49 [(.p (.int .i64 x.1)), (.p (.int .i64 x.2.1)), (.p (.isl x.2.2.1 x.2.2.2.1 .i64 x.2.2.2.2.1)), (.p (.isl x.2.2.2.2.2.1 x.2.2.2.2.2.2.1 .i64 x.2.2.2.2.2.2.2))])]⟩
def ta_coupletref18_Right_0_0 (S : St) : (Int × Int × Bool × Bool × List Int × Bool × Bool × List Int) := ((((tls 0 S.own).headD .gone).subs.headD .any).pv.num, (((tls 0 S.own).headD .gone).subs.tail.headD .any).pv.num, (((tls 0 S.own).headD .gone).subs.tail.tail.headD .any).pv.nl, (((tls 0 S.own).headD .gone).subs.tail.tail.headD .any).pv.ex, (((tls 0 S.own).headD .gone).subs.tail.tail.headD .any).pv.ints, (((tls 0 S.own).headD .gone).subs.tail.tail.tail.headD .any).pv.nl, (((tls 0 S.own).headD .gone).subs.tail.tail.tail.headD .any).pv.ex, (((tls 0 S.own).headD .gone).subs.tail.tail.tail.headD .any).pv.ints)
def kb_coupletref18_Right_0 : Exit → St → Tree (((Int × Int × Int × Bool × Bool × List Int × Bool × Bool × List Int)) ⊕ (((Int × Int × Bool × Bool × List Int × Bool × Bool × List Int)) ⊕ (Bool))) := (exOne (.exit 0) [1] tz_coupletref18_Right_0_0 ta_coupletref18_Right_0_0 (fun y => Sum.inr ((Sum.inl y))) (exOne .ret [2] tz_coupletref18_Right_0_1 ta_coupletref18_Right_0_1 (fun y => Sum.inr ((Sum.inr y))) exNil))
def ky_coupletref18_Right_0 : Dec (((Int × Int × Bool × Bool × List Int × Bool × Bool × List Int)) ⊕ (Bool)) := fun _ y ke => .sum y (fun a => ke ((.exit 0) : EK).ex (tx_coupletref18_Right_0_0 a)) (fun y' => ke (.ret : EK).ex (tx_coupletref18_Right_0_1 y'))
theorem kk_coupletref18_Right_0 : ExOk Sum.inr kb_coupletref18_Right_0 ky_coupletref18_Right_0 := (ExOk.one (acc := ta_coupletref18_Right_0_0) (bY := tx_coupletref18_Right_0_0) (inj1 := fun y => (Sum.inl y)) (fun S => by kernel_rfl) (fun y _ ke => .inr (by kernel_rfl)) (ExOk.one (acc := ta_coupletref18_Right_0_1) (bY := tx_coupletref18_Right_0_1) (inj1 := fun y => (Sum.inr y)) (fun S => by kernel_rfl) (fun y _ ke => .inr (by kernel_rfl)) ExOk.nil))
def lm_coupletref18_Right : Lam := fun _ j S kn ke => match j with
  | 0 => prepT [1, 3] [] S fun S => .chk (sh_coupletref18_Right_0.ok S) (.bind (loopN (fun x => st_coupletref18_Right_0 x.1 x.2.1 x.2.2.1 x.2.2.2.1 x.2.2.2.2.1 x.2.2.2.2.2.1 x.2.2.2.2.2.2.1 x.2.2.2.2.2.2.2.1 x.2.2.2.2.2.2.2.2) (sa_coupletref18_Right_0 S)) fun y => ky_coupletref18_Right_0 _ y ke)
  | _ => .fail
theorem sr_coupletref18_Right_0 (x : (Int × Int × Int × Bool × Bool × List Int × Bool × Bool × List Int)) : (ev GG gm_coupletref18_Right lm_coupletref18_Right xb_coupletref18_Right_0 (sx_coupletref18_Right_0 x) (fun S => forgetT [1, 3] S fun S => prepT [1, 3] [] S fun S => .chk (sh_coupletref18_Right_0.ok S) (.leaf (.inl (sa_coupletref18_Right_0 S)))) kb_coupletref18_Right_0).run = st_coupletref18_Right_0 x.1 x.2.1 x.2.2.1 x.2.2.2.1 x.2.2.2.2.1 x.2.2.2.2.2.1 x.2.2.2.2.2.2.1 x.2.2.2.2.2.2.2.1 x.2.2.2.2.2.2.2.2 := by kernel_rfl
theorem la_coupletref18_Right_0 : LamAt Tryd.prog GG lm_coupletref18_Right 0 (.loop [1, 3] xb_coupletref18_Right_0.erase) := lam_loop (body := xb_coupletref18_Right_0) (Λ' := lm_coupletref18_Right) gk_coupletref18_Right (⟨⟨trivial, ⟨trivial, trivial⟩⟩, ⟨⟨trivial, ⟨⟨trivial, trivial⟩, trivial⟩⟩, trivial⟩⟩) (fun S => (by kernel_rfl : sh_coupletref18_Right_0.build S = sx_coupletref18_Right_0 (sa_coupletref18_Right_0 S))) kk_coupletref18_Right_0 sr_coupletref18_Right_0 (fun _ _ _ => rfl)
/-- coupletref18_Right -/
def go_coupletref18_Right (n0 : Int) (n1 : Int) (b2 : Bool) (b3 : Bool) (l4 : List Int) (b5 : Bool) (b6 : Bool) (l7 : List Int) : Option Bool :=
  bif (decide (n0 < 0)) then
   some false
  else
   bif (decide (n0 > 255)) then
    some false
   else
    bif (decide (n1 < 0)) then
     some false
    else
     bif (decide (n1 > 4294967295)) then
      some false
     else
      bif (decide ((((List.length l4) : Nat) : Int) > 4)) then
       some false
      else
       bif ((((List.length l4) : Nat) : Int) != (((List.length l7) : Nat) : Int)) then
        some false
       else
        (lp_coupletref18_Right_0 0 n0 n1 b2 b3 l4 b5 b6 l7).bind fun y19 =>
        Sum.elim (fun z20 =>
         some ((decide ((((List.length z20.2.2.2.2.1) : Nat) : Int) > 0)) == ((Int.tmod (IntKind.wrap .i64 (Int.tdiv z20.1 32)) 2) == 1))) (fun z21 =>
         some z21) y19
def em_coupletref18_Right (r : Bool) : PV := (.bool r)
def rh_coupletref18_Right : Shp := .bool
def ra_coupletref18_Right (v : PV) : Bool := v.tru
def kf_coupletref18_Right (v : PV) : Tree Bool := .chk (rh_coupletref18_Right.ok v) (.leaf (ra_coupletref18_Right v))
theorem rn_coupletref18_Right (n0 : Int) (n1 : Int) (b2 : Bool) (b3 : Bool) (l4 : List Int) (b5 : Bool) (b6 : Bool) (l7 : List Int) : (ev GG gm_coupletref18_Right lm_coupletref18_Right xr_coupletref18_Right ⟨slots 70 0 [(0, .p (.agg [(.int .i64 n0), (.int .i64 n1), (.isl b2 b3 .i64 l4), (.isl b5 b6 .i64 l7)]))], []⟩ (fun S => finT Tryd.prog rs_coupletref18_Right S kf_coupletref18_Right) (retT Tryd.prog rs_coupletref18_Right kf_coupletref18_Right)).run = go_coupletref18_Right n0 n1 b2 b3 l4 b5 b6 l7 := by kernel_rfl
theorem ok_coupletref18_Right (n0 : Int) (n1 : Int) (b2 : Bool) (b3 : Bool) (l4 : List Int) (b5 : Bool) (b6 : Bool) (l7 : List Int) (r : Bool) (h : go_coupletref18_Right n0 n1 b2 b3 l4 b5 b6 l7 = some r) : FunEq Tryd.prog GG 33 [(.agg [(.int .i64 n0), (.int .i64 n1), (.isl b2 b3 .i64 l4), (.isl b5 b6 .i64 l7)])] (em_coupletref18_Right r) :=
  fun_of_ev (x := xr_coupletref18_Right) (Λ := lm_coupletref18_Right) gk_coupletref18_Right [[1, 3]] Tryd.func33 rfl (by kernel_rfl) ir_coupletref18_Right (by kernel_rfl) (congrArg Array.toList Tryd.results33) Tryd.ntmps33 (⟨trivial, ⟨⟨trivial, ⟨⟨trivial, trivial⟩, trivial⟩⟩, ⟨⟨trivial, la_coupletref18_Right_0⟩, ⟨trivial, trivial⟩⟩⟩⟩) (leaf_of fun v => (by kernel_rfl : rh_coupletref18_Right.build v = em_coupletref18_Right (ra_coupletref18_Right v))) (by kernel_rfl) ((rn_coupletref18_Right n0 n1 b2 b3 l4 b5 b6 l7).trans h)
def as_coupletref18_Right : List Shp := [(.agg [(.int .i64), (.int .i64), (.isl .i64), (.isl .i64)])]
def ga_coupletref18_Right (vs : List PV) : Option Bool := go_coupletref18_Right (((tls 0 vs).headD .nilSl).subs.headD .nilSl).num (((tls 0 vs).headD .nilSl).subs.tail.headD .nilSl).num (((tls 0 vs).headD .nilSl).subs.tail.tail.headD .nilSl).nl (((tls 0 vs).headD .nilSl).subs.tail.tail.headD .nilSl).ex (((tls 0 vs).headD .nilSl).subs.tail.tail.headD .nilSl).ints (((tls 0 vs).headD .nilSl).subs.tail.tail.tail.headD .nilSl).nl (((tls 0 vs).headD .nilSl).subs.tail.tail.tail.headD .nilSl).ex (((tls 0 vs).headD .nilSl).subs.tail.tail.tail.headD .nilSl).ints
theorem at_coupletref18_Right : FnAt Tryd.prog GG 33 as_coupletref18_Right ga_coupletref18_Right em_coupletref18_Right := fun vs h r hr => by
  have e : Shp.buildL as_coupletref18_Right vs = [(.agg [(.int .i64 (((tls 0 vs).headD .nilSl).subs.headD .nilSl).num), (.int .i64 (((tls 0 vs).headD .nilSl).subs.tail.headD .nilSl).num), (.isl (((tls 0 vs).headD .nilSl).subs.tail.tail.headD .nilSl).nl (((tls 0 vs).headD .nilSl).subs.tail.tail.headD .nilSl).ex .i64 (((tls 0 vs).headD .nilSl).subs.tail.tail.headD .nilSl).ints), (.isl (((tls 0 vs).headD .nilSl).subs.tail.tail.tail.headD .nilSl).nl (((tls 0 vs).headD .nilSl).subs.tail.tail.tail.headD .nilSl).ex .i64 (((tls 0 vs).headD .nilSl).subs.tail.tail.tail.headD .nilSl).ints)])] := by kernel_rfl
  rw [← Shp.buildL_eq _ h, e]
  exact .inl ⟨by decide, ok_coupletref18_Right _ _ _ _ _ _ _ _ r hr⟩

def xb_coupletref18_bytes_0 : XR := (.seq (.seq (.ops false [⟨⟨(some 7), (.mv (.tmp 6)), none⟩, none⟩, ⟨⟨(some 8), (.mv (.tmp 1)), none⟩, none⟩, ⟨⟨(some 9), (.bin .lss (.tmp 7) (.tmp 8)), none⟩, none⟩]) (.cond (.tmp 9) .skip (.exit 0))) (.seq (.block 1 (.seq (.ops false [⟨⟨(some 12), (.mv (.tmp 5)), none⟩, none⟩, ⟨⟨(some 13), (.mv (.tmp 0)), none⟩, none⟩, ⟨⟨(some 14), (.bin .rem (.tmp 13) (.c (.int .u64 (256)))), none⟩, none⟩, ⟨⟨(some 15), (.cvtI .u8 (.tmp 14)), none⟩, none⟩, ⟨⟨(some 16), (.bsl 5 (some .u8) 1 [(.tmp 15)]), none⟩, none⟩, ⟨⟨(some 17), (.app 5 (some .u8) 1 1 (.tmp 12) (.tmp 16)), none⟩, none⟩, ⟨⟨(some 5), (.mv (.tmp 17)), none⟩, none⟩]) (.ops false [⟨⟨(some 18), (.mv (.tmp 0)), none⟩, none⟩, ⟨⟨(some 19), (.bin .quo (.tmp 18) (.c (.int .u64 (256)))), none⟩, none⟩, ⟨⟨(some 0), (.mv (.tmp 19)), none⟩, none⟩]))) (.ops false [⟨⟨(some 10), (.mv (.tmp 6)), none⟩, none⟩, ⟨⟨(some 11), (.bin .add (.tmp 10) (.c (.int .i64 (1)))), none⟩, none⟩, ⟨⟨(some 6), (.mv (.tmp 11)), none⟩, none⟩])))
def xr_coupletref18_bytes : XR := (.seq (.ops false [⟨⟨(some 4), (.mv (.c (.isl true true .u8 []))), none⟩, none⟩]) (.seq (.ops false [⟨⟨(some 5), (.mv (.c (.isl true true .u8 []))), none⟩, none⟩]) (.seq (.seq (.ops false [⟨⟨(some 6), (.mv (.c (.int .i64 (0)))), none⟩, none⟩]) (.block 0 (.loop 0 [0, 1, 5, 6] xb_coupletref18_bytes_0))) (.seq (.ops false [⟨⟨(some 20), (.mv (.tmp 5)), none⟩, none⟩, ⟨⟨(some 4), (.mv (.tmp 20)), none⟩, none⟩]) .ret))))
def rs_coupletref18_bytes : List ResultVar := [(.tmp 4)]
theorem ir_coupletref18_bytes : compCode Tryd.prog (Tryd.f62.body.getD .skip) [[0, 1, 5, 6]] = some (xr_coupletref18_bytes.erase, []) := by kernel_rfl
/-! coupletref18_bytes -/
def gm_coupletref18_bytes : Gam := Gam.bot
theorem gk_coupletref18_bytes : GamOk Tryd.prog GG gm_coupletref18_bytes := GamOk.bot
def st_coupletref18_bytes_0 (n2 : Int) (n3 : Int) (n4 : Int) (b5 : Bool) (b6 : Bool) (l7 : List Int) : Option (((Int × Int × Int × Bool × Bool × List Int)) ⊕ (((Bool × Bool × List Int)))) :=
  bif (decide (n4 < n3)) then
   bif (decide ((((List.length l7) + 1) * 1) ≤ 140737488355328)) then
    bif (decide (((List.length l7) + 1) ≤ 4611686018427387904)) then
     some (Sum.inl ((IntKind.wrap .u64 (Int.tdiv n2 256)), n3, (IntKind.wrap .i64 (n4 + 1)), (b5 && false), false, (l7 ++ [(IntKind.wrap .u8 (Int.tmod n2 256))])))
    else none
   else none
  else
   some (Sum.inr (b5, b6, l7))
def lp_coupletref18_bytes_0 (n2 : Int) (n3 : Int) (n4 : Int) (b5 : Bool) (b6 : Bool) (l7 : List Int) : Option (((Bool × Bool × List Int))) := loopN (X := (Int × Int × Int × Bool × Bool × List Int)) (fun x => st_coupletref18_bytes_0 x.1 x.2.1 x.2.2.1 x.2.2.2.1 x.2.2.2.2.1 x.2.2.2.2.2) (n2, n3, n4, b5, b6, l7)
def sh_coupletref18_bytes_0 : StSh := ⟨21, [(0, (.p (.int .u64))), (1, (.p (.int .i64))), (5, (.row 0)), (6, (.p (.int .i64)))], [(.irow 5 .u8)]⟩
def sx_coupletref18_bytes_0 (x : (Int × Int × Int × Bool × Bool × List Int)) : St := ⟨slots 21 0 [(0, (.p (.int .u64 x.1))), (1, (.p (.int .i64 x.2.1))), (5, (.row 0)), (6, (.p (.int .i64 x.2.2.1)))], [(.irow 5 .u8 x.2.2.2.1 x.2.2.2.2.1 x.2.2.2.2.2)]⟩
def sa_coupletref18_bytes_0 (S : St) : (Int × Int × Int × Bool × Bool × List Int) := (((tls 0 S.t).headD .any).pv.num, ((tls 1 S.t).headD .any).pv.num, ((tls 6 S.t).headD .any).pv.num, ((tls 0 S.own).headD .gone).pvD.nl, ((tls 0 S.own).headD .gone).pvD.ex, ((tls 0 S.own).headD .gone).pvD.ints)
def tz_coupletref18_bytes_0_0 : StSh := ⟨21, [(5, (.row 0))], [(.irow 5 .u8)]⟩
def tx_coupletref18_bytes_0_0 (x : (Bool × Bool × List Int)) : St := ⟨slots 21 0 [(5, (.row 0))], [(.irow 5 .u8 x.1 x.2.1 x.2.2)]⟩
def ta_coupletref18_bytes_0_0 (S : St) : (Bool × Bool × List Int) := (((tls 0 S.own).headD .gone).pvD.nl, ((tls 0 S.own).headD .gone).pvD.ex, ((tls 0 S.own).headD .gone).pvD.ints)
def kb_coupletref18_bytes_0 : Exit → St → Tree (((Int × Int × Int × Bool × Bool × List Int)) ⊕ (((Bool × Bool × List Int)))) := (exOne (.exit 0) [5] tz_coupletref18_bytes_0_0 ta_coupletref18_bytes_0_0 (fun y => Sum.inr (y)) exNil)
def ky_coupletref18_bytes_0 : Dec (((Bool × Bool × List Int))) := fun _ y ke => ke ((.exit 0) : EK).ex (tx_coupletref18_bytes_0_0 y)
theorem kk_coupletref18_bytes_0 : ExOk Sum.inr kb_coupletref18_bytes_0 ky_coupletref18_bytes_0 := (ExOk.one (acc := ta_coupletref18_bytes_0_0) (bY := tx_coupletref18_bytes_0_0) (inj1 := fun y => y) (fun S => by kernel_rfl) (fun y _ ke => .inr (by kernel_rfl)) ExOk.nil)
def lm_coupletref18_bytes : Lam := fun _ j S kn ke => match j with
  | 0 => prepT [0, 1, 5, 6] [(5, 5)] S fun S => .chk (sh_coupletref18_bytes_0.ok S) (.bind (loopN (fun x => st_coupletref18_bytes_0 x.1 x.2.1 x.2.2.1 x.2.2.2.1 x.2.2.2.2.1 x.2.2.2.2.2) (sa_coupletref18_bytes_0 S)) fun y => ky_coupletref18_bytes_0 _ y ke)
  | _ => .fail
theorem sr_coupletref18_bytes_0 (x : (Int × Int × Int × Bool × Bool × List Int)) : (ev GG gm_coupletref18_bytes lm_coupletref18_bytes xb_coupletref18_bytes_0 (sx_coupletref18_bytes_0 x) (fun S => forgetT [0, 1, 5, 6] S fun S => prepT [0, 1, 5, 6] [(5, 5)] S fun S => .chk (sh_coupletref18_bytes_0.ok S) (.leaf (.inl (sa_coupletref18_bytes_0 S)))) kb_coupletref18_bytes_0).run = st_coupletref18_bytes_0 x.1 x.2.1 x.2.2.1 x.2.2.2.1 x.2.2.2.2.1 x.2.2.2.2.2 := by kernel_rfl
theorem la_coupletref18_bytes_0 : LamAt Tryd.prog GG lm_coupletref18_bytes 0 (.loop [0, 1, 5, 6] xb_coupletref18_bytes_0.erase) := lam_loop (body := xb_coupletref18_bytes_0) (Λ' := lm_coupletref18_bytes) gk_coupletref18_bytes (⟨⟨trivial, ⟨trivial, trivial⟩⟩, ⟨⟨trivial, trivial⟩, trivial⟩⟩) (fun S => (by kernel_rfl : sh_coupletref18_bytes_0.build S = sx_coupletref18_bytes_0 (sa_coupletref18_bytes_0 S))) kk_coupletref18_bytes_0 sr_coupletref18_bytes_0 (fun _ _ _ => rfl)
/-- coupletref18_bytes -/
def go_coupletref18_bytes (n0 : Int) (n1 : Int) : Option (Bool × Bool × List Int) :=
  (lp_coupletref18_bytes_0 n0 n1 0 true true []).bind fun y8 =>
  some (y8.1, y8.2.1, y8.2.2)
def em_coupletref18_bytes (r : (Bool × Bool × List Int)) : PV := (.isl r.1 r.2.1 .u8 r.2.2)
def rh_coupletref18_bytes : Shp := (.isl .u8)
def ra_coupletref18_bytes (v : PV) : (Bool × Bool × List Int) := (v.nl, v.ex, v.ints)
def kf_coupletref18_bytes (v : PV) : Tree (Bool × Bool × List Int) := .chk (rh_coupletref18_bytes.ok v) (.leaf (ra_coupletref18_bytes v))
theorem rn_coupletref18_bytes (n0 : Int) (n1 : Int) : (ev GG gm_coupletref18_bytes lm_coupletref18_bytes xr_coupletref18_bytes ⟨slots 21 0 [(0, .p (.int .u64 n0)), (1, .p (.int .i64 n1))], []⟩ (fun S => finT Tryd.prog rs_coupletref18_bytes S kf_coupletref18_bytes) (retT Tryd.prog rs_coupletref18_bytes kf_coupletref18_bytes)).run = go_coupletref18_bytes n0 n1 := by kernel_rfl
theorem ok_coupletref18_bytes (n0 : Int) (n1 : Int) (r : (Bool × Bool × List Int)) (h : go_coupletref18_bytes n0 n1 = some r) : FunEq Tryd.prog GG 62 [(.int .u64 n0), (.int .i64 n1)] (em_coupletref18_bytes r) :=
  fun_of_ev (x := xr_coupletref18_bytes) (Λ := lm_coupletref18_bytes) gk_coupletref18_bytes [[0, 1, 5, 6]] Tryd.func62 rfl (by kernel_rfl) ir_coupletref18_bytes (by kernel_rfl) (congrArg Array.toList Tryd.results62) Tryd.ntmps62 (⟨trivial, ⟨trivial, ⟨⟨trivial, la_coupletref18_bytes_0⟩, ⟨trivial, trivial⟩⟩⟩⟩) (leaf_of fun v => (by kernel_rfl : rh_coupletref18_bytes.build v = em_coupletref18_bytes (ra_coupletref18_bytes v))) (by kernel_rfl) ((rn_coupletref18_bytes n0 n1).trans h)
def as_coupletref18_bytes : List Shp := [(.int .u64), (.int .i64)]
def ga_coupletref18_bytes (vs : List PV) : Option (Bool × Bool × List Int) := go_coupletref18_bytes ((tls 0 vs).headD .nilSl).num ((tls 1 vs).headD .nilSl).num
theorem at_coupletref18_bytes : FnAt Tryd.prog GG 62 as_coupletref18_bytes ga_coupletref18_bytes em_coupletref18_bytes := fun vs h r hr => by
  have e : Shp.buildL as_coupletref18_bytes vs = [(.int .u64 ((tls 0 vs).headD .nilSl).num), (.int .i64 ((tls 1 vs).headD .nilSl).num)] := by kernel_rfl
  rw [← Shp.buildL_eq _ h, e]
  exact .inl ⟨by decide, ok_coupletref18_bytes _ _ r hr⟩

def xb_coupletref18_Encode_0 : XR := (.seq (.seq (.ops false [⟨⟨(some 20), (.mv (.tmp 4)), none⟩, none⟩, ⟨⟨(some 21), (.fldA 2 (.tmp 1)), none⟩, none⟩, ⟨⟨(some 22), (.ld false 1 (.tmp 21)), none⟩, (some (.isl .i64))⟩, ⟨⟨(some 23), (.len (.tmp 22)), none⟩, none⟩, ⟨⟨(some 24), (.bin .lss (.tmp 20) (.tmp 23)), none⟩, none⟩]) (.cond (.tmp 24) .skip (.exit 0))) (.seq (.block 1 (.ops false [⟨⟨(some 27), (.mv (.tmp 3)), none⟩, none⟩, ⟨⟨(some 28), (.fldA 2 (.tmp 1)), none⟩, none⟩, ⟨⟨(some 29), (.ld false 1 (.tmp 28)), none⟩, (some (.isl .i64))⟩, ⟨⟨(some 30), (.mv (.tmp 4)), none⟩, none⟩, ⟨⟨(some 31), (.ixA 1 (.tmp 29) (.tmp 30)), none⟩, none⟩, ⟨⟨(some 32), (.ld false 1 (.tmp 31)), none⟩, (some (.int .i64))⟩, ⟨⟨(some 33), (.cvtI .u64 (.tmp 32)), none⟩, none⟩, ⟨⟨(some 34), (.call (.func 62) [(.tmp 33), (.c (.int .i64 (8)))]), none⟩, none⟩, ⟨⟨(some 35), (.app 5 (some .u8) 1 1 (.tmp 27) (.tmp 34)), none⟩, none⟩, ⟨⟨(some 3), (.mv (.tmp 35)), none⟩, none⟩])) (.ops false [⟨⟨(some 25), (.mv (.tmp 4)), none⟩, none⟩, ⟨⟨(some 26), (.bin .add (.tmp 25) (.c (.int .i64 (1)))), none⟩, none⟩, ⟨⟨(some 4), (.mv (.tmp 26)), none⟩, none⟩])))
def xb_coupletref18_Encode_1 : XR := (.seq (.seq (.ops false [⟨⟨(some 36), (.mv (.tmp 5)), none⟩, none⟩, ⟨⟨(some 37), (.fldA 3 (.tmp 1)), none⟩, none⟩, ⟨⟨(some 38), (.ld false 1 (.tmp 37)), none⟩, (some (.isl .i64))⟩, ⟨⟨(some 39), (.len (.tmp 38)), none⟩, none⟩, ⟨⟨(some 40), (.bin .lss (.tmp 36) (.tmp 39)), none⟩, none⟩]) (.cond (.tmp 40) .skip (.exit 2))) (.seq (.block 3 (.ops false [⟨⟨(some 43), (.mv (.tmp 3)), none⟩, none⟩, ⟨⟨(some 44), (.fldA 3 (.tmp 1)), none⟩, none⟩, ⟨⟨(some 45), (.ld false 1 (.tmp 44)), none⟩, (some (.isl .i64))⟩, ⟨⟨(some 46), (.mv (.tmp 5)), none⟩, none⟩, ⟨⟨(some 47), (.ixA 1 (.tmp 45) (.tmp 46)), none⟩, none⟩, ⟨⟨(some 48), (.ld false 1 (.tmp 47)), none⟩, (some (.int .i64))⟩, ⟨⟨(some 49), (.cvtI .u64 (.tmp 48)), none⟩, none⟩, ⟨⟨(some 50), (.call (.func 62) [(.tmp 49), (.c (.int .i64 (8)))]), none⟩, none⟩, ⟨⟨(some 51), (.app 5 (some .u8) 1 1 (.tmp 43) (.tmp 50)), none⟩, none⟩, ⟨⟨(some 3), (.mv (.tmp 51)), none⟩, none⟩])) (.ops false [⟨⟨(some 41), (.mv (.tmp 5)), none⟩, none⟩, ⟨⟨(some 42), (.bin .add (.tmp 41) (.c (.int .i64 (1)))), none⟩, none⟩, ⟨⟨(some 5), (.mv (.tmp 42)), none⟩, none⟩])))
def xr_coupletref18_Encode : XR := (.seq (.ops false [⟨⟨(some 1), (.box 49 (.tmp 0)), none⟩, none⟩, ⟨⟨(some 2), (.mv (.c (.isl true true .u8 []))), none⟩, none⟩]) (.seq (.ops false [⟨⟨(some 6), (.fldA 0 (.tmp 1)), none⟩, none⟩, ⟨⟨(some 7), (.ld false 1 (.tmp 6)), none⟩, (some (.int .i64))⟩, ⟨⟨(some 8), (.cvtI .u8 (.tmp 7)), none⟩, none⟩, ⟨⟨(some 9), (.fldA 2 (.tmp 1)), none⟩, none⟩, ⟨⟨(some 10), (.ld false 1 (.tmp 9)), none⟩, (some (.isl .i64))⟩, ⟨⟨(some 11), (.len (.tmp 10)), none⟩, none⟩, ⟨⟨(some 12), (.cvtI .u8 (.tmp 11)), none⟩, none⟩, ⟨⟨(some 13), (.bsl 5 (some .u8) 1 [(.c (.int .u8 (78))), (.c (.int .u8 (82))), (.tmp 8), (.tmp 12)]), none⟩, none⟩, ⟨⟨(some 3), (.mv (.tmp 13)), none⟩, none⟩]) (.seq (.ops false [⟨⟨(some 14), (.mv (.tmp 3)), none⟩, none⟩, ⟨⟨(some 15), (.fldA 1 (.tmp 1)), none⟩, none⟩, ⟨⟨(some 16), (.ld false 1 (.tmp 15)), none⟩, (some (.int .i64))⟩, ⟨⟨(some 17), (.cvtI .u64 (.tmp 16)), none⟩, none⟩, ⟨⟨(some 18), (.call (.func 62) [(.tmp 17), (.c (.int .i64 (4)))]), none⟩, none⟩, ⟨⟨(some 19), (.app 5 (some .u8) 1 1 (.tmp 14) (.tmp 18)), none⟩, none⟩, ⟨⟨(some 3), (.mv (.tmp 19)), none⟩, none⟩]) (.seq (.seq (.ops false [⟨⟨(some 4), (.mv (.c (.int .i64 (0)))), none⟩, none⟩]) (.block 0 (.loop 0 [1, 3, 4] xb_coupletref18_Encode_0))) (.seq (.seq (.ops false [⟨⟨(some 5), (.mv (.c (.int .i64 (0)))), none⟩, none⟩]) (.block 2 (.loop 1 [1, 3, 5] xb_coupletref18_Encode_1))) (.seq (.ops false [⟨⟨(some 52), (.mv (.tmp 3)), none⟩, none⟩, ⟨⟨(some 53), (.mv (.tmp 3)), none⟩, none⟩, ⟨⟨(some 54), (.call (.func 55) [(.tmp 53)]), none⟩, none⟩, ⟨⟨(some 55), (.cvtI .u64 (.tmp 54)), none⟩, none⟩, ⟨⟨(some 56), (.call (.func 62) [(.tmp 55), (.c (.int .i64 (4)))]), none⟩, none⟩, ⟨⟨(some 57), (.app 5 (some .u8) 1 1 (.tmp 52) (.tmp 56)), none⟩, none⟩, ⟨⟨(some 2), (.mv (.tmp 57)), none⟩, none⟩]) .ret))))))
def rs_coupletref18_Encode : List ResultVar := [(.tmp 2)]
theorem ir_coupletref18_Encode : compCode Tryd.prog (Tryd.f37.body.getD .skip) [[1, 3, 4], [1, 3, 5]] = some (xr_coupletref18_Encode.erase, []) := by kernel_rfl
/-! coupletref18_Encode -/
def gm_coupletref18_Encode : Gam := (Gam.fn 62 as_coupletref18_bytes ga_coupletref18_bytes em_coupletref18_bytes (Gam.fn 55 as_coupletref11_Of ga_coupletref11_Of em_coupletref11_Of Gam.bot))
theorem gk_coupletref18_Encode : GamOk Tryd.prog GG gm_coupletref18_Encode := (GamOk.fn at_coupletref18_bytes (GamOk.fn at_coupletref11_Of GamOk.bot))
def st_coupletref18_Encode_1 (n23 : Int) (n24 : Int) (n25 : Int) (b26 : Bool) (b27 : Bool) (l28 : List Int) (b29 : Bool) (b30 : Bool) (l31 : List Int) (b32 : Bool) (b33 : Bool) (l34 : List Int) : Option (((Int × Int × Int × Bool × Bool × List Int × Bool × Bool × List Int × Bool × Bool × List Int)) ⊕ (((Bool × Bool × List Int)))) :=
  bif (decide (n23 < (((List.length l31) : Nat) : Int))) then
   bif (decide (0 ≤ n23)) then
    bif (decide (n23 < (((List.length l31) : Nat) : Int))) then
     bif (decide ((Int.toNat n23) < (List.length l31))) then
      (go_coupletref18_bytes (IntKind.wrap .u64 (List.getD l31 (Int.toNat n23) 0)) 8).bind fun r35 =>
      bif (decide ((((List.length l34) + (List.length r35.2.2)) * 1) ≤ 140737488355328)) then
       bif (decide (((List.length l34) + (List.length r35.2.2)) ≤ 4611686018427387904)) then
        some (Sum.inl ((IntKind.wrap .i64 (n23 + 1)), n24, n25, b26, b27, l28, b29, b30, l31, (b32 && (List.isEmpty r35.2.2)), false, (l34 ++ r35.2.2)))
       else none
      else none
     else none
    else none
   else none
  else
   some (Sum.inr (b32, b33, l34))
def lp_coupletref18_Encode_1 (n23 : Int) (n24 : Int) (n25 : Int) (b26 : Bool) (b27 : Bool) (l28 : List Int) (b29 : Bool) (b30 : Bool) (l31 : List Int) (b32 : Bool) (b33 : Bool) (l34 : List Int) : Option (((Bool × Bool × List Int))) := loopN (X := (Int × Int × Int × Bool × Bool × List Int × Bool × Bool × List Int × Bool × Bool × List Int)) (fun x => st_coupletref18_Encode_1 x.1 x.2.1 x.2.2.1 x.2.2.2.1 x.2.2.2.2.1 x.2.2.2.2.2.1 x.2.2.2.2.2.2.1 x.2.2.2.2.2.2.2.1 x.2.2.2.2.2.2.2.2.1 x.2.2.2.2.2.2.2.2.2.1 x.2.2.2.2.2.2.2.2.2.2.1 x.2.2.2.2.2.2.2.2.2.2.2) (n23, n24, n25, b26, b27, l28, b29, b30, l31, b32, b33, l34)
def sh_coupletref18_Encode_1 : StSh := ⟨58, [(1, (.ptr 0 0)), (3, (.row 1)), (5, (.p (.int .i64)))], [(.box 49 [(.p (.int .i64)), (.p (.int .i64)), (.p (.isl .i64)), (.p (.isl .i64))]), (.irow 5 .u8)]⟩
def sx_coupletref18_Encode_1 (x : (Int × Int × Int × Bool × Bool × List Int × Bool × Bool × List Int × Bool × Bool × List Int)) : St := ⟨slots 58 0 [(1, (.ptr 0 0)), (3, (.row 1)), (5, (.p (.int .i64 x.1)))], [(.box 49 [(.p (.int .i64 x.2.1)), (.p (.int .i64 x.2.2.1)), (.p (.isl x.2.2.2.1 x.2.2.2.2.1 .i64 x.2.2.2.2.2.1)), (.p (.isl x.2.2.2.2.2.2.1 x.2.2.2.2.2.2.2.1 .i64 x.2.2.2.2.2.2.2.2.1))]), (.irow 5 .u8 x.2.2.2.2.2.2.2.2.2.1 x.2.2.2.2.2.2.2.2.2.2.1 x.2.2.2.2.2.2.2.2.2.2.2)]⟩
def sa_coupletref18_Encode_1 (S : St) : (Int × Int × Int × Bool × Bool × List Int × Bool × Bool × List Int × Bool × Bool × List Int) := (((tls 5 S.t).headD .any).pv.num, (((tls 0 S.own).headD .gone).subs.headD .any).pv.num, (((tls 0 S.own).headD .gone).subs.tail.headD .any).pv.num, (((tls 0 S.own).headD .gone).subs.tail.tail.headD .any).pv.nl, (((tls 0 S.own).headD .gone).subs.tail.tail.headD .any).pv.ex, (((tls 0 S.own).headD .gone).subs.tail.tail.headD .any).pv.ints, (((tls 0 S.own).headD .gone).subs.tail.tail.tail.headD .any).pv.nl, (((tls 0 S.own).headD .gone).subs.tail.tail.tail.headD .any).pv.ex, (((tls 0 S.own).headD .gone).subs.tail.tail.tail.headD .any).pv.ints, ((tls 1 S.own).headD .gone).pvD.nl, ((tls 1 S.own).headD .gone).pvD.ex, ((tls 1 S.own).headD .gone).pvD.ints)
def tz_coupletref18_Encode_1_0 : StSh := ⟨58, [(3, (.row 0))], [(.irow 5 .u8)]⟩
def tx_coupletref18_Encode_1_0 (x : (Bool × Bool × List Int)) : St := ⟨slots 58 0 [(3, (.row 0))], [(.irow 5 .u8 x.1 x.2.1 x.2.2)]⟩
def ta_coupletref18_Encode_1_0 (S : St) : (Bool × Bool × List Int) := (((tls 0 S.own).headD .gone).pvD.nl, ((tls 0 S.own).headD .gone).pvD.ex, ((tls 0 S.own).headD .gone).pvD.ints)
def kb_coupletref18_Encode_1 : Exit → St → Tree (((Int × Int × Int × Bool × Bool × List Int × Bool × Bool × List Int × Bool × Bool × List Int)) ⊕ (((Bool × Bool × List Int)))) := (exOne (.exit 2) [3] tz_coupletref18_Encode_1_0 ta_coupletref18_Encode_1_0 (fun y => Sum.inr (y)) exNil)
def ky_coupletref18_Encode_1 : Dec (((Bool × Bool × List Int))) := fun _ y ke => ke ((.exit 2) : EK).ex (tx_coupletref18_Encode_1_0 y)
theorem kk_coupletref18_Encode_1 : ExOk Sum.inr kb_coupletref18_Encode_1 ky_coupletref18_Encode_1 := (ExOk.one (acc := ta_coupletref18_Encode_1_0) (bY := tx_coupletref18_Encode_1_0) (inj1 := fun y => y) (fun S => by kernel_rfl) (fun y _ ke => .inr (by kernel_rfl)) ExOk.nil)
def st_coupletref18_Encode_0 (n9 : Int) (n10 : Int) (n11 : Int) (b12 : Bool) (b13 : Bool) (l14 : List Int) (b15 : Bool) (b16 : Bool) (l17 : List Int) (b18 : Bool) (b19 : Bool) (l20 : List Int) : Option (((Int × Int × Int × Bool × Bool × List Int × Bool × Bool × List Int × Bool × Bool × List Int)) ⊕ (((Int × Int × Bool × Bool × List Int × Bool × Bool × List Int × Bool × Bool × List Int)))) :=
  bif (decide (n9 < (((List.length l14) : Nat) : Int))) then
   bif (decide (0 ≤ n9)) then
    bif (decide (n9 < (((List.length l14) : Nat) : Int))) then
     bif (decide ((Int.toNat n9) < (List.length l14))) then
      (go_coupletref18_bytes (IntKind.wrap .u64 (List.getD l14 (Int.toNat n9) 0)) 8).bind fun r21 =>
      bif (decide ((((List.length l20) + (List.length r21.2.2)) * 1) ≤ 140737488355328)) then
       bif (decide (((List.length l20) + (List.length r21.2.2)) ≤ 4611686018427387904)) then
        some (Sum.inl ((IntKind.wrap .i64 (n9 + 1)), n10, n11, b12, b13, l14, b15, b16, l17, (b18 && (List.isEmpty r21.2.2)), false, (l20 ++ r21.2.2)))
       else none
      else none
     else none
    else none
   else none
  else
   some (Sum.inr (n10, n11, b12, b13, l14, b15, b16, l17, b18, b19, l20))
def lp_coupletref18_Encode_0 (n9 : Int) (n10 : Int) (n11 : Int) (b12 : Bool) (b13 : Bool) (l14 : List Int) (b15 : Bool) (b16 : Bool) (l17 : List Int) (b18 : Bool) (b19 : Bool) (l20 : List Int) : Option (((Int × Int × Bool × Bool × List Int × Bool × Bool × List Int × Bool × Bool × List Int))) := loopN (X := (Int × Int × Int × Bool × Bool × List Int × Bool × Bool × List Int × Bool × Bool × List Int)) (fun x => st_coupletref18_Encode_0 x.1 x.2.1 x.2.2.1 x.2.2.2.1 x.2.2.2.2.1 x.2.2.2.2.2.1 x.2.2.2.2.2.2.1 x.2.2.2.2.2.2.2.1 x.2.2.2.2.2.2.2.2.1 x.2.2.2.2.2.2.2.2.2.1 x.2.2.2.2.2.2.2.2.2.2.1 x.2.2.2.2.2.2.2.2.2.2.2) (n9, n10, n11, b12, b13, l14, b15, b16, l17, b18, b19, l20)
def sh_coupletref18_Encode_0 : StSh := ⟨58, [(1, (.ptr 0 0)), (3, (.row 1)), (4, (.p (.int .i64)))], [(.box 49 [(.p (.int .i64)), (.p (.int .i64)), (.p (.isl .i64)), (.p (.isl .i64))]), (.irow 5 .u8)]⟩
def sx_coupletref18_Encode_0 (x : (Int × Int × Int × Bool × Bool × List Int × Bool × Bool × List Int × Bool × Bool × List Int)) : St := ⟨slots 58 0 [(1, (.ptr 0 0)), (3, (.row 1)), (4, (.p (.int .i64 x.1)))], [(.box 49 [(.p (.int .i64 x.2.1)), (.p (.int .i64 x.2.2.1)), (.p (.isl x.2.2.2.1 x.2.2.2.2.1 .i64 x.2.2.2.2.2.1)), (.p (.isl x.2.2.2.2.2.2.1 x.2.2.2.2.2.2.2.1 .i64 x.2.2.2.2.2.2.2.2.1))]), (.irow 5 .u8 x.2.2.2.2.2.2.2.2.2.1 x.2.2.2.2.2.2.2.2.2.2.1 x.2.2.2.2.2.2.2.2.2.2.2)]⟩
def sa_coupletref18_Encode_0 (S : St) : (Int × Int × Int × Bool × Bool × List Int × Bool × Bool × List Int × Bool × Bool × List Int) := (((tls 4 S.t).headD .any).pv.num, (((tls 0 S.own).headD .gone).subs.headD .any).pv.num, (((tls 0 S.own).headD .gone).subs.tail.headD .any).pv.num, (((tls 0 S.own).headD .gone).subs.tail.tail.headD .any).pv.nl, (((tls 0 S.own).headD .gone).subs.tail.tail.headD .any).pv.ex, (((tls 0 S.own).headD .gone).subs.tail.tail.headD .any).pv.ints, (((tls 0 S.own).headD .gone).subs.tail.tail.tail.headD .any).pv.nl, (((tls 0 S.own).headD .gone).subs.tail.tail.tail.headD .any).pv.ex, (((tls 0 S.own).headD .gone).subs.tail.tail.tail.headD .any).pv.ints, ((tls 1 S.own).headD .gone).pvD.nl, ((tls 1 S.own).headD .gone).pvD.ex, ((tls 1 S.own).headD .gone).pvD.ints)
def tz_coupletref18_Encode_0_0 : StSh := ⟨58, [(1, (.ptr 0 0)), (3, (.row 1))], [(.box 49 [(.p (.int .i64)), (.p (.int .i64)), (.p (.isl .i64)), (.p (.isl .i64))]), (.irow 5 .u8)]⟩
def tx_coupletref18_Encode_0_0 (x : (Int × Int × Bool × Bool × List Int × Bool × Bool × List Int × Bool × Bool × List Int)) : St := ⟨slots 58 0 [(1, (.ptr 0 0)), (3, (.row 1))], [(.box 49 [(.p (.int .i64 x.1)), (.p (.int .i64 x.2.1)), (.p (.isl x.2.2.1 x.2.2.2.1 .i64 x.2.2.2.2.1)), (.p (.isl x.2.2.2.2.2.1 x.2.2.2.2.2.2.1 .i64 x.2.2.2.2.2.2.2.1))]), (.irow 5 .u8 x.2.2.2.2.2.2.2.2.1 x.2.2.2.2.2.2.2.2.2.1 x.2.2.2.2.2.2.2.2.2.2)]⟩
def ta_coupletref18_Encode_0_0 (S : St) : (Int × Int × Bool × Bool × List Int × Bool × Bool × List Int × Bool × Bool × List Int) := ((((tls 0 S.own).headD .gone).subs.headD .any).pv.num, (((tls 0 S.own).headD .gone).subs.tail.headD .any).pv.num, (((tls 0 S.own).headD .gone).subs.tail.tail.headD .any).pv.nl, (((tls 0 S.own).headD .gone).subs.tail.tail.headD .any).pv.ex, (((tls 0 S.own).headD .gone).subs.tail.tail.headD .any).pv.ints, (((tls 0 S.own).headD .gone).subs.tail.tail.tail.headD .any).pv.nl, (((tls 0 S.own).headD .gone).subs.tail.tail.tail.headD .any).pv.ex, (((tls 0 S.own).headD .gone).subs.tail.tail.tail.headD .any).pv.ints, ((tls 1 S.own).headD .gone).pvD.nl, ((tls 1 S.own).headD .gone).pvD.ex, ((tls 1 S.own).headD .gone).pvD.ints)
def kb_coupletref18_Encode_0 : Exit → St → Tree (((Int × Int × Int × Bool × Bool × List Int × Bool × Bool × List Int × Bool × Bool × List Int)) ⊕ (((Int × Int × Bool × Bool × List Int × Bool × Bool × List Int × Bool × Bool × List Int)))) := (exOne (.exit 0) [1, 3] tz_coupletref18_Encode_0_0 ta_coupletref18_Encode_0_0 (fun y => Sum.inr (y)) exNil)
def ky_coupletref18_Encode_0 : Dec (((Int × Int × Bool × Bool × List Int × Bool × Bool × List Int × Bool × Bool × List Int))) := fun _ y ke => ke ((.exit 0) : EK).ex (tx_coupletref18_Encode_0_0 y)
theorem kk_coupletref18_Encode_0 : ExOk Sum.inr kb_coupletref18_Encode_0 ky_coupletref18_Encode_0 := (ExOk.one (acc := ta_coupletref18_Encode_0_0) (bY := tx_coupletref18_Encode_0_0) (inj1 := fun y => y) (fun S => by kernel_rfl) (fun y _ ke => .inr (by kernel_rfl)) ExOk.nil)
def lm_coupletref18_Encode : Lam := fun _ j S kn ke => match j with
  | 0 => prepT [1, 3, 4] [] S fun S => .chk (sh_coupletref18_Encode_0.ok S) (.bind (loopN (fun x => st_coupletref18_Encode_0 x.1 x.2.1 x.2.2.1 x.2.2.2.1 x.2.2.2.2.1 x.2.2.2.2.2.1 x.2.2.2.2.2.2.1 x.2.2.2.2.2.2.2.1 x.2.2.2.2.2.2.2.2.1 x.2.2.2.2.2.2.2.2.2.1 x.2.2.2.2.2.2.2.2.2.2.1 x.2.2.2.2.2.2.2.2.2.2.2) (sa_coupletref18_Encode_0 S)) fun y => ky_coupletref18_Encode_0 _ y ke)
  | 1 => prepT [1, 3, 5] [] S fun S => .chk (sh_coupletref18_Encode_1.ok S) (.bind (loopN (fun x => st_coupletref18_Encode_1 x.1 x.2.1 x.2.2.1 x.2.2.2.1 x.2.2.2.2.1 x.2.2.2.2.2.1 x.2.2.2.2.2.2.1 x.2.2.2.2.2.2.2.1 x.2.2.2.2.2.2.2.2.1 x.2.2.2.2.2.2.2.2.2.1 x.2.2.2.2.2.2.2.2.2.2.1 x.2.2.2.2.2.2.2.2.2.2.2) (sa_coupletref18_Encode_1 S)) fun y => ky_coupletref18_Encode_1 _ y ke)
  | _ => .fail
theorem sr_coupletref18_Encode_1 (x : (Int × Int × Int × Bool × Bool × List Int × Bool × Bool × List Int × Bool × Bool × List Int)) : (ev GG gm_coupletref18_Encode lm_coupletref18_Encode xb_coupletref18_Encode_1 (sx_coupletref18_Encode_1 x) (fun S => forgetT [1, 3, 5] S fun S => prepT [1, 3, 5] [] S fun S => .chk (sh_coupletref18_Encode_1.ok S) (.leaf (.inl (sa_coupletref18_Encode_1 S)))) kb_coupletref18_Encode_1).run = st_coupletref18_Encode_1 x.1 x.2.1 x.2.2.1 x.2.2.2.1 x.2.2.2.2.1 x.2.2.2.2.2.1 x.2.2.2.2.2.2.1 x.2.2.2.2.2.2.2.1 x.2.2.2.2.2.2.2.2.1 x.2.2.2.2.2.2.2.2.2.1 x.2.2.2.2.2.2.2.2.2.2.1 x.2.2.2.2.2.2.2.2.2.2.2 := by kernel_rfl
theorem la_coupletref18_Encode_1 : LamAt Tryd.prog GG lm_coupletref18_Encode 1 (.loop [1, 3, 5] xb_coupletref18_Encode_1.erase) := lam_loop (body := xb_coupletref18_Encode_1) (Λ' := lm_coupletref18_Encode) gk_coupletref18_Encode (⟨⟨trivial, ⟨trivial, trivial⟩⟩, ⟨trivial, trivial⟩⟩) (fun S => (by kernel_rfl : sh_coupletref18_Encode_1.build S = sx_coupletref18_Encode_1 (sa_coupletref18_Encode_1 S))) kk_coupletref18_Encode_1 sr_coupletref18_Encode_1 (fun _ _ _ => rfl)
theorem sr_coupletref18_Encode_0 (x : (Int × Int × Int × Bool × Bool × List Int × Bool × Bool × List Int × Bool × Bool × List Int)) : (ev GG gm_coupletref18_Encode lm_coupletref18_Encode xb_coupletref18_Encode_0 (sx_coupletref18_Encode_0 x) (fun S => forgetT [1, 3, 4] S fun S => prepT [1, 3, 4] [] S fun S => .chk (sh_coupletref18_Encode_0.ok S) (.leaf (.inl (sa_coupletref18_Encode_0 S)))) kb_coupletref18_Encode_0).run = st_coupletref18_Encode_0 x.1 x.2.1 x.2.2.1 x.2.2.2.1 x.2.2.2.2.1 x.2.2.2.2.2.1 x.2.2.2.2.2.2.1 x.2.2.2.2.2.2.2.1 x.2.2.2.2.2.2.2.2.1 x.2.2.2.2.2.2.2.2.2.1 x.2.2.2.2.2.2.2.2.2.2.1 x.2.2.2.2.2.2.2.2.2.2.2 := by kernel_rfl
theorem la_coupletref18_Encode_0 : LamAt Tryd.prog GG lm_coupletref18_Encode 0 (.loop [1, 3, 4] xb_coupletref18_Encode_0.erase) := lam_loop (body := xb_coupletref18_Encode_0) (Λ' := lm_coupletref18_Encode) gk_coupletref18_Encode (⟨⟨trivial, ⟨trivial, trivial⟩⟩, ⟨trivial, trivial⟩⟩) (fun S => (by kernel_rfl : sh_coupletref18_Encode_0.build S = sx_coupletref18_Encode_0 (sa_coupletref18_Encode_0 S))) kk_coupletref18_Encode_0 sr_coupletref18_Encode_0 (fun _ _ _ => rfl)
/-- coupletref18_Encode -/
def go_coupletref18_Encode (n0 : Int) (n1 : Int) (b2 : Bool) (b3 : Bool) (l4 : List Int) (b5 : Bool) (b6 : Bool) (l7 : List Int) : Option (Bool × Bool × List Int) :=
  (go_coupletref18_bytes (IntKind.wrap .u64 n1) 4).bind fun r8 =>
  bif (decide (((4 + (List.length r8.2.2)) * 1) ≤ 140737488355328)) then
   bif (decide ((4 + (List.length r8.2.2)) ≤ 4611686018427387904)) then
    (lp_coupletref18_Encode_0 0 n0 n1 b2 b3 l4 b5 b6 l7 (false && (List.isEmpty r8.2.2)) false (78 :: 82 :: (IntKind.wrap .u8 n0) :: (IntKind.wrap .u8 (((List.length l4) : Nat) : Int)) :: r8.2.2)).bind fun y22 =>
    (lp_coupletref18_Encode_1 0 y22.1 y22.2.1 y22.2.2.1 y22.2.2.2.1 y22.2.2.2.2.1 y22.2.2.2.2.2.1 y22.2.2.2.2.2.2.1 y22.2.2.2.2.2.2.2.1 y22.2.2.2.2.2.2.2.2.1 y22.2.2.2.2.2.2.2.2.2.1 y22.2.2.2.2.2.2.2.2.2.2).bind fun y36 =>
    (go_coupletref11_Of y36.1 y36.2.1 y36.2.2).bind fun r37 =>
    (go_coupletref18_bytes (IntKind.wrap .u64 r37) 4).bind fun r38 =>
    bif (decide ((((List.length y36.2.2) + (List.length r38.2.2)) * 1) ≤ 140737488355328)) then
     bif (decide (((List.length y36.2.2) + (List.length r38.2.2)) ≤ 4611686018427387904)) then
      some ((y36.1 && (List.isEmpty r38.2.2)), false, (y36.2.2 ++ r38.2.2))
     else none
    else none
   else none
  else none
def em_coupletref18_Encode (r : (Bool × Bool × List Int)) : PV := (.isl r.1 r.2.1 .u8 r.2.2)
def rh_coupletref18_Encode : Shp := (.isl .u8)
def ra_coupletref18_Encode (v : PV) : (Bool × Bool × List Int) := (v.nl, v.ex, v.ints)
def kf_coupletref18_Encode (v : PV) : Tree (Bool × Bool × List Int) := .chk (rh_coupletref18_Encode.ok v) (.leaf (ra_coupletref18_Encode v))
theorem rn_coupletref18_Encode (n0 : Int) (n1 : Int) (b2 : Bool) (b3 : Bool) (l4 : List Int) (b5 : Bool) (b6 : Bool) (l7 : List Int) : (ev GG gm_coupletref18_Encode lm_coupletref18_Encode xr_coupletref18_Encode ⟨slots 58 0 [(0, .p (.agg [(.int .i64 n0), (.int .i64 n1), (.isl b2 b3 .i64 l4), (.isl b5 b6 .i64 l7)]))], []⟩ (fun S => finT Tryd.prog rs_coupletref18_Encode S kf_coupletref18_Encode) (retT Tryd.prog rs_coupletref18_Encode kf_coupletref18_Encode)).run = go_coupletref18_Encode n0 n1 b2 b3 l4 b5 b6 l7 := by kernel_rfl
theorem ok_coupletref18_Encode (n0 : Int) (n1 : Int) (b2 : Bool) (b3 : Bool) (l4 : List Int) (b5 : Bool) (b6 : Bool) (l7 : List Int) (r : (Bool × Bool × List Int)) (h : go_coupletref18_Encode n0 n1 b2 b3 l4 b5 b6 l7 = some r) : FunEq Tryd.prog GG 37 [(.agg [(.int .i64 n0), (.int .i64 n1), (.isl b2 b3 .i64 l4), (.isl b5 b6 .i64 l7)])] (em_coupletref18_Encode r) :=
  fun_of_ev (x := xr_coupletref18_Encode) (Λ := lm_coupletref18_Encode) gk_coupletref18_Encode [[1, 3, 4], [1, 3, 5]] Tryd.func37 rfl (by kernel_rfl) ir_coupletref18_Encode (by kernel_rfl) (congrArg Array.toList Tryd.results37) Tryd.ntmps37 (⟨trivial, ⟨trivial, ⟨trivial, ⟨⟨trivial, la_coupletref18_Encode_0⟩, ⟨⟨trivial, la_coupletref18_Encode_1⟩, ⟨trivial, trivial⟩⟩⟩⟩⟩⟩) (leaf_of fun v => (by kernel_rfl : rh_coupletref18_Encode.build v = em_coupletref18_Encode (ra_coupletref18_Encode v))) (by kernel_rfl) ((rn_coupletref18_Encode n0 n1 b2 b3 l4 b5 b6 l7).trans h)
def as_coupletref18_Encode : List Shp := [(.agg [(.int .i64), (.int .i64), (.isl .i64), (.isl .i64)])]
def ga_coupletref18_Encode (vs : List PV) : Option (Bool × Bool × List Int) := go_coupletref18_Encode (((tls 0 vs).headD .nilSl).subs.headD .nilSl).num (((tls 0 vs).headD .nilSl).subs.tail.headD .nilSl).num (((tls 0 vs).headD .nilSl).subs.tail.tail.headD .nilSl).nl (((tls 0 vs).headD .nilSl).subs.tail.tail.headD .nilSl).ex (((tls 0 vs).headD .nilSl).subs.tail.tail.headD .nilSl).ints (((tls 0 vs).headD .nilSl).subs.tail.tail.tail.headD .nilSl).nl (((tls 0 vs).headD .nilSl).subs.tail.tail.tail.headD .nilSl).ex (((tls 0 vs).headD .nilSl).subs.tail.tail.tail.headD .nilSl).ints
theorem at_coupletref18_Encode : FnAt Tryd.prog GG 37 as_coupletref18_Encode ga_coupletref18_Encode em_coupletref18_Encode := fun vs h r hr => by
  have e : Shp.buildL as_coupletref18_Encode vs = [(.agg [(.int .i64 (((tls 0 vs).headD .nilSl).subs.headD .nilSl).num), (.int .i64 (((tls 0 vs).headD .nilSl).subs.tail.headD .nilSl).num), (.isl (((tls 0 vs).headD .nilSl).subs.tail.tail.headD .nilSl).nl (((tls 0 vs).headD .nilSl).subs.tail.tail.headD .nilSl).ex .i64 (((tls 0 vs).headD .nilSl).subs.tail.tail.headD .nilSl).ints), (.isl (((tls 0 vs).headD .nilSl).subs.tail.tail.tail.headD .nilSl).nl (((tls 0 vs).headD .nilSl).subs.tail.tail.tail.headD .nilSl).ex .i64 (((tls 0 vs).headD .nilSl).subs.tail.tail.tail.headD .nilSl).ints)])] := by kernel_rfl
  rw [← Shp.buildL_eq _ h, e]
  exact .inl ⟨by decide, ok_coupletref18_Encode _ _ _ _ _ _ _ _ r hr⟩

def xr_coupletlaw18_ReportEncodes : XR := (.seq (.ops false [⟨⟨(some 1), (.box 46 (.tmp 0)), none⟩, none⟩, ⟨⟨(some 2), (.mv (.c (.bool false))), none⟩, none⟩]) (.seq (.seq (.ops false [⟨⟨(some 7), (.fldA 2 (.tmp 1)), none⟩, none⟩, ⟨⟨(some 8), (.ld false 1 (.tmp 7)), none⟩, (some (.isl .i64))⟩, ⟨⟨(some 9), (.len (.tmp 8)), none⟩, none⟩, ⟨⟨(some 10), (.bin .gtr (.tmp 9) (.c (.int .i64 (20)))), none⟩, none⟩, ⟨⟨(some 11), (.mv (.tmp 10)), none⟩, none⟩, ⟨⟨(some 12), (.fldA 3 (.tmp 1)), (some (11, false))⟩, none⟩, ⟨⟨(some 13), (.ld false 1 (.tmp 12)), (some (11, false))⟩, (some (.isl .i64))⟩, ⟨⟨(some 14), (.len (.tmp 13)), (some (11, false))⟩, none⟩, ⟨⟨(some 15), (.bin .gtr (.tmp 14) (.c (.int .i64 (20)))), (some (11, false))⟩, none⟩, ⟨⟨(some 16), (.pick (.tmp 11) (.c (.bool true)) (.tmp 15)), none⟩, none⟩]) (.cond (.tmp 16) (.seq (.ops false [⟨⟨(some 17), (.call (.func 31) []), none⟩, none⟩, ⟨⟨(some 2), (.mv (.tmp 17)), none⟩, none⟩]) .ret) .skip)) (.seq (.ops false [⟨⟨(some 19), (.ld true 4 (.tmp 1)), none⟩, (some (.agg [(.int .i64), (.int .i64), (.isl .i64), (.isl .i64)]))⟩, ⟨⟨(some 20), (.call (.func 32) [(.tmp 19)]), none⟩, none⟩, ⟨⟨(some 18), (.mv (.tmp 20)), none⟩, none⟩, ⟨⟨(some 21), (.ext (.tmp 18) 0), none⟩, none⟩, ⟨⟨(some 22), (.ext (.tmp 18) 1), none⟩, none⟩, ⟨⟨(some 3), (.mv (.tmp 21)), none⟩, none⟩, ⟨⟨(some 4), (.mv (.tmp 22)), none⟩, none⟩]) (.seq (.seq (.ops false [⟨⟨(some 23), (.ld true 4 (.tmp 1)), none⟩, (some (.agg [(.int .i64), (.int .i64), (.isl .i64), (.isl .i64)]))⟩, ⟨⟨(some 24), (.call (.func 34) [(.tmp 23)]), none⟩, none⟩, ⟨⟨(some 25), (.call (.func 33) [(.tmp 24)]), none⟩, none⟩, ⟨⟨(some 26), (.un .not (.tmp 25)), none⟩, none⟩]) (.cond (.tmp 26) (.seq (.ops false [⟨⟨(some 27), (.mv (.tmp 3)), none⟩, none⟩, ⟨⟨(some 28), (.len (.tmp 27)), none⟩, none⟩, ⟨⟨(some 29), (.bin .eql (.tmp 28) (.c (.int .i64 (0)))), none⟩, none⟩, ⟨⟨(some 30), (.mv (.tmp 29)), none⟩, none⟩, ⟨⟨(some 31), (.mv (.tmp 4)), (some (30, true))⟩, none⟩, ⟨⟨(some 32), (.bin .eql (.tmp 31) (.c (.int .i64 (1)))), (some (30, true))⟩, none⟩, ⟨⟨(some 33), (.pick (.tmp 30) (.tmp 32) (.c (.bool false))), none⟩, none⟩, ⟨⟨(some 34), (.mv (.tmp 33)), none⟩, none⟩, ⟨⟨(some 35), (.ld true 4 (.tmp 1)), (some (34, true))⟩, (some (.agg [(.int .i64), (.int .i64), (.isl .i64), (.isl .i64)]))⟩, ⟨⟨(some 36), (.call (.func 35) [(.tmp 35)]), (some (34, true))⟩, none⟩, ⟨⟨(some 37), (.un .not (.tmp 36)), (some (34, true))⟩, none⟩, ⟨⟨(some 38), (.pick (.tmp 34) (.tmp 37) (.c (.bool false))), none⟩, none⟩, ⟨⟨(some 39), (.mv (.tmp 38)), none⟩, none⟩, ⟨⟨(some 40), (.call (.func 31) []), (some (39, true))⟩, none⟩, ⟨⟨(some 41), (.pick (.tmp 39) (.tmp 40) (.c (.bool false))), none⟩, none⟩, ⟨⟨(some 2), (.mv (.tmp 41)), none⟩, none⟩]) .ret) .skip)) (.seq (.ops false [⟨⟨(some 43), (.mv (.tmp 3)), none⟩, none⟩, ⟨⟨(some 44), (.call (.func 36) [(.tmp 43)]), none⟩, none⟩, ⟨⟨(some 42), (.mv (.tmp 44)), none⟩, none⟩, ⟨⟨(some 45), (.ext (.tmp 42) 0), none⟩, none⟩, ⟨⟨(some 46), (.ext (.tmp 42) 1), none⟩, none⟩, ⟨⟨(some 5), (.alloc 46 [(.int .i64 (0)), (.int .i64 (0)), (.isl true true .i64 []), (.isl true true .i64 [])]), none⟩, none⟩, ⟨⟨none, (.st 4 (.tmp 5) (.tmp 45)), none⟩, none⟩, ⟨⟨(some 6), (.mv (.tmp 46)), none⟩, none⟩]) (.seq (.ops true [⟨⟨(some 47), (.mv (.tmp 3)), none⟩, none⟩, ⟨⟨(some 48), (.cvtBS (.tmp 47)), none⟩, none⟩, ⟨⟨(some 49), (.ld true 4 (.tmp 1)), none⟩, (some (.agg [(.int .i64), (.int .i64), (.isl .i64), (.isl .i64)]))⟩, ⟨⟨(some 50), (.call (.func 34) [(.tmp 49)]), none⟩, none⟩, ⟨⟨(some 51), (.call (.func 37) [(.tmp 50)]), none⟩, none⟩, ⟨⟨(some 52), (.cvtBS (.tmp 51)), none⟩, none⟩, ⟨⟨(some 53), (.binS .eql (.tmp 48) (.tmp 52)), none⟩, none⟩, ⟨⟨(some 54), (.mv (.tmp 53)), none⟩, none⟩, ⟨⟨(some 55), (.mv (.tmp 4)), (some (54, true))⟩, none⟩, ⟨⟨(some 56), (.bin .eql (.tmp 55) (.c (.int .i64 (0)))), (some (54, true))⟩, none⟩, ⟨⟨(some 57), (.pick (.tmp 54) (.tmp 56) (.c (.bool false))), none⟩, none⟩, ⟨⟨(some 58), (.mv (.tmp 57)), none⟩, none⟩, ⟨⟨(some 59), (.mv (.tmp 6)), (some (58, true))⟩, none⟩, ⟨⟨(some 60), (.bin .eql (.tmp 59) (.c (.int .i64 (0)))), (some (58, true))⟩, none⟩, ⟨⟨(some 61), (.pick (.tmp 58) (.tmp 60) (.c (.bool false))), none⟩, none⟩, ⟨⟨(some 62), (.mv (.tmp 61)), none⟩, none⟩, ⟨⟨(some 63), (.ld true 4 (.tmp 5)), (some (62, true))⟩, (some (.agg [(.int .i64), (.int .i64), (.isl .i64), (.isl .i64)]))⟩, ⟨⟨(some 64), (.ld true 4 (.tmp 1)), (some (62, true))⟩, (some (.agg [(.int .i64), (.int .i64), (.isl .i64), (.isl .i64)]))⟩, ⟨⟨(some 65), (.call (.func 38) [(.tmp 63), (.tmp 64)]), (some (62, true))⟩, none⟩, ⟨⟨(some 66), (.pick (.tmp 62) (.tmp 65) (.c (.bool false))), none⟩, none⟩, ⟨⟨(some 67), (.mv (.tmp 66)), none⟩, none⟩, ⟨⟨(some 68), (.ld true 4 (.tmp 1)), (some (67, true))⟩, (some (.agg [(.int .i64), (.int .i64), (.isl .i64), (.isl .i64)]))⟩, ⟨⟨(some 69), (.call (.func 35) [(.tmp 68)]), (some (67, true))⟩, none⟩, ⟨⟨(some 70), (.pick (.tmp 67) (.tmp 69) (.c (.bool false))), none⟩, none⟩, ⟨⟨(some 71), (.mv (.tmp 70)), none⟩, none⟩, ⟨⟨(some 72), (.call (.func 31) []), (some (71, true))⟩, none⟩, ⟨⟨(some 73), (.pick (.tmp 71) (.tmp 72) (.c (.bool false))), none⟩, none⟩, ⟨⟨(some 2), (.mv (.tmp 73)), none⟩, none⟩]) .ret))))))
def rs_coupletlaw18_ReportEncodes : List ResultVar := [(.tmp 2)]
theorem ir_coupletlaw18_ReportEncodes : compCode Tryd.prog (Tryd.f10.body.getD .skip) [] = some (xr_coupletlaw18_ReportEncodes.erase, []) := by kernel_rfl
/-! coupletlaw18_ReportEncodes -/
def gm_coupletlaw18_ReportEncodes : Gam := (Gam.fn 31 as_coupletlaw18_awake ga_coupletlaw18_awake em_coupletlaw18_awake (Gam.fn 32 as_report_Encode ga_report_Encode em_report_Encode (Gam.fn 34 as_coupletlaw18_Given ga_coupletlaw18_Given em_coupletlaw18_Given (Gam.fn 33 as_coupletref18_Right ga_coupletref18_Right em_coupletref18_Right (Gam.fn 35 as_report_Right ga_report_Right em_report_Right (Gam.fn 36 as_report_Decode ga_report_Decode em_report_Decode (Gam.fn 37 as_coupletref18_Encode ga_coupletref18_Encode em_coupletref18_Encode (Gam.fn 38 as_report_Same ga_report_Same em_report_Same Gam.bot))))))))
theorem gk_coupletlaw18_ReportEncodes : GamOk Tryd.prog GG gm_coupletlaw18_ReportEncodes := (GamOk.fn at_coupletlaw18_awake (GamOk.fn at_report_Encode (GamOk.fn at_coupletlaw18_Given (GamOk.fn at_coupletref18_Right (GamOk.fn at_report_Right (GamOk.fn at_report_Decode (GamOk.fn at_coupletref18_Encode (GamOk.fn at_report_Same GamOk.bot))))))))
def lm_coupletlaw18_ReportEncodes : Lam := fun _ j S kn ke => match j with
  | _ => .fail
/-- coupletlaw18_ReportEncodes -/
def go_coupletlaw18_ReportEncodes (n0 : Int) (n1 : Int) (b2 : Bool) (b3 : Bool) (l4 : List Int) (b5 : Bool) (b6 : Bool) (l7 : List Int) : Option Bool :=
  bif (decide ((((List.length l4) : Nat) : Int) > 20)) then
   (go_coupletlaw18_awake).bind fun r8 =>
   some r8
  else
   bif (decide ((((List.length l7) : Nat) : Int) > 20)) then
    (go_coupletlaw18_awake).bind fun r9 =>
    some r9
   else
    (go_report_Encode n0 n1 b2 b3 l4 b5 b6 l7).bind fun r10 =>
    (go_coupletlaw18_Given n0 n1 b2 b3 l4 b5 b6 l7).bind fun r11 =>
    (go_coupletref18_Right r11.1 r11.2.1 r11.2.2.1 r11.2.2.2.1 r11.2.2.2.2.1 r11.2.2.2.2.2.1 r11.2.2.2.2.2.2.1 r11.2.2.2.2.2.2.2).bind fun r12 =>
    bif (!r12) then
     bif ((((List.length r10.2.2.1) : Nat) : Int) == 0) then
      bif (r10.2.2.2 == 1) then
       (go_report_Right n0 n1 b2 b3 l4 b5 b6 l7).bind fun r13 =>
       bif (!r13) then
        (go_coupletlaw18_awake).bind fun r14 =>
        some r14
       else
        some false
      else
       some false
     else
      some false
    else
     (go_report_Decode r10.1 r10.2.1 r10.2.2.1).bind fun r15 =>
     bif (List.all r10.2.2.1 (fun x21 => (decide ((0 ≤ x21) ∧ (x21 < 256))))) then
      (go_coupletlaw18_Given n0 n1 b2 b3 l4 b5 b6 l7).bind fun r16 =>
      (go_coupletref18_Encode r16.1 r16.2.1 r16.2.2.1 r16.2.2.2.1 r16.2.2.2.2.1 r16.2.2.2.2.2.1 r16.2.2.2.2.2.2.1 r16.2.2.2.2.2.2.2).bind fun r17 =>
      bif (List.all r17.2.2 (fun x22 => (decide ((0 ≤ x22) ∧ (x22 < 256))))) then
       bif (r10.2.2.1 == r17.2.2) then
        bif (r10.2.2.2 == 0) then
         bif (r15.2.2.2.2.2.2.2.2 == 0) then
          (go_report_Same r15.1 r15.2.1 r15.2.2.1 r15.2.2.2.1 r15.2.2.2.2.1 r15.2.2.2.2.2.1 r15.2.2.2.2.2.2.1 r15.2.2.2.2.2.2.2.1 n0 n1 b2 b3 l4 b5 b6 l7).bind fun r18 =>
          bif r18 then
           (go_report_Right n0 n1 b2 b3 l4 b5 b6 l7).bind fun r19 =>
           bif r19 then
            (go_coupletlaw18_awake).bind fun r20 =>
            some r20
           else
            some false
          else
           some false
         else
          some false
        else
         some false
       else
        some false
      else none
     else none
def em_coupletlaw18_ReportEncodes (r : Bool) : PV := (.bool r)
def rh_coupletlaw18_ReportEncodes : Shp := .bool
def ra_coupletlaw18_ReportEncodes (v : PV) : Bool := v.tru
def kf_coupletlaw18_ReportEncodes (v : PV) : Tree Bool := .chk (rh_coupletlaw18_ReportEncodes.ok v) (.leaf (ra_coupletlaw18_ReportEncodes v))
theorem rn_coupletlaw18_ReportEncodes (n0 : Int) (n1 : Int) (b2 : Bool) (b3 : Bool) (l4 : List Int) (b5 : Bool) (b6 : Bool) (l7 : List Int) : (ev GG gm_coupletlaw18_ReportEncodes lm_coupletlaw18_ReportEncodes xr_coupletlaw18_ReportEncodes ⟨slots 74 0 [(0, .p (.agg [(.int .i64 n0), (.int .i64 n1), (.isl b2 b3 .i64 l4), (.isl b5 b6 .i64 l7)]))], []⟩ (fun S => finT Tryd.prog rs_coupletlaw18_ReportEncodes S kf_coupletlaw18_ReportEncodes) (retT Tryd.prog rs_coupletlaw18_ReportEncodes kf_coupletlaw18_ReportEncodes)).run = go_coupletlaw18_ReportEncodes n0 n1 b2 b3 l4 b5 b6 l7 := by kernel_rfl
theorem ok_coupletlaw18_ReportEncodes (n0 : Int) (n1 : Int) (b2 : Bool) (b3 : Bool) (l4 : List Int) (b5 : Bool) (b6 : Bool) (l7 : List Int) (r : Bool) (h : go_coupletlaw18_ReportEncodes n0 n1 b2 b3 l4 b5 b6 l7 = some r) : FunEq Tryd.prog GG 10 [(.agg [(.int .i64 n0), (.int .i64 n1), (.isl b2 b3 .i64 l4), (.isl b5 b6 .i64 l7)])] (em_coupletlaw18_ReportEncodes r) :=
  fun_of_ev (x := xr_coupletlaw18_ReportEncodes) (Λ := lm_coupletlaw18_ReportEncodes) gk_coupletlaw18_ReportEncodes [] Tryd.func10 rfl (by kernel_rfl) ir_coupletlaw18_ReportEncodes (by kernel_rfl) (congrArg Array.toList Tryd.results10) Tryd.ntmps10 (⟨trivial, ⟨⟨trivial, ⟨⟨trivial, trivial⟩, trivial⟩⟩, ⟨trivial, ⟨⟨trivial, ⟨⟨trivial, trivial⟩, trivial⟩⟩, ⟨trivial, ⟨trivial, trivial⟩⟩⟩⟩⟩⟩) (leaf_of fun v => (by kernel_rfl : rh_coupletlaw18_ReportEncodes.build v = em_coupletlaw18_ReportEncodes (ra_coupletlaw18_ReportEncodes v))) (by kernel_rfl) ((rn_coupletlaw18_ReportEncodes n0 n1 b2 b3 l4 b5 b6 l7).trans h)
def as_coupletlaw18_ReportEncodes : List Shp := [(.agg [(.int .i64), (.int .i64), (.isl .i64), (.isl .i64)])]
def ga_coupletlaw18_ReportEncodes (vs : List PV) : Option Bool := go_coupletlaw18_ReportEncodes (((tls 0 vs).headD .nilSl).subs.headD .nilSl).num (((tls 0 vs).headD .nilSl).subs.tail.headD .nilSl).num (((tls 0 vs).headD .nilSl).subs.tail.tail.headD .nilSl).nl (((tls 0 vs).headD .nilSl).subs.tail.tail.headD .nilSl).ex (((tls 0 vs).headD .nilSl).subs.tail.tail.headD .nilSl).ints (((tls 0 vs).headD .nilSl).subs.tail.tail.tail.headD .nilSl).nl (((tls 0 vs).headD .nilSl).subs.tail.tail.tail.headD .nilSl).ex (((tls 0 vs).headD .nilSl).subs.tail.tail.tail.headD .nilSl).ints
theorem at_coupletlaw18_ReportEncodes : FnAt Tryd.prog GG 10 as_coupletlaw18_ReportEncodes ga_coupletlaw18_ReportEncodes em_coupletlaw18_ReportEncodes := fun vs h r hr => by
  have e : Shp.buildL as_coupletlaw18_ReportEncodes vs = [(.agg [(.int .i64 (((tls 0 vs).headD .nilSl).subs.headD .nilSl).num), (.int .i64 (((tls 0 vs).headD .nilSl).subs.tail.headD .nilSl).num), (.isl (((tls 0 vs).headD .nilSl).subs.tail.tail.headD .nilSl).nl (((tls 0 vs).headD .nilSl).subs.tail.tail.headD .nilSl).ex .i64 (((tls 0 vs).headD .nilSl).subs.tail.tail.headD .nilSl).ints), (.isl (((tls 0 vs).headD .nilSl).subs.tail.tail.tail.headD .nilSl).nl (((tls 0 vs).headD .nilSl).subs.tail.tail.tail.headD .nilSl).ex .i64 (((tls 0 vs).headD .nilSl).subs.tail.tail.tail.headD .nilSl).ints)])] := by kernel_rfl
  rw [← Shp.buildL_eq _ h, e]
  exact .inl ⟨by decide, ok_coupletlaw18_ReportEncodes _ _ _ _ _ _ _ _ r hr⟩

def xr_coupletref18_Why : XR := (.seq (.ops false [⟨⟨(some 2), (.mv (.c (.int .i64 (0)))), none⟩, none⟩]) (.seq (.seq (.ops false [⟨⟨(some 5), (.mv (.tmp 0)), none⟩, none⟩, ⟨⟨(some 6), (.len (.tmp 5)), none⟩, none⟩, ⟨⟨(some 7), (.bin .lss (.tmp 6) (.c (.int .i64 (12)))), none⟩, none⟩]) (.cond (.tmp 7) (.seq (.ops false [⟨⟨(some 2), (.mv (.c (.int .i64 (2)))), none⟩, none⟩]) .ret) .skip)) (.seq (.ops false [⟨⟨(some 8), (.mv (.tmp 0)), none⟩, none⟩, ⟨⟨(some 9), (.ixA 1 (.tmp 8) (.c (.int .i64 (3)))), none⟩, none⟩, ⟨⟨(some 10), (.ld false 1 (.tmp 9)), none⟩, (some (.int .u8))⟩, ⟨⟨(some 11), (.cvtI .i64 (.tmp 10)), none⟩, none⟩, ⟨⟨(some 3), (.mv (.tmp 11)), none⟩, none⟩]) (.seq (.seq (.ops false [⟨⟨(some 12), (.mv (.tmp 0)), none⟩, none⟩, ⟨⟨(some 13), (.ixA 1 (.tmp 12) (.c (.int .i64 (0)))), none⟩, none⟩, ⟨⟨(some 14), (.ld false 1 (.tmp 13)), none⟩, (some (.int .u8))⟩, ⟨⟨(some 15), (.bin .neq (.tmp 14) (.c (.int .u8 (78)))), none⟩, none⟩, ⟨⟨(some 16), (.mv (.tmp 15)), none⟩, none⟩, ⟨⟨(some 17), (.mv (.tmp 0)), (some (16, false))⟩, none⟩, ⟨⟨(some 18), (.ixA 1 (.tmp 17) (.c (.int .i64 (1)))), (some (16, false))⟩, none⟩, ⟨⟨(some 19), (.ld false 1 (.tmp 18)), (some (16, false))⟩, (some (.int .u8))⟩, ⟨⟨(some 20), (.bin .neq (.tmp 19) (.c (.int .u8 (82)))), (some (16, false))⟩, none⟩, ⟨⟨(some 21), (.pick (.tmp 16) (.c (.bool true)) (.tmp 20)), none⟩, none⟩, ⟨⟨(some 22), (.mv (.tmp 21)), none⟩, none⟩, ⟨⟨(some 23), (.mv (.tmp 3)), (some (22, false))⟩, none⟩, ⟨⟨(some 24), (.bin .gtr (.tmp 23) (.c (.int .i64 (4)))), (some (22, false))⟩, none⟩, ⟨⟨(some 25), (.pick (.tmp 22) (.c (.bool true)) (.tmp 24)), none⟩, none⟩, ⟨⟨(some 26), (.mv (.tmp 25)), none⟩, none⟩, ⟨⟨(some 27), (.mv (.tmp 3)), (some (26, false))⟩, none⟩, ⟨⟨(some 28), (.bin .gtr (.tmp 27) (.c (.int .i64 (0)))), (some (26, false))⟩, none⟩, ⟨⟨(some 29), (.mv (.tmp 0)), (some (26, false))⟩, none⟩, ⟨⟨(some 30), (.ixA 1 (.tmp 29) (.c (.int .i64 (2)))), (some (26, false))⟩, none⟩, ⟨⟨(some 31), (.ld false 1 (.tmp 30)), (some (26, false))⟩, (some (.int .u8))⟩, ⟨⟨(some 32), (.cvtI .i64 (.tmp 31)), (some (26, false))⟩, none⟩, ⟨⟨(some 33), (.bin .quo (.tmp 32) (.c (.int .i64 (32)))), (some (26, false))⟩, none⟩, ⟨⟨(some 34), (.bin .rem (.tmp 33) (.c (.int .i64 (2)))), (some (26, false))⟩, none⟩, ⟨⟨(some 35), (.bin .eql (.tmp 34) (.c (.int .i64 (1)))), (some (26, false))⟩, none⟩, ⟨⟨(some 36), (.binB true (.tmp 28) (.tmp 35)), (some (26, false))⟩, none⟩, ⟨⟨(some 37), (.pick (.tmp 26) (.c (.bool true)) (.tmp 36)), none⟩, none⟩]) (.cond (.tmp 37) (.seq (.ops false [⟨⟨(some 2), (.mv (.c (.int .i64 (4)))), none⟩, none⟩]) .ret) .skip)) (.seq (.seq (.ops false [⟨⟨(some 38), (.mv (.tmp 0)), none⟩, none⟩, ⟨⟨(some 39), (.len (.tmp 38)), none⟩, none⟩, ⟨⟨(some 40), (.mv (.tmp 3)), none⟩, none⟩, ⟨⟨(some 41), (.bin .mul (.c (.int .i64 (16))) (.tmp 40)), none⟩, none⟩, ⟨⟨(some 42), (.bin .add (.c (.int .i64 (12))) (.tmp 41)), none⟩, none⟩, ⟨⟨(some 43), (.bin .lss (.tmp 39) (.tmp 42)), none⟩, none⟩]) (.cond (.tmp 43) (.seq (.ops false [⟨⟨(some 2), (.mv (.c (.int .i64 (2)))), none⟩, none⟩]) .ret) .skip)) (.seq (.seq (.ops false [⟨⟨(some 44), (.mv (.tmp 0)), none⟩, none⟩, ⟨⟨(some 45), (.len (.tmp 44)), none⟩, none⟩, ⟨⟨(some 46), (.mv (.tmp 3)), none⟩, none⟩, ⟨⟨(some 47), (.bin .mul (.c (.int .i64 (16))) (.tmp 46)), none⟩, none⟩, ⟨⟨(some 48), (.bin .add (.c (.int .i64 (12))) (.tmp 47)), none⟩, none⟩, ⟨⟨(some 49), (.bin .gtr (.tmp 45) (.tmp 48)), none⟩, none⟩]) (.cond (.tmp 49) (.seq (.ops false [⟨⟨(some 2), (.mv (.c (.int .i64 (5)))), none⟩, none⟩]) .ret) .skip)) (.seq (.ops false [⟨⟨(some 50), (.mv (.tmp 0)), none⟩, none⟩, ⟨⟨(some 51), (.len (.tmp 50)), none⟩, none⟩, ⟨⟨(some 52), (.bin .sub (.tmp 51) (.c (.int .i64 (4)))), none⟩, none⟩, ⟨⟨(some 4), (.mv (.tmp 52)), none⟩, none⟩]) (.seq (.seq (.ops true [⟨⟨(some 53), (.mv (.tmp 0)), none⟩, none⟩, ⟨⟨(some 54), (.mv (.tmp 4)), none⟩, none⟩, ⟨⟨(some 55), (.slc 1 (.tmp 53) none (some (.tmp 54)) none), none⟩, none⟩, ⟨⟨(some 56), (.call (.func 55) [(.tmp 55)]), none⟩, none⟩, ⟨⟨(some 57), (.cvtI .u64 (.tmp 56)), none⟩, none⟩, ⟨⟨(some 58), (.call (.func 62) [(.tmp 57), (.c (.int .i64 (4)))]), none⟩, none⟩, ⟨⟨(some 59), (.cvtBS (.tmp 58)), none⟩, none⟩, ⟨⟨(some 60), (.mv (.tmp 0)), none⟩, none⟩, ⟨⟨(some 61), (.mv (.tmp 4)), none⟩, none⟩, ⟨⟨(some 62), (.slc 1 (.tmp 60) (some (.tmp 61)) none none), none⟩, none⟩, ⟨⟨(some 63), (.cvtBS (.tmp 62)), none⟩, none⟩, ⟨⟨(some 64), (.binS .neq (.tmp 59) (.tmp 63)), none⟩, none⟩]) (.cond (.tmp 64) (.seq (.ops false [⟨⟨(some 2), (.mv (.c (.int .i64 (6)))), none⟩, none⟩]) .ret) .skip)) (.seq (.ops false [⟨⟨(some 2), (.mv (.c (.int .i64 (0)))), none⟩, none⟩]) .ret)))))))))
def rs_coupletref18_Why : List ResultVar := [(.tmp 2)]
theorem ir_coupletref18_Why : compCode Tryd.prog (Tryd.f39.body.getD .skip) [] = some (xr_coupletref18_Why.erase, []) := by kernel_rfl
/-! coupletref18_Why -/
def gm_coupletref18_Why : Gam := (Gam.fn 55 as_coupletref11_Of ga_coupletref11_Of em_coupletref11_Of (Gam.fn 62 as_coupletref18_bytes ga_coupletref18_bytes em_coupletref18_bytes Gam.bot))
theorem gk_coupletref18_Why : GamOk Tryd.prog GG gm_coupletref18_Why := (GamOk.fn at_coupletref11_Of (GamOk.fn at_coupletref18_bytes GamOk.bot))
def lm_coupletref18_Why : Lam := fun _ j S kn ke => match j with
  | _ => .fail
/-- coupletref18_Why -/
def go_coupletref18_Why (b0 : Bool) (b1 : Bool) (l2 : List Int) : Option Int :=
  bif (decide ((((List.length l2) : Nat) : Int) < 12)) then
   some 2
  else
   bif (decide (3 < (((List.length l2) : Nat) : Int))) then
    bif (decide (3 < (List.length l2))) then
     bif (decide (0 < (((List.length l2) : Nat) : Int))) then
      bif (decide (0 < (List.length l2))) then
       bif ((List.getD l2 0 0) != 78) then
        some 4
       else
        bif (decide (1 < (((List.length l2) : Nat) : Int))) then
         bif (decide (1 < (List.length l2))) then
          bif ((List.getD l2 1 0) != 82) then
           some 4
          else
           bif (decide ((IntKind.wrap .i64 (List.getD l2 3 0)) > 4)) then
            some 4
           else
            bif (decide (2 < (((List.length l2) : Nat) : Int))) then
             bif (decide (2 < (List.length l2))) then
              bif (!((decide ((IntKind.wrap .i64 (List.getD l2 3 0)) > 0)) == ((Int.tmod (IntKind.wrap .i64 (Int.tdiv (IntKind.wrap .i64 (List.getD l2 2 0)) 32)) 2) == 1))) then
               some 4
              else
               bif (decide ((((List.length l2) : Nat) : Int) < (IntKind.wrap .i64 (12 + (IntKind.wrap .i64 (16 * (IntKind.wrap .i64 (List.getD l2 3 0)))))))) then
                some 2
               else
                bif (decide ((((List.length l2) : Nat) : Int) > (IntKind.wrap .i64 (12 + (IntKind.wrap .i64 (16 * (IntKind.wrap .i64 (List.getD l2 3 0)))))))) then
                 some 5
                else
                 bif (decide (0 ≤ (IntKind.wrap .i64 ((((List.length l2) : Nat) : Int) - 4)))) then
                  bif (decide ((IntKind.wrap .i64 ((((List.length l2) : Nat) : Int) - 4)) ≤ (((List.length l2) : Nat) : Int))) then
                   (go_coupletref11_Of b0 false (List.take (Int.toNat ((IntKind.wrap .i64 ((((List.length l2) : Nat) : Int) - 4)) - 0)) (List.drop 0 l2))).bind fun r3 =>
                   (go_coupletref18_bytes (IntKind.wrap .u64 r3) 4).bind fun r4 =>
                   bif (List.all r4.2.2 (fun x5 => (decide ((0 ≤ x5) ∧ (x5 < 256))))) then
                    bif (decide (0 ≤ (IntKind.wrap .i64 ((((List.length l2) : Nat) : Int) - 4)))) then
                     bif (decide ((IntKind.wrap .i64 ((((List.length l2) : Nat) : Int) - 4)) ≤ (((List.length l2) : Nat) : Int))) then
                      bif (decide ((((List.length l2) : Nat) : Int) ≤ (((List.length l2) : Nat) : Int))) then
                       bif (List.all (List.take (Int.toNat ((((List.length l2) : Nat) : Int) - (IntKind.wrap .i64 ((((List.length l2) : Nat) : Int) - 4)))) (List.drop (Int.toNat (IntKind.wrap .i64 ((((List.length l2) : Nat) : Int) - 4))) l2)) (fun x6 => (decide ((0 ≤ x6) ∧ (x6 < 256))))) then
                        bif (!(r4.2.2 == (List.take (Int.toNat ((((List.length l2) : Nat) : Int) - (IntKind.wrap .i64 ((((List.length l2) : Nat) : Int) - 4)))) (List.drop (Int.toNat (IntKind.wrap .i64 ((((List.length l2) : Nat) : Int) - 4))) l2)))) then
                         some 6
                        else
                         some 0
                       else none
                      else none
                     else none
                    else none
                   else none
                  else none
                 else none
             else none
            else none
         else none
        else none
      else none
     else none
    else none
   else none
def em_coupletref18_Why (r : Int) : PV := (.int .i64 r)
def rh_coupletref18_Why : Shp := (.int .i64)
def ra_coupletref18_Why (v : PV) : Int := v.num
def kf_coupletref18_Why (v : PV) : Tree Int := .chk (rh_coupletref18_Why.ok v) (.leaf (ra_coupletref18_Why v))
theorem rn_coupletref18_Why (b0 : Bool) (b1 : Bool) (l2 : List Int) : (ev GG gm_coupletref18_Why lm_coupletref18_Why xr_coupletref18_Why ⟨slots 65 0 [(0, .p (.isl b0 b1 .u8 l2))], []⟩ (fun S => finT Tryd.prog rs_coupletref18_Why S kf_coupletref18_Why) (retT Tryd.prog rs_coupletref18_Why kf_coupletref18_Why)).run = go_coupletref18_Why b0 b1 l2 := by kernel_rfl
theorem ok_coupletref18_Why (b0 : Bool) (b1 : Bool) (l2 : List Int) (r : Int) (h : go_coupletref18_Why b0 b1 l2 = some r) : FunEq Tryd.prog GG 39 [(.isl b0 b1 .u8 l2)] (em_coupletref18_Why r) :=
  fun_of_ev (x := xr_coupletref18_Why) (Λ := lm_coupletref18_Why) gk_coupletref18_Why [] Tryd.func39 rfl (by kernel_rfl) ir_coupletref18_Why (by kernel_rfl) (congrArg Array.toList Tryd.results39) Tryd.ntmps39 (⟨trivial, ⟨⟨trivial, ⟨⟨trivial, trivial⟩, trivial⟩⟩, ⟨trivial, ⟨⟨trivial, ⟨⟨trivial, trivial⟩, trivial⟩⟩, ⟨⟨trivial, ⟨⟨trivial, trivial⟩, trivial⟩⟩, ⟨⟨trivial, ⟨⟨trivial, trivial⟩, trivial⟩⟩, ⟨trivial, ⟨⟨trivial, ⟨⟨trivial, trivial⟩, trivial⟩⟩, ⟨trivial, trivial⟩⟩⟩⟩⟩⟩⟩⟩⟩) (leaf_of fun v => (by kernel_rfl : rh_coupletref18_Why.build v = em_coupletref18_Why (ra_coupletref18_Why v))) (by kernel_rfl) ((rn_coupletref18_Why b0 b1 l2).trans h)
def as_coupletref18_Why : List Shp := [(.isl .u8)]
def ga_coupletref18_Why (vs : List PV) : Option Int := go_coupletref18_Why ((tls 0 vs).headD .nilSl).nl ((tls 0 vs).headD .nilSl).ex ((tls 0 vs).headD .nilSl).ints
theorem at_coupletref18_Why : FnAt Tryd.prog GG 39 as_coupletref18_Why ga_coupletref18_Why em_coupletref18_Why := fun vs h r hr => by
  have e : Shp.buildL as_coupletref18_Why vs = [(.isl ((tls 0 vs).headD .nilSl).nl ((tls 0 vs).headD .nilSl).ex .u8 ((tls 0 vs).headD .nilSl).ints)] := by kernel_rfl
  rw [← Shp.buildL_eq _ h, e]
  exact .inl ⟨by decide, ok_coupletref18_Why _ _ _ r hr⟩

def xr_coupletlaw18_ReportDecodes : XR := (.seq (.ops false [⟨⟨(some 2), (.mv (.c (.bool false))), none⟩, none⟩]) (.seq (.seq (.ops false [⟨⟨(some 6), (.mv (.tmp 0)), none⟩, none⟩, ⟨⟨(some 7), (.len (.tmp 6)), none⟩, none⟩, ⟨⟨(some 8), (.bin .gtr (.tmp 7) (.c (.int .i64 (300)))), none⟩, none⟩]) (.cond (.tmp 8) (.seq (.ops false [⟨⟨(some 9), (.call (.func 31) []), none⟩, none⟩, ⟨⟨(some 2), (.mv (.tmp 9)), none⟩, none⟩]) .ret) .skip)) (.seq (.ops false [⟨⟨(some 11), (.mv (.tmp 0)), none⟩, none⟩, ⟨⟨(some 12), (.call (.func 36) [(.tmp 11)]), none⟩, none⟩, ⟨⟨(some 10), (.mv (.tmp 12)), none⟩, none⟩, ⟨⟨(some 13), (.ext (.tmp 10) 0), none⟩, none⟩, ⟨⟨(some 14), (.ext (.tmp 10) 1), none⟩, none⟩, ⟨⟨(some 3), (.alloc 46 [(.int .i64 (0)), (.int .i64 (0)), (.isl true true .i64 []), (.isl true true .i64 [])]), none⟩, none⟩, ⟨⟨none, (.st 4 (.tmp 3) (.tmp 13)), none⟩, none⟩, ⟨⟨(some 4), (.mv (.tmp 14)), none⟩, none⟩]) (.seq (.ops false [⟨⟨(some 15), (.mv (.tmp 0)), none⟩, none⟩, ⟨⟨(some 16), (.call (.func 39) [(.tmp 15)]), none⟩, none⟩, ⟨⟨(some 5), (.mv (.tmp 16)), none⟩, none⟩]) (.seq (.seq (.ops false [⟨⟨(some 17), (.mv (.tmp 5)), none⟩, none⟩, ⟨⟨(some 18), (.bin .neq (.tmp 17) (.c (.int .i64 (0)))), none⟩, none⟩]) (.cond (.tmp 18) (.seq (.ops false [⟨⟨(some 19), (.mv (.tmp 4)), none⟩, none⟩, ⟨⟨(some 20), (.mv (.tmp 5)), none⟩, none⟩, ⟨⟨(some 21), (.bin .eql (.tmp 19) (.tmp 20)), none⟩, none⟩, ⟨⟨(some 22), (.mv (.tmp 21)), none⟩, none⟩, ⟨⟨(some 23), (.ld true 4 (.tmp 3)), (some (22, true))⟩, (some (.agg [(.int .i64), (.int .i64), (.isl .i64), (.isl .i64)]))⟩, ⟨⟨(some 24), (.build [(.int .i64 (0)), (.int .i64 (0)), (.isl true true .i64 []), (.isl true true .i64 [])] []), (some (22, true))⟩, none⟩, ⟨⟨(some 25), (.call (.func 38) [(.tmp 23), (.tmp 24)]), (some (22, true))⟩, none⟩, ⟨⟨(some 26), (.pick (.tmp 22) (.tmp 25) (.c (.bool false))), none⟩, none⟩, ⟨⟨(some 27), (.mv (.tmp 26)), none⟩, none⟩, ⟨⟨(some 28), (.call (.func 31) []), (some (27, true))⟩, none⟩, ⟨⟨(some 29), (.pick (.tmp 27) (.tmp 28) (.c (.bool false))), none⟩, none⟩, ⟨⟨(some 2), (.mv (.tmp 29)), none⟩, none⟩]) .ret) .skip)) (.seq (.seq (.ops false [⟨⟨(some 30), (.mv (.tmp 4)), none⟩, none⟩, ⟨⟨(some 31), (.bin .eql (.tmp 30) (.c (.int .i64 (0)))), none⟩, none⟩]) (.cond (.tmp 31) (.seq (.ops true [⟨⟨(some 32), (.ld true 4 (.tmp 3)), none⟩, (some (.agg [(.int .i64), (.int .i64), (.isl .i64), (.isl .i64)]))⟩, ⟨⟨(some 33), (.call (.func 34) [(.tmp 32)]), none⟩, none⟩, ⟨⟨(some 34), (.call (.func 33) [(.tmp 33)]), none⟩, none⟩, ⟨⟨(some 35), (.mv (.tmp 34)), none⟩, none⟩, ⟨⟨(some 36), (.ld true 4 (.tmp 3)), (some (35, true))⟩, (some (.agg [(.int .i64), (.int .i64), (.isl .i64), (.isl .i64)]))⟩, ⟨⟨(some 37), (.call (.func 34) [(.tmp 36)]), (some (35, true))⟩, none⟩, ⟨⟨(some 38), (.call (.func 37) [(.tmp 37)]), (some (35, true))⟩, none⟩, ⟨⟨(some 39), (.cvtBS (.tmp 38)), (some (35, true))⟩, none⟩, ⟨⟨(some 40), (.mv (.tmp 0)), (some (35, true))⟩, none⟩, ⟨⟨(some 41), (.cvtBS (.tmp 40)), (some (35, true))⟩, none⟩, ⟨⟨(some 42), (.binS .eql (.tmp 39) (.tmp 41)), (some (35, true))⟩, none⟩, ⟨⟨(some 43), (.pick (.tmp 35) (.tmp 42) (.c (.bool false))), none⟩, none⟩, ⟨⟨(some 44), (.mv (.tmp 43)), none⟩, none⟩, ⟨⟨(some 45), (.call (.func 31) []), (some (44, true))⟩, none⟩, ⟨⟨(some 46), (.pick (.tmp 44) (.tmp 45) (.c (.bool false))), none⟩, none⟩, ⟨⟨(some 2), (.mv (.tmp 46)), none⟩, none⟩]) .ret) .skip)) (.seq (.ops false [⟨⟨(some 47), (.mv (.tmp 4)), none⟩, none⟩, ⟨⟨(some 48), (.bin .eql (.tmp 47) (.c (.int .i64 (3)))), none⟩, none⟩, ⟨⟨(some 49), (.mv (.tmp 48)), none⟩, none⟩, ⟨⟨(some 50), (.ld true 4 (.tmp 3)), (some (49, true))⟩, (some (.agg [(.int .i64), (.int .i64), (.isl .i64), (.isl .i64)]))⟩, ⟨⟨(some 51), (.build [(.int .i64 (0)), (.int .i64 (0)), (.isl true true .i64 []), (.isl true true .i64 [])] []), (some (49, true))⟩, none⟩, ⟨⟨(some 52), (.call (.func 38) [(.tmp 50), (.tmp 51)]), (some (49, true))⟩, none⟩, ⟨⟨(some 53), (.pick (.tmp 49) (.tmp 52) (.c (.bool false))), none⟩, none⟩, ⟨⟨(some 54), (.mv (.tmp 53)), none⟩, none⟩, ⟨⟨(some 55), (.call (.func 31) []), (some (54, true))⟩, none⟩, ⟨⟨(some 56), (.pick (.tmp 54) (.tmp 55) (.c (.bool false))), none⟩, none⟩, ⟨⟨(some 2), (.mv (.tmp 56)), none⟩, none⟩]) .ret)))))))
def rs_coupletlaw18_ReportDecodes : List ResultVar := [(.tmp 2)]
theorem ir_coupletlaw18_ReportDecodes : compCode Tryd.prog (Tryd.f11.body.getD .skip) [] = some (xr_coupletlaw18_ReportDecodes.erase, []) := by kernel_rfl
/-! coupletlaw18_ReportDecodes -/
def gm_coupletlaw18_ReportDecodes : Gam := (Gam.fn 31 as_coupletlaw18_awake ga_coupletlaw18_awake em_coupletlaw18_awake (Gam.fn 36 as_report_Decode ga_report_Decode em_report_Decode (Gam.fn 39 as_coupletref18_Why ga_coupletref18_Why em_coupletref18_Why (Gam.fn 38 as_report_Same ga_report_Same em_report_Same (Gam.fn 34 as_coupletlaw18_Given ga_coupletlaw18_Given em_coupletlaw18_Given (Gam.fn 33 as_coupletref18_Right ga_coupletref18_Right em_coupletref18_Right (Gam.fn 37 as_coupletref18_Encode ga_coupletref18_Encode em_coupletref18_Encode Gam.bot)))))))
theorem gk_coupletlaw18_ReportDecodes : GamOk Tryd.prog GG gm_coupletlaw18_ReportDecodes := (GamOk.fn at_coupletlaw18_awake (GamOk.fn at_report_Decode (GamOk.fn at_coupletref18_Why (GamOk.fn at_report_Same (GamOk.fn at_coupletlaw18_Given (GamOk.fn at_coupletref18_Right (GamOk.fn at_coupletref18_Encode GamOk.bot)))))))
def lm_coupletlaw18_ReportDecodes : Lam := fun _ j S kn ke => match j with
  | _ => .fail
/-- coupletlaw18_ReportDecodes -/
def go_coupletlaw18_ReportDecodes (b0 : Bool) (b1 : Bool) (l2 : List Int) : Option Bool :=
  bif (decide ((((List.length l2) : Nat) : Int) > 300)) then
   (go_coupletlaw18_awake).bind fun r3 =>
   some r3
  else
   (go_report_Decode b0 b1 l2).bind fun r4 =>
   (go_coupletref18_Why b0 b1 l2).bind fun r5 =>
   bif (r5 != 0) then
    bif (r4.2.2.2.2.2.2.2.2 == r5) then
     (go_report_Same r4.1 r4.2.1 r4.2.2.1 r4.2.2.2.1 r4.2.2.2.2.1 r4.2.2.2.2.2.1 r4.2.2.2.2.2.2.1 r4.2.2.2.2.2.2.2.1 0 0 true true [] true true []).bind fun r6 =>
     bif r6 then
      (go_coupletlaw18_awake).bind fun r7 =>
      some r7
     else
      some false
    else
     some false
   else
    bif (r4.2.2.2.2.2.2.2.2 == 0) then
     (go_coupletlaw18_Given r4.1 r4.2.1 r4.2.2.1 r4.2.2.2.1 r4.2.2.2.2.1 r4.2.2.2.2.2.1 r4.2.2.2.2.2.2.1 r4.2.2.2.2.2.2.2.1).bind fun r8 =>
     (go_coupletref18_Right r8.1 r8.2.1 r8.2.2.1 r8.2.2.2.1 r8.2.2.2.2.1 r8.2.2.2.2.2.1 r8.2.2.2.2.2.2.1 r8.2.2.2.2.2.2.2).bind fun r9 =>
     bif r9 then
      (go_coupletlaw18_Given r4.1 r4.2.1 r4.2.2.1 r4.2.2.2.1 r4.2.2.2.2.1 r4.2.2.2.2.2.1 r4.2.2.2.2.2.2.1 r4.2.2.2.2.2.2.2.1).bind fun r10 =>
      (go_coupletref18_Encode r10.1 r10.2.1 r10.2.2.1 r10.2.2.2.1 r10.2.2.2.2.1 r10.2.2.2.2.2.1 r10.2.2.2.2.2.2.1 r10.2.2.2.2.2.2.2).bind fun r11 =>
      bif (List.all r11.2.2 (fun x15 => (decide ((0 ≤ x15) ∧ (x15 < 256))))) then
       bif (List.all l2 (fun x16 => (decide ((0 ≤ x16) ∧ (x16 < 256))))) then
        bif (r11.2.2 == l2) then
         (go_coupletlaw18_awake).bind fun r12 =>
         some r12
        else
         some false
       else none
      else none
     else
      some false
    else
     bif (r4.2.2.2.2.2.2.2.2 == 3) then
      (go_report_Same r4.1 r4.2.1 r4.2.2.1 r4.2.2.2.1 r4.2.2.2.2.1 r4.2.2.2.2.2.1 r4.2.2.2.2.2.2.1 r4.2.2.2.2.2.2.2.1 0 0 true true [] true true []).bind fun r13 =>
      bif r13 then
       (go_coupletlaw18_awake).bind fun r14 =>
       some r14
      else
       some false
     else
      some false
def em_coupletlaw18_ReportDecodes (r : Bool) : PV := (.bool r)
def rh_coupletlaw18_ReportDecodes : Shp := .bool
def ra_coupletlaw18_ReportDecodes (v : PV) : Bool := v.tru
def kf_coupletlaw18_ReportDecodes (v : PV) : Tree Bool := .chk (rh_coupletlaw18_ReportDecodes.ok v) (.leaf (ra_coupletlaw18_ReportDecodes v))
theorem rn_coupletlaw18_ReportDecodes (b0 : Bool) (b1 : Bool) (l2 : List Int) : (ev GG gm_coupletlaw18_ReportDecodes lm_coupletlaw18_ReportDecodes xr_coupletlaw18_ReportDecodes ⟨slots 57 0 [(0, .p (.isl b0 b1 .u8 l2))], []⟩ (fun S => finT Tryd.prog rs_coupletlaw18_ReportDecodes S kf_coupletlaw18_ReportDecodes) (retT Tryd.prog rs_coupletlaw18_ReportDecodes kf_coupletlaw18_ReportDecodes)).run = go_coupletlaw18_ReportDecodes b0 b1 l2 := by kernel_rfl
theorem ok_coupletlaw18_ReportDecodes (b0 : Bool) (b1 : Bool) (l2 : List Int) (r : Bool) (h : go_coupletlaw18_ReportDecodes b0 b1 l2 = some r) : FunEq Tryd.prog GG 11 [(.isl b0 b1 .u8 l2)] (em_coupletlaw18_ReportDecodes r) :=
  fun_of_ev (x := xr_coupletlaw18_ReportDecodes) (Λ := lm_coupletlaw18_ReportDecodes) gk_coupletlaw18_ReportDecodes [] Tryd.func11 rfl (by kernel_rfl) ir_coupletlaw18_ReportDecodes (by kernel_rfl) (congrArg Array.toList Tryd.results11) Tryd.ntmps11 (⟨trivial, ⟨⟨trivial, ⟨⟨trivial, trivial⟩, trivial⟩⟩, ⟨trivial, ⟨trivial, ⟨⟨trivial, ⟨⟨trivial, trivial⟩, trivial⟩⟩, ⟨⟨trivial, ⟨⟨trivial, trivial⟩, trivial⟩⟩, ⟨trivial, trivial⟩⟩⟩⟩⟩⟩⟩) (leaf_of fun v => (by kernel_rfl : rh_coupletlaw18_ReportDecodes.build v = em_coupletlaw18_ReportDecodes (ra_coupletlaw18_ReportDecodes v))) (by kernel_rfl) ((rn_coupletlaw18_ReportDecodes b0 b1 l2).trans h)
def as_coupletlaw18_ReportDecodes : List Shp := [(.isl .u8)]
def ga_coupletlaw18_ReportDecodes (vs : List PV) : Option Bool := go_coupletlaw18_ReportDecodes ((tls 0 vs).headD .nilSl).nl ((tls 0 vs).headD .nilSl).ex ((tls 0 vs).headD .nilSl).ints
theorem at_coupletlaw18_ReportDecodes : FnAt Tryd.prog GG 11 as_coupletlaw18_ReportDecodes ga_coupletlaw18_ReportDecodes em_coupletlaw18_ReportDecodes := fun vs h r hr => by
  have e : Shp.buildL as_coupletlaw18_ReportDecodes vs = [(.isl ((tls 0 vs).headD .nilSl).nl ((tls 0 vs).headD .nilSl).ex .u8 ((tls 0 vs).headD .nilSl).ints)] := by kernel_rfl
  rw [← Shp.buildL_eq _ h, e]
  exact .inl ⟨by decide, ok_coupletlaw18_ReportDecodes _ _ _ r hr⟩

def xr_coupletlaw18_ReportTurned : XR := (.seq (.ops false [⟨⟨(some 4), (.box 46 (.tmp 0)), none⟩, none⟩, ⟨⟨(some 8), (.mv (.c (.bool false))), none⟩, none⟩]) (.seq (.ops false [⟨⟨(some 18), (.ld true 4 (.tmp 4)), none⟩, (some (.agg [(.int .i64), (.int .i64), (.isl .i64), (.isl .i64)]))⟩, ⟨⟨(some 19), (.call (.func 32) [(.tmp 18)]), none⟩, none⟩, ⟨⟨(some 17), (.mv (.tmp 19)), none⟩, none⟩, ⟨⟨(some 20), (.ext (.tmp 17) 0), none⟩, none⟩, ⟨⟨(some 21), (.ext (.tmp 17) 1), none⟩, none⟩, ⟨⟨(some 9), (.mv (.tmp 20)), none⟩, none⟩, ⟨⟨(some 10), (.mv (.tmp 21)), none⟩, none⟩]) (.seq (.seq (.ops false [⟨⟨(some 22), (.fldA 2 (.tmp 4)), none⟩, none⟩, ⟨⟨(some 23), (.ld false 1 (.tmp 22)), none⟩, (some (.isl .i64))⟩, ⟨⟨(some 24), (.len (.tmp 23)), none⟩, none⟩, ⟨⟨(some 25), (.bin .gtr (.tmp 24) (.c (.int .i64 (20)))), none⟩, none⟩, ⟨⟨(some 26), (.mv (.tmp 25)), none⟩, none⟩, ⟨⟨(some 27), (.fldA 3 (.tmp 4)), (some (26, false))⟩, none⟩, ⟨⟨(some 28), (.ld false 1 (.tmp 27)), (some (26, false))⟩, (some (.isl .i64))⟩, ⟨⟨(some 29), (.len (.tmp 28)), (some (26, false))⟩, none⟩, ⟨⟨(some 30), (.bin .gtr (.tmp 29) (.c (.int .i64 (20)))), (some (26, false))⟩, none⟩, ⟨⟨(some 31), (.pick (.tmp 26) (.c (.bool true)) (.tmp 30)), none⟩, none⟩, ⟨⟨(some 32), (.mv (.tmp 31)), none⟩, none⟩, ⟨⟨(some 33), (.mv (.tmp 10)), (some (32, false))⟩, none⟩, ⟨⟨(some 34), (.bin .neq (.tmp 33) (.c (.int .i64 (0)))), (some (32, false))⟩, none⟩, ⟨⟨(some 35), (.pick (.tmp 32) (.c (.bool true)) (.tmp 34)), none⟩, none⟩, ⟨⟨(some 36), (.mv (.tmp 35)), none⟩, none⟩, ⟨⟨(some 37), (.mv (.tmp 1)), (some (36, false))⟩, none⟩, ⟨⟨(some 38), (.bin .lss (.tmp 37) (.c (.int .i64 (0)))), (some (36, false))⟩, none⟩, ⟨⟨(some 39), (.pick (.tmp 36) (.c (.bool true)) (.tmp 38)), none⟩, none⟩, ⟨⟨(some 40), (.mv (.tmp 39)), none⟩, none⟩, ⟨⟨(some 41), (.mv (.tmp 1)), (some (40, false))⟩, none⟩, ⟨⟨(some 42), (.mv (.tmp 9)), (some (40, false))⟩, none⟩, ⟨⟨(some 43), (.len (.tmp 42)), (some (40, false))⟩, none⟩, ⟨⟨(some 44), (.bin .geq (.tmp 41) (.tmp 43)), (some (40, false))⟩, none⟩, ⟨⟨(some 45), (.pick (.tmp 40) (.c (.bool true)) (.tmp 44)), none⟩, none⟩, ⟨⟨(some 46), (.mv (.tmp 45)), none⟩, none⟩, ⟨⟨(some 47), (.mv (.tmp 2)), (some (46, false))⟩, none⟩, ⟨⟨(some 48), (.bin .eql (.tmp 47) (.c (.int .u8 (0)))), (some (46, false))⟩, none⟩, ⟨⟨(some 49), (.pick (.tmp 46) (.c (.bool true)) (.tmp 48)), none⟩, none⟩, ⟨⟨(some 50), (.mv (.tmp 49)), none⟩, none⟩, ⟨⟨(some 51), (.mv (.tmp 3)), (some (50, false))⟩, none⟩, ⟨⟨(some 52), (.len (.tmp 51)), (some (50, false))⟩, none⟩, ⟨⟨(some 53), (.bin .lss (.tmp 52) (.c (.int .i64 (1)))), (some (50, false))⟩, none⟩, ⟨⟨(some 54), (.pick (.tmp 50) (.c (.bool true)) (.tmp 53)), none⟩, none⟩, ⟨⟨(some 55), (.mv (.tmp 54)), none⟩, none⟩, ⟨⟨(some 56), (.mv (.tmp 3)), (some (55, false))⟩, none⟩, ⟨⟨(some 57), (.len (.tmp 56)), (some (55, false))⟩, none⟩, ⟨⟨(some 58), (.bin .gtr (.tmp 57) (.c (.int .i64 (20)))), (some (55, false))⟩, none⟩, ⟨⟨(some 59), (.pick (.tmp 55) (.c (.bool true)) (.tmp 58)), none⟩, none⟩]) (.cond (.tmp 59) (.seq (.ops false [⟨⟨(some 60), (.call (.func 31) []), none⟩, none⟩, ⟨⟨(some 8), (.mv (.tmp 60)), none⟩, none⟩]) .ret) .skip)) (.seq (.ops false [⟨⟨(some 62), (.mv (.tmp 9)), none⟩, none⟩, ⟨⟨(some 63), (.mv (.tmp 1)), none⟩, none⟩, ⟨⟨(some 64), (.slc 1 (.tmp 62) none (some (.tmp 63)) none), none⟩, none⟩, ⟨⟨(some 65), (.call (.func 36) [(.tmp 64)]), none⟩, none⟩, ⟨⟨(some 61), (.mv (.tmp 65)), none⟩, none⟩, ⟨⟨(some 66), (.ext (.tmp 61) 0), none⟩, none⟩, ⟨⟨(some 67), (.ext (.tmp 61) 1), none⟩, none⟩, ⟨⟨(some 11), (.alloc 46 [(.int .i64 (0)), (.int .i64 (0)), (.isl true true .i64 []), (.isl true true .i64 [])]), none⟩, none⟩, ⟨⟨none, (.st 4 (.tmp 11) (.tmp 66)), none⟩, none⟩, ⟨⟨(some 12), (.mv (.tmp 67)), none⟩, none⟩]) (.seq (.ops false [⟨⟨(some 69), (.bsl 5 (some .u8) 1 []), none⟩, none⟩, ⟨⟨(some 70), (.mv (.tmp 9)), none⟩, none⟩, ⟨⟨(some 71), (.app 5 (some .u8) 1 1 (.tmp 69) (.tmp 70)), none⟩, none⟩, ⟨⟨(some 72), (.mv (.tmp 3)), none⟩, none⟩, ⟨⟨(some 73), (.app 5 (some .u8) 1 1 (.tmp 71) (.tmp 72)), none⟩, none⟩, ⟨⟨(some 74), (.call (.func 36) [(.tmp 73)]), none⟩, none⟩, ⟨⟨(some 68), (.mv (.tmp 74)), none⟩, none⟩, ⟨⟨(some 75), (.ext (.tmp 68) 0), none⟩, none⟩, ⟨⟨(some 76), (.ext (.tmp 68) 1), none⟩, none⟩, ⟨⟨(some 13), (.alloc 46 [(.int .i64 (0)), (.int .i64 (0)), (.isl true true .i64 []), (.isl true true .i64 [])]), none⟩, none⟩, ⟨⟨none, (.st 4 (.tmp 13) (.tmp 75)), none⟩, none⟩, ⟨⟨(some 14), (.mv (.tmp 76)), none⟩, none⟩]) (.seq (.ops false [⟨⟨(some 77), (.mv (.tmp 9)), none⟩, none⟩, ⟨⟨(some 78), (.mv (.tmp 1)), none⟩, none⟩, ⟨⟨(some 79), (.ixA 1 (.tmp 77) (.tmp 78)), none⟩, none⟩, ⟨⟨(some 80), (.ld false 1 (.tmp 79)), none⟩, (some (.int .u8))⟩, ⟨⟨(some 81), (.mv (.tmp 2)), none⟩, none⟩, ⟨⟨(some 82), (.bin .xor (.tmp 80) (.tmp 81)), none⟩, none⟩, ⟨⟨(some 83), (.ixA 1 (.tmp 77) (.tmp 78)), none⟩, none⟩, ⟨⟨none, (.st 1 (.tmp 83) (.tmp 82)), none⟩, none⟩]) (.seq (.ops false [⟨⟨(some 85), (.mv (.tmp 9)), none⟩, none⟩, ⟨⟨(some 86), (.call (.func 36) [(.tmp 85)]), none⟩, none⟩, ⟨⟨(some 84), (.mv (.tmp 86)), none⟩, none⟩, ⟨⟨(some 87), (.ext (.tmp 84) 0), none⟩, none⟩, ⟨⟨(some 88), (.ext (.tmp 84) 1), none⟩, none⟩, ⟨⟨(some 15), (.alloc 46 [(.int .i64 (0)), (.int .i64 (0)), (.isl true true .i64 []), (.isl true true .i64 [])]), none⟩, none⟩, ⟨⟨none, (.st 4 (.tmp 15) (.tmp 87)), none⟩, none⟩, ⟨⟨(some 16), (.mv (.tmp 88)), none⟩, none⟩]) (.seq (.ops false [⟨⟨(some 89), (.mv (.tmp 12)), none⟩, none⟩, ⟨⟨(some 90), (.bin .eql (.tmp 89) (.c (.int .i64 (2)))), none⟩, none⟩, ⟨⟨(some 91), (.mv (.tmp 90)), none⟩, none⟩, ⟨⟨(some 92), (.mv (.tmp 14)), (some (91, true))⟩, none⟩, ⟨⟨(some 93), (.bin .eql (.tmp 92) (.c (.int .i64 (5)))), (some (91, true))⟩, none⟩, ⟨⟨(some 94), (.pick (.tmp 91) (.tmp 93) (.c (.bool false))), none⟩, none⟩, ⟨⟨(some 95), (.mv (.tmp 94)), none⟩, none⟩, ⟨⟨(some 96), (.mv (.tmp 16)), (some (95, true))⟩, none⟩, ⟨⟨(some 97), (.bin .neq (.tmp 96) (.c (.int .i64 (0)))), (some (95, true))⟩, none⟩, ⟨⟨(some 98), (.pick (.tmp 95) (.tmp 97) (.c (.bool false))), none⟩, none⟩, ⟨⟨(some 99), (.mv (.tmp 98)), none⟩, none⟩, ⟨⟨(some 100), (.ld true 4 (.tmp 15)), (some (99, true))⟩, (some (.agg [(.int .i64), (.int .i64), (.isl .i64), (.isl .i64)]))⟩, ⟨⟨(some 101), (.build [(.int .i64 (0)), (.int .i64 (0)), (.isl true true .i64 []), (.isl true true .i64 [])] []), (some (99, true))⟩, none⟩, ⟨⟨(some 102), (.call (.func 38) [(.tmp 100), (.tmp 101)]), (some (99, true))⟩, none⟩, ⟨⟨(some 103), (.pick (.tmp 99) (.tmp 102) (.c (.bool false))), none⟩, none⟩, ⟨⟨(some 104), (.mv (.tmp 103)), none⟩, none⟩, ⟨⟨(some 105), (.call (.func 31) []), (some (104, true))⟩, none⟩, ⟨⟨(some 106), (.pick (.tmp 104) (.tmp 105) (.c (.bool false))), none⟩, none⟩, ⟨⟨(some 8), (.mv (.tmp 106)), none⟩, none⟩]) .ret))))))))
def rs_coupletlaw18_ReportTurned : List ResultVar := [(.tmp 8)]
theorem ir_coupletlaw18_ReportTurned : compCode Tryd.prog (Tryd.f12.body.getD .skip) [] = some (xr_coupletlaw18_ReportTurned.erase, []) := by kernel_rfl
/-! coupletlaw18_ReportTurned -/
def gm_coupletlaw18_ReportTurned : Gam := (Gam.fn 32 as_report_Encode ga_report_Encode em_report_Encode (Gam.fn 31 as_coupletlaw18_awake ga_coupletlaw18_awake em_coupletlaw18_awake (Gam.fn 36 as_report_Decode ga_report_Decode em_report_Decode Gam.bot)))
theorem gk_coupletlaw18_ReportTurned : GamOk Tryd.prog GG gm_coupletlaw18_ReportTurned := (GamOk.fn at_report_Encode (GamOk.fn at_coupletlaw18_awake (GamOk.fn at_report_Decode GamOk.bot)))
def lm_coupletlaw18_ReportTurned : Lam := fun _ j S kn ke => match j with
  | _ => .fail
/-- coupletlaw18_ReportTurned -/
def go_coupletlaw18_ReportTurned (n0 : Int) (n1 : Int) (b2 : Bool) (b3 : Bool) (l4 : List Int) (b5 : Bool) (b6 : Bool) (l7 : List Int) (n8 : Int) (n9 : Int) (b10 : Bool) (b11 : Bool) (l12 : List Int) : Option Bool :=
  (go_report_Encode n0 n1 b2 b3 l4 b5 b6 l7).bind fun r13 =>
  bif (decide ((((List.length l4) : Nat) : Int) > 20)) then
   (go_coupletlaw18_awake).bind fun r14 =>
   some r14
  else
   bif (decide ((((List.length l7) : Nat) : Int) > 20)) then
    (go_coupletlaw18_awake).bind fun r15 =>
    some r15
   else
    bif (r13.2.2.2 != 0) then
     (go_coupletlaw18_awake).bind fun r16 =>
     some r16
    else
     bif (decide (n8 < 0)) then
      (go_coupletlaw18_awake).bind fun r17 =>
      some r17
     else
      bif (decide (n8 ≥ (((List.length r13.2.2.1) : Nat) : Int))) then
       (go_coupletlaw18_awake).bind fun r18 =>
       some r18
      else
       bif (n9 == 0) then
        (go_coupletlaw18_awake).bind fun r19 =>
        some r19
       else
        bif (decide ((((List.length l12) : Nat) : Int) < 1)) then
         (go_coupletlaw18_awake).bind fun r20 =>
         some r20
        else
         bif (decide ((((List.length l12) : Nat) : Int) > 20)) then
          (go_coupletlaw18_awake).bind fun r21 =>
          some r21
         else
          bif (decide (0 ≤ n8)) then
           bif (decide (n8 ≤ (((List.length r13.2.2.1) : Nat) : Int))) then
            (go_report_Decode r13.1 false (List.take (Int.toNat (n8 - 0)) (List.drop 0 r13.2.2.1))).bind fun r22 =>
            bif (decide (((0 + (List.length r13.2.2.1)) * 1) ≤ 140737488355328)) then
             bif (decide ((0 + (List.length r13.2.2.1)) ≤ 4611686018427387904)) then
              bif (decide ((((List.length ([] ++ r13.2.2.1)) + (List.length l12)) * 1) ≤ 140737488355328)) then
               bif (decide (((List.length ([] ++ r13.2.2.1)) + (List.length l12)) ≤ 4611686018427387904)) then
                (go_report_Decode ((false && (List.isEmpty r13.2.2.1)) && (List.isEmpty l12)) false (([] ++ r13.2.2.1) ++ l12)).bind fun r23 =>
                bif (decide (0 ≤ n8)) then
                 bif (decide (n8 < (((List.length r13.2.2.1) : Nat) : Int))) then
                  bif (decide ((Int.toNat n8) < (List.length r13.2.2.1))) then
                   bif (decide (0 ≤ n8)) then
                    bif (decide (n8 < (((List.length r13.2.2.1) : Nat) : Int))) then
                     none
                    else none
                   else none
                  else none
                 else none
                else none
               else none
              else none
             else none
            else none
           else none
          else none
def em_coupletlaw18_ReportTurned (r : Bool) : PV := (.bool r)
def rh_coupletlaw18_ReportTurned : Shp := .bool
def ra_coupletlaw18_ReportTurned (v : PV) : Bool := v.tru
def kf_coupletlaw18_ReportTurned (v : PV) : Tree Bool := .chk (rh_coupletlaw18_ReportTurned.ok v) (.leaf (ra_coupletlaw18_ReportTurned v))
theorem rn_coupletlaw18_ReportTurned (n0 : Int) (n1 : Int) (b2 : Bool) (b3 : Bool) (l4 : List Int) (b5 : Bool) (b6 : Bool) (l7 : List Int) (n8 : Int) (n9 : Int) (b10 : Bool) (b11 : Bool) (l12 : List Int) : (ev GG gm_coupletlaw18_ReportTurned lm_coupletlaw18_ReportTurned xr_coupletlaw18_ReportTurned ⟨slots 107 0 [(0, .p (.agg [(.int .i64 n0), (.int .i64 n1), (.isl b2 b3 .i64 l4), (.isl b5 b6 .i64 l7)])), (1, .p (.int .i64 n8)), (2, .p (.int .u8 n9)), (3, .p (.isl b10 b11 .u8 l12))], []⟩ (fun S => finT Tryd.prog rs_coupletlaw18_ReportTurned S kf_coupletlaw18_ReportTurned) (retT Tryd.prog rs_coupletlaw18_ReportTurned kf_coupletlaw18_ReportTurned)).run = go_coupletlaw18_ReportTurned n0 n1 b2 b3 l4 b5 b6 l7 n8 n9 b10 b11 l12 := by kernel_rfl
theorem ok_coupletlaw18_ReportTurned (n0 : Int) (n1 : Int) (b2 : Bool) (b3 : Bool) (l4 : List Int) (b5 : Bool) (b6 : Bool) (l7 : List Int) (n8 : Int) (n9 : Int) (b10 : Bool) (b11 : Bool) (l12 : List Int) (r : Bool) (h : go_coupletlaw18_ReportTurned n0 n1 b2 b3 l4 b5 b6 l7 n8 n9 b10 b11 l12 = some r) : FunEq Tryd.prog GG 12 [(.agg [(.int .i64 n0), (.int .i64 n1), (.isl b2 b3 .i64 l4), (.isl b5 b6 .i64 l7)]), (.int .i64 n8), (.int .u8 n9), (.isl b10 b11 .u8 l12)] (em_coupletlaw18_ReportTurned r) :=
  fun_of_ev (x := xr_coupletlaw18_ReportTurned) (Λ := lm_coupletlaw18_ReportTurned) gk_coupletlaw18_ReportTurned [] Tryd.func12 rfl (by kernel_rfl) ir_coupletlaw18_ReportTurned (by kernel_rfl) (congrArg Array.toList Tryd.results12) Tryd.ntmps12 (⟨trivial, ⟨trivial, ⟨⟨trivial, ⟨⟨trivial, trivial⟩, trivial⟩⟩, ⟨trivial, ⟨trivial, ⟨trivial, ⟨trivial, ⟨trivial, trivial⟩⟩⟩⟩⟩⟩⟩⟩) (leaf_of fun v => (by kernel_rfl : rh_coupletlaw18_ReportTurned.build v = em_coupletlaw18_ReportTurned (ra_coupletlaw18_ReportTurned v))) (by kernel_rfl) ((rn_coupletlaw18_ReportTurned n0 n1 b2 b3 l4 b5 b6 l7 n8 n9 b10 b11 l12).trans h)
def as_coupletlaw18_ReportTurned : List Shp := [(.agg [(.int .i64), (.int .i64), (.isl .i64), (.isl .i64)]), (.int .i64), (.int .u8), (.isl .u8)]
def ga_coupletlaw18_ReportTurned (vs : List PV) : Option Bool := go_coupletlaw18_ReportTurned (((tls 0 vs).headD .nilSl).subs.headD .nilSl).num (((tls 0 vs).headD .nilSl).subs.tail.headD .nilSl).num (((tls 0 vs).headD .nilSl).subs.tail.tail.headD .nilSl).nl (((tls 0 vs).headD .nilSl).subs.tail.tail.headD .nilSl).ex (((tls 0 vs).headD .nilSl).subs.tail.tail.headD .nilSl).ints (((tls 0 vs).headD .nilSl).subs.tail.tail.tail.headD .nilSl).nl (((tls 0 vs).headD .nilSl).subs.tail.tail.tail.headD .nilSl).ex (((tls 0 vs).headD .nilSl).subs.tail.tail.tail.headD .nilSl).ints ((tls 1 vs).headD .nilSl).num ((tls 2 vs).headD .nilSl).num ((tls 3 vs).headD .nilSl).nl ((tls 3 vs).headD .nilSl).ex ((tls 3 vs).headD .nilSl).ints
theorem at_coupletlaw18_ReportTurned : FnAt Tryd.prog GG 12 as_coupletlaw18_ReportTurned ga_coupletlaw18_ReportTurned em_coupletlaw18_ReportTurned := fun vs h r hr => by
  have e : Shp.buildL as_coupletlaw18_ReportTurned vs = [(.agg [(.int .i64 (((tls 0 vs).headD .nilSl).subs.headD .nilSl).num), (.int .i64 (((tls 0 vs).headD .nilSl).subs.tail.headD .nilSl).num), (.isl (((tls 0 vs).headD .nilSl).subs.tail.tail.headD .nilSl).nl (((tls 0 vs).headD .nilSl).subs.tail.tail.headD .nilSl).ex .i64 (((tls 0 vs).headD .nilSl).subs.tail.tail.headD .nilSl).ints), (.isl (((tls 0 vs).headD .nilSl).subs.tail.tail.tail.headD .nilSl).nl (((tls 0 vs).headD .nilSl).subs.tail.tail.tail.headD .nilSl).ex .i64 (((tls 0 vs).headD .nilSl).subs.tail.tail.tail.headD .nilSl).ints)]), (.int .i64 ((tls 1 vs).headD .nilSl).num), (.int .u8 ((tls 2 vs).headD .nilSl).num), (.isl ((tls 3 vs).headD .nilSl).nl ((tls 3 vs).headD .nilSl).ex .u8 ((tls 3 vs).headD .nilSl).ints)] := by kernel_rfl
  rw [← Shp.buildL_eq _ h, e]
  exact .inl ⟨by decide, ok_coupletlaw18_ReportTurned _ _ _ _ _ _ _ _ _ _ _ _ _ r hr⟩

def xr_coupletlaw18_ReportLong : XR := (.seq (.ops false [⟨⟨(some 2), (.box 46 (.tmp 0)), none⟩, none⟩, ⟨⟨(some 3), (.box 46 (.tmp 1)), none⟩, none⟩, ⟨⟨(some 4), (.mv (.c (.bool false))), none⟩, none⟩]) (.seq (.ops false [⟨⟨(some 10), (.ld true 4 (.tmp 2)), none⟩, (some (.agg [(.int .i64), (.int .i64), (.isl .i64), (.isl .i64)]))⟩, ⟨⟨(some 11), (.call (.func 32) [(.tmp 10)]), none⟩, none⟩, ⟨⟨(some 9), (.mv (.tmp 11)), none⟩, none⟩, ⟨⟨(some 12), (.ext (.tmp 9) 0), none⟩, none⟩, ⟨⟨(some 13), (.ext (.tmp 9) 1), none⟩, none⟩, ⟨⟨(some 5), (.mv (.tmp 12)), none⟩, none⟩, ⟨⟨(some 6), (.mv (.tmp 13)), none⟩, none⟩]) (.seq (.ops false [⟨⟨(some 15), (.ld true 4 (.tmp 3)), none⟩, (some (.agg [(.int .i64), (.int .i64), (.isl .i64), (.isl .i64)]))⟩, ⟨⟨(some 16), (.call (.func 32) [(.tmp 15)]), none⟩, none⟩, ⟨⟨(some 14), (.mv (.tmp 16)), none⟩, none⟩, ⟨⟨(some 17), (.ext (.tmp 14) 0), none⟩, none⟩, ⟨⟨(some 18), (.ext (.tmp 14) 1), none⟩, none⟩, ⟨⟨(some 7), (.mv (.tmp 17)), none⟩, none⟩, ⟨⟨(some 8), (.mv (.tmp 18)), none⟩, none⟩]) (.seq (.seq (.ops false [⟨⟨(some 19), (.fldA 2 (.tmp 2)), none⟩, none⟩, ⟨⟨(some 20), (.ld false 1 (.tmp 19)), none⟩, (some (.isl .i64))⟩, ⟨⟨(some 21), (.len (.tmp 20)), none⟩, none⟩, ⟨⟨(some 22), (.bin .gtr (.tmp 21) (.c (.int .i64 (20)))), none⟩, none⟩, ⟨⟨(some 23), (.mv (.tmp 22)), none⟩, none⟩, ⟨⟨(some 24), (.fldA 2 (.tmp 3)), (some (23, false))⟩, none⟩, ⟨⟨(some 25), (.ld false 1 (.tmp 24)), (some (23, false))⟩, (some (.isl .i64))⟩, ⟨⟨(some 26), (.len (.tmp 25)), (some (23, false))⟩, none⟩, ⟨⟨(some 27), (.bin .gtr (.tmp 26) (.c (.int .i64 (20)))), (some (23, false))⟩, none⟩, ⟨⟨(some 28), (.pick (.tmp 23) (.c (.bool true)) (.tmp 27)), none⟩, none⟩, ⟨⟨(some 29), (.mv (.tmp 28)), none⟩, none⟩, ⟨⟨(some 30), (.mv (.tmp 6)), (some (29, false))⟩, none⟩, ⟨⟨(some 31), (.bin .neq (.tmp 30) (.c (.int .i64 (0)))), (some (29, false))⟩, none⟩, ⟨⟨(some 32), (.pick (.tmp 29) (.c (.bool true)) (.tmp 31)), none⟩, none⟩, ⟨⟨(some 33), (.mv (.tmp 32)), none⟩, none⟩, ⟨⟨(some 34), (.mv (.tmp 8)), (some (33, false))⟩, none⟩, ⟨⟨(some 35), (.bin .neq (.tmp 34) (.c (.int .i64 (0)))), (some (33, false))⟩, none⟩, ⟨⟨(some 36), (.pick (.tmp 33) (.c (.bool true)) (.tmp 35)), none⟩, none⟩]) (.cond (.tmp 36) (.seq (.ops false [⟨⟨(some 37), (.call (.func 31) []), none⟩, none⟩, ⟨⟨(some 4), (.mv (.tmp 37)), none⟩, none⟩]) .ret) .skip)) (.seq (.ops true [⟨⟨(some 38), (.mv (.tmp 5)), none⟩, none⟩, ⟨⟨(some 39), (.len (.tmp 38)), none⟩, none⟩, ⟨⟨(some 40), (.fldA 2 (.tmp 2)), none⟩, none⟩, ⟨⟨(some 41), (.ld false 1 (.tmp 40)), none⟩, (some (.isl .i64))⟩, ⟨⟨(some 42), (.len (.tmp 41)), none⟩, none⟩, ⟨⟨(some 43), (.bin .mul (.c (.int .i64 (16))) (.tmp 42)), none⟩, none⟩, ⟨⟨(some 44), (.bin .add (.c (.int .i64 (12))) (.tmp 43)), none⟩, none⟩, ⟨⟨(some 45), (.bin .eql (.tmp 39) (.tmp 44)), none⟩, none⟩, ⟨⟨(some 46), (.mv (.tmp 45)), none⟩, none⟩, ⟨⟨(some 47), (.mv (.tmp 5)), (some (46, true))⟩, none⟩, ⟨⟨(some 48), (.cvtBS (.tmp 47)), (some (46, true))⟩, none⟩, ⟨⟨(some 49), (.mv (.tmp 7)), (some (46, true))⟩, none⟩, ⟨⟨(some 50), (.cvtBS (.tmp 49)), (some (46, true))⟩, none⟩, ⟨⟨(some 51), (.binS .eql (.tmp 48) (.tmp 50)), (some (46, true))⟩, none⟩, ⟨⟨(some 52), (.ld true 4 (.tmp 2)), (some (46, true))⟩, (some (.agg [(.int .i64), (.int .i64), (.isl .i64), (.isl .i64)]))⟩, ⟨⟨(some 53), (.ld true 4 (.tmp 3)), (some (46, true))⟩, (some (.agg [(.int .i64), (.int .i64), (.isl .i64), (.isl .i64)]))⟩, ⟨⟨(some 54), (.call (.func 38) [(.tmp 52), (.tmp 53)]), (some (46, true))⟩, none⟩, ⟨⟨(some 55), (.binB false (.tmp 51) (.tmp 54)), (some (46, true))⟩, none⟩, ⟨⟨(some 56), (.pick (.tmp 46) (.tmp 55) (.c (.bool false))), none⟩, none⟩, ⟨⟨(some 57), (.mv (.tmp 56)), none⟩, none⟩, ⟨⟨(some 58), (.call (.func 31) []), (some (57, true))⟩, none⟩, ⟨⟨(some 59), (.pick (.tmp 57) (.tmp 58) (.c (.bool false))), none⟩, none⟩, ⟨⟨(some 4), (.mv (.tmp 59)), none⟩, none⟩]) .ret)))))
def rs_coupletlaw18_ReportLong : List ResultVar := [(.tmp 4)]
theorem ir_coupletlaw18_ReportLong : compCode Tryd.prog (Tryd.f13.body.getD .skip) [] = some (xr_coupletlaw18_ReportLong.erase, []) := by kernel_rfl
/-! coupletlaw18_ReportLong -/
def gm_coupletlaw18_ReportLong : Gam := (Gam.fn 32 as_report_Encode ga_report_Encode em_report_Encode (Gam.fn 31 as_coupletlaw18_awake ga_coupletlaw18_awake em_coupletlaw18_awake (Gam.fn 38 as_report_Same ga_report_Same em_report_Same Gam.bot)))
theorem gk_coupletlaw18_ReportLong : GamOk Tryd.prog GG gm_coupletlaw18_ReportLong := (GamOk.fn at_report_Encode (GamOk.fn at_coupletlaw18_awake (GamOk.fn at_report_Same GamOk.bot)))
def lm_coupletlaw18_ReportLong : Lam := fun _ j S kn ke => match j with
  | _ => .fail
/-- coupletlaw18_ReportLong -/
def go_coupletlaw18_ReportLong (n0 : Int) (n1 : Int) (b2 : Bool) (b3 : Bool) (l4 : List Int) (b5 : Bool) (b6 : Bool) (l7 : List Int) (n8 : Int) (n9 : Int) (b10 : Bool) (b11 : Bool) (l12 : List Int) (b13 : Bool) (b14 : Bool) (l15 : List Int) : Option Bool :=
  (go_report_Encode n0 n1 b2 b3 l4 b5 b6 l7).bind fun r16 =>
  (go_report_Encode n8 n9 b10 b11 l12 b13 b14 l15).bind fun r17 =>
  bif (decide ((((List.length l4) : Nat) : Int) > 20)) then
   (go_coupletlaw18_awake).bind fun r18 =>
   some r18
  else
   bif (decide ((((List.length l12) : Nat) : Int) > 20)) then
    (go_coupletlaw18_awake).bind fun r19 =>
    some r19
   else
    bif (r16.2.2.2 != 0) then
     (go_coupletlaw18_awake).bind fun r20 =>
     some r20
    else
     bif (r17.2.2.2 != 0) then
      (go_coupletlaw18_awake).bind fun r21 =>
      some r21
     else
      bif ((((List.length r16.2.2.1) : Nat) : Int) == (IntKind.wrap .i64 (12 + (IntKind.wrap .i64 (16 * (((List.length l4) : Nat) : Int)))))) then
       bif (List.all r16.2.2.1 (fun x24 => (decide ((0 ≤ x24) ∧ (x24 < 256))))) then
        bif (List.all r17.2.2.1 (fun x25 => (decide ((0 ≤ x25) ∧ (x25 < 256))))) then
         (go_report_Same n0 n1 b2 b3 l4 b5 b6 l7 n8 n9 b10 b11 l12 b13 b14 l15).bind fun r22 =>
         bif ((r16.2.2.1 == r17.2.2.1) == r22) then
          (go_coupletlaw18_awake).bind fun r23 =>
          some r23
         else
          some false
        else none
       else none
      else
       some false
def em_coupletlaw18_ReportLong (r : Bool) : PV := (.bool r)
def rh_coupletlaw18_ReportLong : Shp := .bool
def ra_coupletlaw18_ReportLong (v : PV) : Bool := v.tru
def kf_coupletlaw18_ReportLong (v : PV) : Tree Bool := .chk (rh_coupletlaw18_ReportLong.ok v) (.leaf (ra_coupletlaw18_ReportLong v))
theorem rn_coupletlaw18_ReportLong (n0 : Int) (n1 : Int) (b2 : Bool) (b3 : Bool) (l4 : List Int) (b5 : Bool) (b6 : Bool) (l7 : List Int) (n8 : Int) (n9 : Int) (b10 : Bool) (b11 : Bool) (l12 : List Int) (b13 : Bool) (b14 : Bool) (l15 : List Int) : (ev GG gm_coupletlaw18_ReportLong lm_coupletlaw18_ReportLong xr_coupletlaw18_ReportLong ⟨slots 60 0 [(0, .p (.agg [(.int .i64 n0), (.int .i64 n1), (.isl b2 b3 .i64 l4), (.isl b5 b6 .i64 l7)])), (1, .p (.agg [(.int .i64 n8), (.int .i64 n9), (.isl b10 b11 .i64 l12), (.isl b13 b14 .i64 l15)]))], []⟩ (fun S => finT Tryd.prog rs_coupletlaw18_ReportLong S kf_coupletlaw18_ReportLong) (retT Tryd.prog rs_coupletlaw18_ReportLong kf_coupletlaw18_ReportLong)).run = go_coupletlaw18_ReportLong n0 n1 b2 b3 l4 b5 b6 l7 n8 n9 b10 b11 l12 b13 b14 l15 := by kernel_rfl
theorem ok_coupletlaw18_ReportLong (n0 : Int) (n1 : Int) (b2 : Bool) (b3 : Bool) (l4 : List Int) (b5 : Bool) (b6 : Bool) (l7 : List Int) (n8 : Int) (n9 : Int) (b10 : Bool) (b11 : Bool) (l12 : List Int) (b13 : Bool) (b14 : Bool) (l15 : List Int) (r : Bool) (h : go_coupletlaw18_ReportLong n0 n1 b2 b3 l4 b5 b6 l7 n8 n9 b10 b11 l12 b13 b14 l15 = some r) : FunEq Tryd.prog GG 13 [(.agg [(.int .i64 n0), (.int .i64 n1), (.isl b2 b3 .i64 l4), (.isl b5 b6 .i64 l7)]), (.agg [(.int .i64 n8), (.int .i64 n9), (.isl b10 b11 .i64 l12), (.isl b13 b14 .i64 l15)])] (em_coupletlaw18_ReportLong r) :=
  fun_of_ev (x := xr_coupletlaw18_ReportLong) (Λ := lm_coupletlaw18_ReportLong) gk_coupletlaw18_ReportLong [] Tryd.func13 rfl (by kernel_rfl) ir_coupletlaw18_ReportLong (by kernel_rfl) (congrArg Array.toList Tryd.results13) Tryd.ntmps13 (⟨trivial, ⟨trivial, ⟨trivial, ⟨⟨trivial, ⟨⟨trivial, trivial⟩, trivial⟩⟩, ⟨trivial, trivial⟩⟩⟩⟩⟩) (leaf_of fun v => (by kernel_rfl : rh_coupletlaw18_ReportLong.build v = em_coupletlaw18_ReportLong (ra_coupletlaw18_ReportLong v))) (by kernel_rfl) ((rn_coupletlaw18_ReportLong n0 n1 b2 b3 l4 b5 b6 l7 n8 n9 b10 b11 l12 b13 b14 l15).trans h)
def as_coupletlaw18_ReportLong : List Shp := [(.agg [(.int .i64), (.int .i64), (.isl .i64), (.isl .i64)]), (.agg [(.int .i64), (.int .i64), (.isl .i64), (.isl .i64)])]
def ga_coupletlaw18_ReportLong (vs : List PV) : Option Bool := go_coupletlaw18_ReportLong (((tls 0 vs).headD .nilSl).subs.headD .nilSl).num (((tls 0 vs).headD .nilSl).subs.tail.headD .nilSl).num (((tls 0 vs).headD .nilSl).subs.tail.tail.headD .nilSl).nl (((tls 0 vs).headD .nilSl).subs.tail.tail.headD .nilSl).ex (((tls 0 vs).headD .nilSl).subs.tail.tail.headD .nilSl).ints (((tls 0 vs).headD .nilSl).subs.tail.tail.tail.headD .nilSl).nl (((tls 0 vs).headD .nilSl).subs.tail.tail.tail.headD .nilSl).ex (((tls 0 vs).headD .nilSl).subs.tail.tail.tail.headD .nilSl).ints (((tls 1 vs).headD .nilSl).subs.headD .nilSl).num (((tls 1 vs).headD .nilSl).subs.tail.headD .nilSl).num (((tls 1 vs).headD .nilSl).subs.tail.tail.headD .nilSl).nl (((tls 1 vs).headD .nilSl).subs.tail.tail.headD .nilSl).ex (((tls 1 vs).headD .nilSl).subs.tail.tail.headD .nilSl).ints (((tls 1 vs).headD .nilSl).subs.tail.tail.tail.headD .nilSl).nl (((tls 1 vs).headD .nilSl).subs.tail.tail.tail.headD .nilSl).ex (((tls 1 vs).headD .nilSl).subs.tail.tail.tail.headD .nilSl).ints
theorem at_coupletlaw18_ReportLong : FnAt Tryd.prog GG 13 as_coupletlaw18_ReportLong ga_coupletlaw18_ReportLong em_coupletlaw18_ReportLong := fun vs h r hr => by
  have e : Shp.buildL as_coupletlaw18_ReportLong vs = [(.agg [(.int .i64 (((tls 0 vs).headD .nilSl).subs.headD .nilSl).num), (.int .i64 (((tls 0 vs).headD .nilSl).subs.tail.headD .nilSl).num), (.isl (((tls 0 vs).headD .nilSl).subs.tail.tail.headD .nilSl).nl (((tls 0 vs).headD .nilSl).subs.tail.tail.headD .nilSl).ex .i64 (((tls 0 vs).headD .nilSl).subs.tail.tail.headD .nilSl).ints), (.isl (((tls 0 vs).headD .nilSl).subs.tail.tail.tail.headD .nilSl).nl (((tls 0 vs).headD .nilSl).subs.tail.tail.tail.headD .nilSl).ex .i64 (((tls 0 vs).headD .nilSl).subs.tail.tail.tail.headD .nilSl).ints)]), (.agg [(.int .i64 (((tls 1 vs).headD .nilSl).subs.headD .nilSl).num), (.int .i64 (((tls 1 vs).headD .nilSl).subs.tail.headD .nilSl).num), (.isl (((tls 1 vs).headD .nilSl).subs.tail.tail.headD .nilSl).nl (((tls 1 vs).headD .nilSl).subs.tail.tail.headD .nilSl).ex .i64 (((tls 1 vs).headD .nilSl).subs.tail.tail.headD .nilSl).ints), (.isl (((tls 1 vs).headD .nilSl).subs.tail.tail.tail.headD .nilSl).nl (((tls 1 vs).headD .nilSl).subs.tail.tail.tail.headD .nilSl).ex .i64 (((tls 1 vs).headD .nilSl).subs.tail.tail.tail.headD .nilSl).ints)])] := by kernel_rfl
  rw [← Shp.buildL_eq _ h, e]
  exact .inl ⟨by decide, ok_coupletlaw18_ReportLong _ _ _ _ _ _ _ _ _ _ _ _ _ _ _ _ r hr⟩
end Go.Proofs
