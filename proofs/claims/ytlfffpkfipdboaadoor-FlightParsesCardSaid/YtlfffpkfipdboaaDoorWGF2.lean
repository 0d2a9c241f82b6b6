import Derived.Test.YtlfffpkfipdboaaDoorWGF1
import Derived.Test.YtlfffpkfipdboaaDoorWSFs
import Derived.Test.YtlfffpkfipdboaaDoorWSFm
import Derived.Test.YtlfffpkfipdboaaDoorWGFn
import Derived.Test.YtlfffpkfipdboaaDoorWLFn
import Derived.Test.YtlfffpkfipdboaaDoorFxRng
import Derived.Test.YtlfffpkfipdboaaDoorChecked
set_option linter.unusedVariables false
set_option maxRecDepth 100000
noncomputable section
namespace Go.Proofs
open Go Go.Fx
def xr_coupletlaw20_awake : XR := (.seq (.ops false [⟨⟨(some 0), (.mv (.c (.bool false))), none⟩, none⟩]) (.seq (.ops false [⟨⟨(some 7), (.call (.func 8) [(.c (.str [(114), (101), (115), (101), (116), (10), (102), (97), (117), (108), (116), (32), (48), (32), (49), (32), (45), (53), (10)]))]), none⟩, none⟩, ⟨⟨(some 6), (.mv (.tmp 7)), none⟩, none⟩, ⟨⟨(some 8), (.ext (.tmp 6) 0), none⟩, none⟩, ⟨⟨(some 9), (.ext (.tmp 6) 1), none⟩, none⟩, ⟨⟨(some 10), (.ext (.tmp 6) 2), none⟩, none⟩, ⟨⟨(some 1), (.mv (.tmp 8)), none⟩, none⟩, ⟨⟨(some 2), (.mv (.tmp 9)), none⟩, none⟩, ⟨⟨(some 3), (.mv (.tmp 10)), none⟩, none⟩]) (.seq (.ops false [⟨⟨(some 12), (.mv (.tmp 1)), none⟩, none⟩, ⟨⟨(some 13), (.call (.func 15) [(.tmp 12)]), none⟩, none⟩, ⟨⟨(some 11), (.mv (.tmp 13)), none⟩, none⟩, ⟨⟨(some 14), (.ext (.tmp 11) 0), none⟩, none⟩, ⟨⟨(some 15), (.ext (.tmp 11) 1), none⟩, none⟩, ⟨⟨(some 4), (.mv (.tmp 14)), none⟩, none⟩, ⟨⟨(some 5), (.mv (.tmp 15)), none⟩, none⟩]) (.seq (.ops false [⟨⟨(some 16), (.mv (.tmp 3)), none⟩, none⟩, ⟨⟨(some 17), (.bin .eql (.tmp 16) (.c (.int .i64 (0)))), none⟩, none⟩, ⟨⟨(some 18), (.mv (.tmp 17)), none⟩, none⟩, ⟨⟨(some 19), (.mv (.tmp 5)), (some (18, true))⟩, none⟩, ⟨⟨(some 20), (.bin .eql (.tmp 19) (.c (.int .i64 (0)))), (some (18, true))⟩, none⟩, ⟨⟨(some 21), (.pick (.tmp 18) (.tmp 20) (.c (.bool false))), none⟩, none⟩, ⟨⟨(some 22), (.mv (.tmp 21)), none⟩, none⟩, ⟨⟨(some 23), (.mv (.tmp 2)), (some (22, true))⟩, none⟩, ⟨⟨(some 24), (.bin .eql (.tmp 23) (.c (.int .i64 (2)))), (some (22, true))⟩, none⟩, ⟨⟨(some 25), (.pick (.tmp 22) (.tmp 24) (.c (.bool false))), none⟩, none⟩, ⟨⟨(some 26), (.mv (.tmp 25)), none⟩, none⟩, ⟨⟨(some 27), (.mv (.tmp 1)), (some (26, true))⟩, none⟩, ⟨⟨(some 28), (.len (.tmp 27)), (some (26, true))⟩, none⟩, ⟨⟨(some 29), (.bin .eql (.tmp 28) (.c (.int .i64 (2)))), (some (26, true))⟩, none⟩, ⟨⟨(some 30), (.pick (.tmp 26) (.tmp 29) (.c (.bool false))), none⟩, none⟩, ⟨⟨(some 31), (.mv (.tmp 30)), none⟩, none⟩, ⟨⟨(some 32), (.mv (.tmp 1)), (some (31, true))⟩, none⟩, ⟨⟨(some 33), (.ixA 5 (.tmp 32) (.c (.int .i64 (1)))), (some (31, true))⟩, none⟩, ⟨⟨(some 34), (.fldA 4 (.tmp 33)), (some (31, true))⟩, none⟩, ⟨⟨(some 35), (.ld false 1 (.tmp 34)), (some (31, true))⟩, (some (.int .i64))⟩, ⟨⟨(some 36), (.bin .eql (.tmp 35) (.c (.int .i64 (-5)))), (some (31, true))⟩, none⟩, ⟨⟨(some 37), (.pick (.tmp 31) (.tmp 36) (.c (.bool false))), none⟩, none⟩, ⟨⟨(some 38), (.mv (.tmp 37)), none⟩, none⟩, ⟨⟨(some 39), (.mv (.tmp 4)), (some (38, true))⟩, none⟩, ⟨⟨(some 40), (.binS .eql (.tmp 39) (.c (.str [(114), (101), (115), (101), (116), (10), (102), (97), (117), (108), (116), (32), (48), (32), (49), (32), (45), (53), (10)]))), (some (38, true))⟩, none⟩, ⟨⟨(some 41), (.pick (.tmp 38) (.tmp 40) (.c (.bool false))), none⟩, none⟩, ⟨⟨(some 42), (.mv (.tmp 41)), none⟩, none⟩, ⟨⟨(some 43), (.mv (.tmp 1)), (some (42, true))⟩, none⟩, ⟨⟨(some 44), (.ixA 5 (.tmp 43) (.c (.int .i64 (0)))), (some (42, true))⟩, none⟩, ⟨⟨(some 45), (.ld true 5 (.tmp 44)), (some (42, true))⟩, (some (.agg [.str, (.isl .u8), (.int .i64), (.int .i64), (.int .i64)]))⟩, ⟨⟨(some 46), (.call (.func 14) [(.tmp 45)]), (some (42, true))⟩, none⟩, ⟨⟨(some 47), (.pick (.tmp 42) (.tmp 46) (.c (.bool false))), none⟩, none⟩, ⟨⟨(some 0), (.mv (.tmp 47)), none⟩, none⟩]) .ret))))
def rs_coupletlaw20_awake : List ResultVar := [(.tmp 0)]
theorem ir_coupletlaw20_awake : compCode Tryd.prog (Tryd.f7.body.getD .skip) [] = some (xr_coupletlaw20_awake.erase, []) := by kernel_rfl
def gm_coupletlaw20_awake : Gam := (Gam.fn 8 as_flight_Parse ga_flight_Parse em_flight_Parse (Gam.fn 15 as_flight_Print ga_flight_Print em_flight_Print (Gam.fn 14 as_flight_Right ga_flight_Right em_flight_Right Gam.bot)))
theorem gk_coupletlaw20_awake : GamOk Tryd.prog GG gm_coupletlaw20_awake := (GamOk.fn at_flight_Parse (GamOk.fn at_flight_Print (GamOk.fn at_flight_Right GamOk.bot)))
def lm_coupletlaw20_awake : Lam := fun _ j S kn ke => match j with
  | _ => .fail
def go_coupletlaw20_awake : Option Bool :=
  (go_flight_Parse [114, 101, 115, 101, 116, 10, 102, 97, 117, 108, 116, 32, 48, 32, 49, 32, 45, 53, 10]).bind fun r0 =>
  (go_flight_Print r0.1 r0.2.1 r0.2.2.1).bind fun r1 =>
  bif (r0.2.2.2.2 == 0) then
   bif (r1.2 == 0) then
    bif (r0.2.2.2.1 == 2) then
     bif ((((List.length r0.2.2.1) : Nat) : Int) == 2) then
      bif (decide (1 < (((List.length r0.2.2.1) : Nat) : Int))) then
       bif (decide (1 < (List.length r0.2.2.1))) then
        bif (Shp.ok (.int .i64) (List.getD (PV.cells (List.getD r0.2.2.1 1 .nilSl)) 4 .nilSl)) then
         bif ((PV.num (List.getD (PV.cells (List.getD r0.2.2.1 1 .nilSl)) 4 .nilSl)) == (-5)) then
          bif (r1.1 == [114, 101, 115, 101, 116, 10, 102, 97, 117, 108, 116, 32, 48, 32, 49, 32, 45, 53, 10]) then
           bif (decide (0 < (((List.length r0.2.2.1) : Nat) : Int))) then
            bif (decide (0 < (List.length r0.2.2.1))) then
             bif (decide ((List.length (PV.cells (List.getD r0.2.2.1 0 .nilSl))) = 5)) then
              bif (Shp.ok (.agg [.str, (.isl .u8), (.int .i64), (.int .i64), (.int .i64)]) (.agg (PV.cells (List.getD r0.2.2.1 0 .nilSl)))) then
               (go_flight_Right (PV.chars (List.headD (PV.subs (.agg (PV.cells (List.getD r0.2.2.1 0 .nilSl)))) .nilSl)) (PV.nl (List.headD (List.tail (PV.subs (.agg (PV.cells (List.getD r0.2.2.1 0 .nilSl))))) .nilSl)) (PV.ex (List.headD (List.tail (PV.subs (.agg (PV.cells (List.getD r0.2.2.1 0 .nilSl))))) .nilSl)) (PV.ints (List.headD (List.tail (PV.subs (.agg (PV.cells (List.getD r0.2.2.1 0 .nilSl))))) .nilSl)) (PV.num (List.headD (List.tail (List.tail (PV.subs (.agg (PV.cells (List.getD r0.2.2.1 0 .nilSl)))))) .nilSl)) (PV.num (List.headD (List.tail (List.tail (List.tail (PV.subs (.agg (PV.cells (List.getD r0.2.2.1 0 .nilSl))))))) .nilSl)) (PV.num (List.headD (List.tail (List.tail (List.tail (List.tail (PV.subs (.agg (PV.cells (List.getD r0.2.2.1 0 .nilSl)))))))) .nilSl))).bind fun r2 =>
               some r2
              else none
             else none
            else none
           else none
          else
           some false
         else
          some false
        else none
       else none
      else none
     else
      some false
    else
     some false
   else
    some false
  else
   some false
def em_coupletlaw20_awake (r : Bool) : PV := (.bool r)
def rh_coupletlaw20_awake : Shp := .bool
def ra_coupletlaw20_awake (v : PV) : Bool := v.tru
def kf_coupletlaw20_awake (v : PV) : Tree Bool := .chk (rh_coupletlaw20_awake.ok v) (.leaf (ra_coupletlaw20_awake v))
theorem rn_coupletlaw20_awake : (ev GG gm_coupletlaw20_awake lm_coupletlaw20_awake xr_coupletlaw20_awake ⟨slots 48 0 [], []⟩ (fun S => finT Tryd.prog rs_coupletlaw20_awake S kf_coupletlaw20_awake) (retT Tryd.prog rs_coupletlaw20_awake kf_coupletlaw20_awake)).run = go_coupletlaw20_awake := by kernel_rfl
theorem ok_coupletlaw20_awake (r : Bool) (h : go_coupletlaw20_awake = some r) : FunEq Tryd.prog GG 7 [] (em_coupletlaw20_awake r) :=
  fun_of_ev (x := xr_coupletlaw20_awake) (Λ := lm_coupletlaw20_awake) gk_coupletlaw20_awake [] Tryd.func7 rfl (by kernel_rfl) ir_coupletlaw20_awake (by kernel_rfl) (congrArg Array.toList Tryd.results7) Tryd.ntmps7 (⟨trivial, ⟨trivial, ⟨trivial, ⟨trivial, trivial⟩⟩⟩⟩) (leaf_of fun v => (by kernel_rfl : rh_coupletlaw20_awake.build v = em_coupletlaw20_awake (ra_coupletlaw20_awake v))) (by kernel_rfl) ((rn_coupletlaw20_awake).trans h)
def as_coupletlaw20_awake : List Shp := []
def ga_coupletlaw20_awake (vs : List PV) : Option Bool := go_coupletlaw20_awake
theorem at_coupletlaw20_awake : FnAt Tryd.prog GG 7 as_coupletlaw20_awake ga_coupletlaw20_awake em_coupletlaw20_awake := fun vs h r hr => by
  have e : Shp.buildL as_coupletlaw20_awake vs = [] := by kernel_rfl
  rw [← Shp.buildL_eq _ h, e]
  exact .inl ⟨by decide, ok_coupletlaw20_awake  r hr⟩
def xb_coupletref20_Lines_0 : XR := (.seq (.seq (.ops false [⟨⟨(some 6), (.mv (.tmp 4)), none⟩, none⟩, ⟨⟨(some 7), (.mv (.tmp 0)), none⟩, none⟩, ⟨⟨(some 8), (.lenS (.tmp 7)), none⟩, none⟩, ⟨⟨(some 9), (.bin .lss (.tmp 6) (.tmp 8)), none⟩, none⟩]) (.cond (.tmp 9) .skip (.exit 0))) (.seq (.block 1 (.seq (.ops false [⟨⟨(some 12), (.mv (.tmp 0)), none⟩, none⟩, ⟨⟨(some 13), (.mv (.tmp 4)), none⟩, none⟩, ⟨⟨(some 14), (.ixS (.tmp 12) (.tmp 13)), none⟩, none⟩, ⟨⟨(some 15), (.bin .neq (.tmp 14) (.c (.int .u8 (10)))), none⟩, none⟩]) (.cond (.tmp 15) (.ops true [⟨⟨(some 16), (.mv (.tmp 3)), none⟩, none⟩, ⟨⟨(some 17), (.mv (.tmp 3)), none⟩, none⟩, ⟨⟨(some 18), (.len (.tmp 17)), none⟩, none⟩, ⟨⟨(some 19), (.bin .sub (.tmp 18) (.c (.int .i64 (1)))), none⟩, none⟩, ⟨⟨(some 20), (.mv (.tmp 3)), none⟩, none⟩, ⟨⟨(some 21), (.mv (.tmp 3)), none⟩, none⟩, ⟨⟨(some 22), (.len (.tmp 21)), none⟩, none⟩, ⟨⟨(some 23), (.bin .sub (.tmp 22) (.c (.int .i64 (1)))), none⟩, none⟩, ⟨⟨(some 24), (.ixA 1 (.tmp 20) (.tmp 23)), none⟩, none⟩, ⟨⟨(some 25), (.ld false 1 (.tmp 24)), none⟩, (some .str)⟩, ⟨⟨(some 26), (.mv (.tmp 0)), none⟩, none⟩, ⟨⟨(some 27), (.mv (.tmp 4)), none⟩, none⟩, ⟨⟨(some 28), (.mv (.tmp 4)), none⟩, none⟩, ⟨⟨(some 29), (.bin .add (.tmp 28) (.c (.int .i64 (1)))), none⟩, none⟩, ⟨⟨(some 30), (.slcS (.tmp 26) (some (.tmp 27)) (some (.tmp 29))), none⟩, none⟩, ⟨⟨(some 31), (.binS .add (.tmp 25) (.tmp 30)), none⟩, none⟩, ⟨⟨(some 32), (.ixA 1 (.tmp 16) (.tmp 19)), none⟩, none⟩, ⟨⟨none, (.st 1 (.tmp 32) (.tmp 31)), none⟩, none⟩]) (.seq (.ops false [⟨⟨(some 33), (.mv (.tmp 4)), none⟩, none⟩, ⟨⟨(some 34), (.bin .add (.tmp 33) (.c (.int .i64 (1)))), none⟩, none⟩, ⟨⟨(some 35), (.mv (.tmp 0)), none⟩, none⟩, ⟨⟨(some 36), (.lenS (.tmp 35)), none⟩, none⟩, ⟨⟨(some 37), (.bin .lss (.tmp 34) (.tmp 36)), none⟩, none⟩]) (.cond (.tmp 37) (.ops false [⟨⟨(some 38), (.mv (.tmp 3)), none⟩, none⟩, ⟨⟨(some 39), (.bsl 9 none 1 [(.c (.str []))]), none⟩, none⟩, ⟨⟨(some 40), (.app 9 none 1 16 (.tmp 38) (.tmp 39)), none⟩, none⟩, ⟨⟨(some 3), (.mv (.tmp 40)), none⟩, none⟩]) .skip))))) (.ops false [⟨⟨(some 10), (.mv (.tmp 4)), none⟩, none⟩, ⟨⟨(some 11), (.bin .add (.tmp 10) (.c (.int .i64 (1)))), none⟩, none⟩, ⟨⟨(some 4), (.mv (.tmp 11)), none⟩, none⟩])))
def xr_coupletref20_Lines : XR := (.seq (.ops false [⟨⟨(some 2), (.mv (.c (.sl true true 1 []))), none⟩, none⟩]) (.seq (.ops false [⟨⟨(some 5), (.bsl 9 none 1 [(.c (.str []))]), none⟩, none⟩, ⟨⟨(some 3), (.mv (.tmp 5)), none⟩, none⟩]) (.seq (.seq (.ops false [⟨⟨(some 4), (.mv (.c (.int .i64 (0)))), none⟩, none⟩]) (.block 0 (.loop 0 [0, 3, 4] xb_coupletref20_Lines_0))) (.seq (.ops false [⟨⟨(some 41), (.mv (.tmp 3)), none⟩, none⟩, ⟨⟨(some 2), (.mv (.tmp 41)), none⟩, none⟩]) .ret))))
def rs_coupletref20_Lines : List ResultVar := [(.tmp 2)]
theorem ir_coupletref20_Lines : compCode Tryd.prog (Tryd.f9.body.getD .skip) [[0, 3, 4]] = some (xr_coupletref20_Lines.erase, []) := by kernel_rfl
def gm_coupletref20_Lines : Gam := Gam.bot
theorem gk_coupletref20_Lines : GamOk Tryd.prog GG gm_coupletref20_Lines := GamOk.bot
def st_coupletref20_Lines_0 (l1 : List Int) (n2 : Int) (b3 : Bool) (b4 : Bool) (es5 : List PV) : Option (((List Int × Int × Bool × Bool × List PV)) ⊕ (((Bool × Bool × List PV)))) :=
  bif (decide (n2 < (((List.length l1) : Nat) : Int))) then
   bif (decide (0 ≤ n2)) then
    bif (decide (n2 < (((List.length l1) : Nat) : Int))) then
     bif ((List.getD l1 (Int.toNat n2) 0) != 10) then
      bif (decide (0 ≤ (IntKind.wrap .i64 ((((List.length es5) : Nat) : Int) - 1)))) then
       bif (decide ((IntKind.wrap .i64 ((((List.length es5) : Nat) : Int) - 1)) < (((List.length es5) : Nat) : Int))) then
        bif (decide ((Int.toNat (IntKind.wrap .i64 ((((List.length es5) : Nat) : Int) - 1))) < (List.length es5))) then
         bif (PV.scal (List.getD es5 (Int.toNat (IntKind.wrap .i64 ((((List.length es5) : Nat) : Int) - 1))) .nilSl)) then
          bif (Shp.ok .str (List.getD es5 (Int.toNat (IntKind.wrap .i64 ((((List.length es5) : Nat) : Int) - 1))) .nilSl)) then
           bif (decide (0 ≤ n2)) then
            bif (decide (n2 ≤ (IntKind.wrap .i64 (n2 + 1)))) then
             bif (decide ((IntKind.wrap .i64 (n2 + 1)) ≤ (((List.length l1) : Nat) : Int))) then
              bif (decide (((List.length (PV.chars (List.getD es5 (Int.toNat (IntKind.wrap .i64 ((((List.length es5) : Nat) : Int) - 1))) .nilSl))) + (List.length (List.take (Int.toNat ((IntKind.wrap .i64 (n2 + 1)) - n2)) (List.drop (Int.toNat n2) l1)))) ≤ 4611686018427387904)) then
               bif (decide (0 ≤ (IntKind.wrap .i64 ((((List.length es5) : Nat) : Int) - 1)))) then
                bif (decide ((IntKind.wrap .i64 ((((List.length es5) : Nat) : Int) - 1)) < (((List.length es5) : Nat) : Int))) then
                 bif (decide ((Int.toNat (IntKind.wrap .i64 ((((List.length es5) : Nat) : Int) - 1))) < (List.length es5))) then
                  some (Sum.inl (l1, (IntKind.wrap .i64 (n2 + 1)), b3, b4, (List.set es5 (Int.toNat (IntKind.wrap .i64 ((((List.length es5) : Nat) : Int) - 1))) (.str ((PV.chars (List.getD es5 (Int.toNat (IntKind.wrap .i64 ((((List.length es5) : Nat) : Int) - 1))) .nilSl)) ++ (List.take (Int.toNat ((IntKind.wrap .i64 (n2 + 1)) - n2)) (List.drop (Int.toNat n2) l1)))))))
                 else none
                else none
               else none
              else none
             else none
            else none
           else none
          else none
         else none
        else none
       else none
      else none
     else
      bif (decide ((IntKind.wrap .i64 (n2 + 1)) < (((List.length l1) : Nat) : Int))) then
       bif (decide ((((List.length es5) + 1) * 16) ≤ 140737488355328)) then
        bif (decide (((List.length es5) + 1) ≤ 4611686018427387904)) then
         some (Sum.inl (l1, (IntKind.wrap .i64 (n2 + 1)), (b3 && false), false, (es5 ++ [(.str [])])))
        else none
       else none
      else
       some (Sum.inl (l1, (IntKind.wrap .i64 (n2 + 1)), b3, b4, es5))
    else none
   else none
  else
   some (Sum.inr (b3, b4, es5))
def lp_coupletref20_Lines_0 (l1 : List Int) (n2 : Int) (b3 : Bool) (b4 : Bool) (es5 : List PV) : Option (((Bool × Bool × List PV))) := loopN (X := (List Int × Int × Bool × Bool × List PV)) (fun x => st_coupletref20_Lines_0 x.1 x.2.1 x.2.2.1 x.2.2.2.1 x.2.2.2.2) (l1, n2, b3, b4, es5)
def sh_coupletref20_Lines_0 : StSh := ⟨42, [(0, (.p .str)), (3, (.row 0)), (4, (.p (.int .i64)))], [(.row 9 1)]⟩
def sx_coupletref20_Lines_0 (x : (List Int × Int × Bool × Bool × List PV)) : St := ⟨slots 42 0 [(0, (.p (.str x.1))), (3, (.row 0)), (4, (.p (.int .i64 x.2.1)))], [(.row 9 1 x.2.2.1 x.2.2.2.1 x.2.2.2.2)]⟩
def sa_coupletref20_Lines_0 (S : St) : (List Int × Int × Bool × Bool × List PV) := (((tls 0 S.t).headD .any).pv.chars, ((tls 4 S.t).headD .any).pv.num, ((tls 0 S.own).headD .gone).pvD.nl, ((tls 0 S.own).headD .gone).pvD.ex, ((tls 0 S.own).headD .gone).pvD.elts)
def tz_coupletref20_Lines_0_0 : StSh := ⟨42, [(3, (.row 0))], [(.row 9 1)]⟩
def tx_coupletref20_Lines_0_0 (x : (Bool × Bool × List PV)) : St := ⟨slots 42 0 [(3, (.row 0))], [(.row 9 1 x.1 x.2.1 x.2.2)]⟩
def ta_coupletref20_Lines_0_0 (S : St) : (Bool × Bool × List PV) := (((tls 0 S.own).headD .gone).pvD.nl, ((tls 0 S.own).headD .gone).pvD.ex, ((tls 0 S.own).headD .gone).pvD.elts)
def kb_coupletref20_Lines_0 : Exit → St → Tree (((List Int × Int × Bool × Bool × List PV)) ⊕ (((Bool × Bool × List PV)))) := (exOne (.exit 0) [3] tz_coupletref20_Lines_0_0 ta_coupletref20_Lines_0_0 (fun y => Sum.inr (y)) exNil)
def ky_coupletref20_Lines_0 : Dec (((Bool × Bool × List PV))) := fun _ y ke => ke ((.exit 0) : EK).ex (tx_coupletref20_Lines_0_0 y)
theorem kk_coupletref20_Lines_0 : ExOk Sum.inr kb_coupletref20_Lines_0 ky_coupletref20_Lines_0 := (ExOk.one (acc := ta_coupletref20_Lines_0_0) (bY := tx_coupletref20_Lines_0_0) (inj1 := fun y => y) (fun S => by kernel_rfl) (fun y _ ke => .inr (by kernel_rfl)) ExOk.nil)
def lm_coupletref20_Lines : Lam := fun _ j S kn ke => match j with
  | 0 => prepT [0, 3, 4] [] S fun S => .chk (sh_coupletref20_Lines_0.ok S) (.bind (loopN (fun x => st_coupletref20_Lines_0 x.1 x.2.1 x.2.2.1 x.2.2.2.1 x.2.2.2.2) (sa_coupletref20_Lines_0 S)) fun y => ky_coupletref20_Lines_0 _ y ke)
  | _ => .fail
theorem sr_coupletref20_Lines_0 (x : (List Int × Int × Bool × Bool × List PV)) : (ev GG gm_coupletref20_Lines lm_coupletref20_Lines xb_coupletref20_Lines_0 (sx_coupletref20_Lines_0 x) (fun S => forgetT [0, 3, 4] S fun S => prepT [0, 3, 4] [] S fun S => .chk (sh_coupletref20_Lines_0.ok S) (.leaf (.inl (sa_coupletref20_Lines_0 S)))) kb_coupletref20_Lines_0).run = st_coupletref20_Lines_0 x.1 x.2.1 x.2.2.1 x.2.2.2.1 x.2.2.2.2 := by kernel_rfl
theorem la_coupletref20_Lines_0 : LamAt Tryd.prog GG lm_coupletref20_Lines 0 (.loop [0, 3, 4] xb_coupletref20_Lines_0.erase) := lam_loop (body := xb_coupletref20_Lines_0) (Λ' := lm_coupletref20_Lines) gk_coupletref20_Lines (⟨⟨trivial, ⟨trivial, trivial⟩⟩, ⟨⟨trivial, ⟨trivial, ⟨trivial, ⟨trivial, trivial⟩⟩⟩⟩, trivial⟩⟩) (fun S => (by kernel_rfl : sh_coupletref20_Lines_0.build S = sx_coupletref20_Lines_0 (sa_coupletref20_Lines_0 S))) kk_coupletref20_Lines_0 sr_coupletref20_Lines_0 (fun _ _ _ => rfl)
def go_coupletref20_Lines (l0 : List Int) : Option (Bool × Bool × List PV) :=
  (lp_coupletref20_Lines_0 l0 0 false true [(.str [])]).bind fun y6 =>
  some (y6.1, y6.2.1, y6.2.2)
def em_coupletref20_Lines (r : (Bool × Bool × List PV)) : PV := (.sl r.1 r.2.1 1 r.2.2)
def rh_coupletref20_Lines : Shp := (.sl 1)
def ra_coupletref20_Lines (v : PV) : (Bool × Bool × List PV) := (v.nl, v.ex, v.elts)
def kf_coupletref20_Lines (v : PV) : Tree (Bool × Bool × List PV) := .chk (rh_coupletref20_Lines.ok v) (.leaf (ra_coupletref20_Lines v))
theorem rn_coupletref20_Lines (l0 : List Int) : (ev GG gm_coupletref20_Lines lm_coupletref20_Lines xr_coupletref20_Lines ⟨slots 42 0 [(0, .p (.str l0))], []⟩ (fun S => finT Tryd.prog rs_coupletref20_Lines S kf_coupletref20_Lines) (retT Tryd.prog rs_coupletref20_Lines kf_coupletref20_Lines)).run = go_coupletref20_Lines l0 := by kernel_rfl
theorem ok_coupletref20_Lines (l0 : List Int) (r : (Bool × Bool × List PV)) (h : go_coupletref20_Lines l0 = some r) : FunEq Tryd.prog GG 9 [(.str l0)] (em_coupletref20_Lines r) :=
  fun_of_ev (x := xr_coupletref20_Lines) (Λ := lm_coupletref20_Lines) gk_coupletref20_Lines [[0, 3, 4]] Tryd.func9 rfl (by kernel_rfl) ir_coupletref20_Lines (by kernel_rfl) (congrArg Array.toList Tryd.results9) Tryd.ntmps9 (⟨trivial, ⟨trivial, ⟨⟨trivial, la_coupletref20_Lines_0⟩, ⟨trivial, trivial⟩⟩⟩⟩) (leaf_of fun v => (by kernel_rfl : rh_coupletref20_Lines.build v = em_coupletref20_Lines (ra_coupletref20_Lines v))) (by kernel_rfl) ((rn_coupletref20_Lines l0).trans h)
def as_coupletref20_Lines : List Shp := [.str]
def ga_coupletref20_Lines (vs : List PV) : Option (Bool × Bool × List PV) := go_coupletref20_Lines ((tls 0 vs).headD .nilSl).chars
theorem at_coupletref20_Lines : FnAt Tryd.prog GG 9 as_coupletref20_Lines ga_coupletref20_Lines em_coupletref20_Lines := fun vs h r hr => by
  have e : Shp.buildL as_coupletref20_Lines vs = [(.str ((tls 0 vs).headD .nilSl).chars)] := by kernel_rfl
  rw [← Shp.buildL_eq _ h, e]
  exact .inl ⟨by decide, ok_coupletref20_Lines _ r hr⟩
def xb_coupletref20_Words_0 : XR := (.seq (.seq (.ops false [⟨⟨(some 6), (.mv (.tmp 4)), none⟩, none⟩, ⟨⟨(some 7), (.mv (.tmp 0)), none⟩, none⟩, ⟨⟨(some 8), (.lenS (.tmp 7)), none⟩, none⟩, ⟨⟨(some 9), (.bin .lss (.tmp 6) (.tmp 8)), none⟩, none⟩]) (.cond (.tmp 9) .skip (.exit 0))) (.seq (.block 1 (.seq (.ops false [⟨⟨(some 12), (.mv (.tmp 0)), none⟩, none⟩, ⟨⟨(some 13), (.mv (.tmp 4)), none⟩, none⟩, ⟨⟨(some 14), (.ixS (.tmp 12) (.tmp 13)), none⟩, none⟩, ⟨⟨(some 15), (.bin .eql (.tmp 14) (.c (.int .u8 (32)))), none⟩, none⟩]) (.cond (.tmp 15) (.ops false [⟨⟨(some 16), (.mv (.tmp 3)), none⟩, none⟩, ⟨⟨(some 17), (.bsl 9 none 1 [(.c (.str []))]), none⟩, none⟩, ⟨⟨(some 18), (.app 9 none 1 16 (.tmp 16) (.tmp 17)), none⟩, none⟩, ⟨⟨(some 3), (.mv (.tmp 18)), none⟩, none⟩]) (.ops true [⟨⟨(some 19), (.mv (.tmp 3)), none⟩, none⟩, ⟨⟨(some 20), (.mv (.tmp 3)), none⟩, none⟩, ⟨⟨(some 21), (.len (.tmp 20)), none⟩, none⟩, ⟨⟨(some 22), (.bin .sub (.tmp 21) (.c (.int .i64 (1)))), none⟩, none⟩, ⟨⟨(some 23), (.mv (.tmp 3)), none⟩, none⟩, ⟨⟨(some 24), (.mv (.tmp 3)), none⟩, none⟩, ⟨⟨(some 25), (.len (.tmp 24)), none⟩, none⟩, ⟨⟨(some 26), (.bin .sub (.tmp 25) (.c (.int .i64 (1)))), none⟩, none⟩, ⟨⟨(some 27), (.ixA 1 (.tmp 23) (.tmp 26)), none⟩, none⟩, ⟨⟨(some 28), (.ld false 1 (.tmp 27)), none⟩, (some .str)⟩, ⟨⟨(some 29), (.mv (.tmp 0)), none⟩, none⟩, ⟨⟨(some 30), (.mv (.tmp 4)), none⟩, none⟩, ⟨⟨(some 31), (.mv (.tmp 4)), none⟩, none⟩, ⟨⟨(some 32), (.bin .add (.tmp 31) (.c (.int .i64 (1)))), none⟩, none⟩, ⟨⟨(some 33), (.slcS (.tmp 29) (some (.tmp 30)) (some (.tmp 32))), none⟩, none⟩, ⟨⟨(some 34), (.binS .add (.tmp 28) (.tmp 33)), none⟩, none⟩, ⟨⟨(some 35), (.ixA 1 (.tmp 19) (.tmp 22)), none⟩, none⟩, ⟨⟨none, (.st 1 (.tmp 35) (.tmp 34)), none⟩, none⟩])))) (.ops false [⟨⟨(some 10), (.mv (.tmp 4)), none⟩, none⟩, ⟨⟨(some 11), (.bin .add (.tmp 10) (.c (.int .i64 (1)))), none⟩, none⟩, ⟨⟨(some 4), (.mv (.tmp 11)), none⟩, none⟩])))
def xr_coupletref20_Words : XR := (.seq (.ops false [⟨⟨(some 2), (.mv (.c (.sl true true 1 []))), none⟩, none⟩]) (.seq (.ops false [⟨⟨(some 5), (.bsl 9 none 1 [(.c (.str []))]), none⟩, none⟩, ⟨⟨(some 3), (.mv (.tmp 5)), none⟩, none⟩]) (.seq (.seq (.ops false [⟨⟨(some 4), (.mv (.c (.int .i64 (0)))), none⟩, none⟩]) (.block 0 (.loop 0 [0, 3, 4] xb_coupletref20_Words_0))) (.seq (.ops false [⟨⟨(some 36), (.mv (.tmp 3)), none⟩, none⟩, ⟨⟨(some 2), (.mv (.tmp 36)), none⟩, none⟩]) .ret))))
def rs_coupletref20_Words : List ResultVar := [(.tmp 2)]
theorem ir_coupletref20_Words : compCode Tryd.prog (Tryd.f19.body.getD .skip) [[0, 3, 4]] = some (xr_coupletref20_Words.erase, []) := by kernel_rfl
def gm_coupletref20_Words : Gam := Gam.bot
theorem gk_coupletref20_Words : GamOk Tryd.prog GG gm_coupletref20_Words := GamOk.bot
def st_coupletref20_Words_0 (l1 : List Int) (n2 : Int) (b3 : Bool) (b4 : Bool) (es5 : List PV) : Option (((List Int × Int × Bool × Bool × List PV)) ⊕ (((Bool × Bool × List PV)))) :=
  bif (decide (n2 < (((List.length l1) : Nat) : Int))) then
   bif (decide (0 ≤ n2)) then
    bif (decide (n2 < (((List.length l1) : Nat) : Int))) then
     bif ((List.getD l1 (Int.toNat n2) 0) == 32) then
      bif (decide ((((List.length es5) + 1) * 16) ≤ 140737488355328)) then
       bif (decide (((List.length es5) + 1) ≤ 4611686018427387904)) then
        some (Sum.inl (l1, (IntKind.wrap .i64 (n2 + 1)), (b3 && false), false, (es5 ++ [(.str [])])))
       else none
      else none
     else
      bif (decide (0 ≤ (IntKind.wrap .i64 ((((List.length es5) : Nat) : Int) - 1)))) then
       bif (decide ((IntKind.wrap .i64 ((((List.length es5) : Nat) : Int) - 1)) < (((List.length es5) : Nat) : Int))) then
        bif (decide ((Int.toNat (IntKind.wrap .i64 ((((List.length es5) : Nat) : Int) - 1))) < (List.length es5))) then
         bif (PV.scal (List.getD es5 (Int.toNat (IntKind.wrap .i64 ((((List.length es5) : Nat) : Int) - 1))) .nilSl)) then
          bif (Shp.ok .str (List.getD es5 (Int.toNat (IntKind.wrap .i64 ((((List.length es5) : Nat) : Int) - 1))) .nilSl)) then
           bif (decide (0 ≤ n2)) then
            bif (decide (n2 ≤ (IntKind.wrap .i64 (n2 + 1)))) then
             bif (decide ((IntKind.wrap .i64 (n2 + 1)) ≤ (((List.length l1) : Nat) : Int))) then
              bif (decide (((List.length (PV.chars (List.getD es5 (Int.toNat (IntKind.wrap .i64 ((((List.length es5) : Nat) : Int) - 1))) .nilSl))) + (List.length (List.take (Int.toNat ((IntKind.wrap .i64 (n2 + 1)) - n2)) (List.drop (Int.toNat n2) l1)))) ≤ 4611686018427387904)) then
               bif (decide (0 ≤ (IntKind.wrap .i64 ((((List.length es5) : Nat) : Int) - 1)))) then
                bif (decide ((IntKind.wrap .i64 ((((List.length es5) : Nat) : Int) - 1)) < (((List.length es5) : Nat) : Int))) then
                 bif (decide ((Int.toNat (IntKind.wrap .i64 ((((List.length es5) : Nat) : Int) - 1))) < (List.length es5))) then
                  some (Sum.inl (l1, (IntKind.wrap .i64 (n2 + 1)), b3, b4, (List.set es5 (Int.toNat (IntKind.wrap .i64 ((((List.length es5) : Nat) : Int) - 1))) (.str ((PV.chars (List.getD es5 (Int.toNat (IntKind.wrap .i64 ((((List.length es5) : Nat) : Int) - 1))) .nilSl)) ++ (List.take (Int.toNat ((IntKind.wrap .i64 (n2 + 1)) - n2)) (List.drop (Int.toNat n2) l1)))))))
                 else none
                else none
               else none
              else none
             else none
            else none
           else none
          else none
         else none
        else none
       else none
      else none
    else none
   else none
  else
   some (Sum.inr (b3, b4, es5))
def lp_coupletref20_Words_0 (l1 : List Int) (n2 : Int) (b3 : Bool) (b4 : Bool) (es5 : List PV) : Option (((Bool × Bool × List PV))) := loopN (X := (List Int × Int × Bool × Bool × List PV)) (fun x => st_coupletref20_Words_0 x.1 x.2.1 x.2.2.1 x.2.2.2.1 x.2.2.2.2) (l1, n2, b3, b4, es5)
def sh_coupletref20_Words_0 : StSh := ⟨37, [(0, (.p .str)), (3, (.row 0)), (4, (.p (.int .i64)))], [(.row 9 1)]⟩
def sx_coupletref20_Words_0 (x : (List Int × Int × Bool × Bool × List PV)) : St := ⟨slots 37 0 [(0, (.p (.str x.1))), (3, (.row 0)), (4, (.p (.int .i64 x.2.1)))], [(.row 9 1 x.2.2.1 x.2.2.2.1 x.2.2.2.2)]⟩
def sa_coupletref20_Words_0 (S : St) : (List Int × Int × Bool × Bool × List PV) := (((tls 0 S.t).headD .any).pv.chars, ((tls 4 S.t).headD .any).pv.num, ((tls 0 S.own).headD .gone).pvD.nl, ((tls 0 S.own).headD .gone).pvD.ex, ((tls 0 S.own).headD .gone).pvD.elts)
def tz_coupletref20_Words_0_0 : StSh := ⟨37, [(3, (.row 0))], [(.row 9 1)]⟩
def tx_coupletref20_Words_0_0 (x : (Bool × Bool × List PV)) : St := ⟨slots 37 0 [(3, (.row 0))], [(.row 9 1 x.1 x.2.1 x.2.2)]⟩
def ta_coupletref20_Words_0_0 (S : St) : (Bool × Bool × List PV) := (((tls 0 S.own).headD .gone).pvD.nl, ((tls 0 S.own).headD .gone).pvD.ex, ((tls 0 S.own).headD .gone).pvD.elts)
def kb_coupletref20_Words_0 : Exit → St → Tree (((List Int × Int × Bool × Bool × List PV)) ⊕ (((Bool × Bool × List PV)))) := (exOne (.exit 0) [3] tz_coupletref20_Words_0_0 ta_coupletref20_Words_0_0 (fun y => Sum.inr (y)) exNil)
def ky_coupletref20_Words_0 : Dec (((Bool × Bool × List PV))) := fun _ y ke => ke ((.exit 0) : EK).ex (tx_coupletref20_Words_0_0 y)
theorem kk_coupletref20_Words_0 : ExOk Sum.inr kb_coupletref20_Words_0 ky_coupletref20_Words_0 := (ExOk.one (acc := ta_coupletref20_Words_0_0) (bY := tx_coupletref20_Words_0_0) (inj1 := fun y => y) (fun S => by kernel_rfl) (fun y _ ke => .inr (by kernel_rfl)) ExOk.nil)
def lm_coupletref20_Words : Lam := fun _ j S kn ke => match j with
  | 0 => prepT [0, 3, 4] [] S fun S => .chk (sh_coupletref20_Words_0.ok S) (.bind (loopN (fun x => st_coupletref20_Words_0 x.1 x.2.1 x.2.2.1 x.2.2.2.1 x.2.2.2.2) (sa_coupletref20_Words_0 S)) fun y => ky_coupletref20_Words_0 _ y ke)
  | _ => .fail
theorem sr_coupletref20_Words_0 (x : (List Int × Int × Bool × Bool × List PV)) : (ev GG gm_coupletref20_Words lm_coupletref20_Words xb_coupletref20_Words_0 (sx_coupletref20_Words_0 x) (fun S => forgetT [0, 3, 4] S fun S => prepT [0, 3, 4] [] S fun S => .chk (sh_coupletref20_Words_0.ok S) (.leaf (.inl (sa_coupletref20_Words_0 S)))) kb_coupletref20_Words_0).run = st_coupletref20_Words_0 x.1 x.2.1 x.2.2.1 x.2.2.2.1 x.2.2.2.2 := by kernel_rfl
theorem la_coupletref20_Words_0 : LamAt Tryd.prog GG lm_coupletref20_Words 0 (.loop [0, 3, 4] xb_coupletref20_Words_0.erase) := lam_loop (body := xb_coupletref20_Words_0) (Λ' := lm_coupletref20_Words) gk_coupletref20_Words (⟨⟨trivial, ⟨trivial, trivial⟩⟩, ⟨⟨trivial, ⟨trivial, trivial⟩⟩, trivial⟩⟩) (fun S => (by kernel_rfl : sh_coupletref20_Words_0.build S = sx_coupletref20_Words_0 (sa_coupletref20_Words_0 S))) kk_coupletref20_Words_0 sr_coupletref20_Words_0 (fun _ _ _ => rfl)
def go_coupletref20_Words (l0 : List Int) : Option (Bool × Bool × List PV) :=
  (lp_coupletref20_Words_0 l0 0 false true [(.str [])]).bind fun y6 =>
  some (y6.1, y6.2.1, y6.2.2)
def em_coupletref20_Words (r : (Bool × Bool × List PV)) : PV := (.sl r.1 r.2.1 1 r.2.2)
def rh_coupletref20_Words : Shp := (.sl 1)
def ra_coupletref20_Words (v : PV) : (Bool × Bool × List PV) := (v.nl, v.ex, v.elts)
def kf_coupletref20_Words (v : PV) : Tree (Bool × Bool × List PV) := .chk (rh_coupletref20_Words.ok v) (.leaf (ra_coupletref20_Words v))
theorem rn_coupletref20_Words (l0 : List Int) : (ev GG gm_coupletref20_Words lm_coupletref20_Words xr_coupletref20_Words ⟨slots 37 0 [(0, .p (.str l0))], []⟩ (fun S => finT Tryd.prog rs_coupletref20_Words S kf_coupletref20_Words) (retT Tryd.prog rs_coupletref20_Words kf_coupletref20_Words)).run = go_coupletref20_Words l0 := by kernel_rfl
theorem ok_coupletref20_Words (l0 : List Int) (r : (Bool × Bool × List PV)) (h : go_coupletref20_Words l0 = some r) : FunEq Tryd.prog GG 19 [(.str l0)] (em_coupletref20_Words r) :=
  fun_of_ev (x := xr_coupletref20_Words) (Λ := lm_coupletref20_Words) gk_coupletref20_Words [[0, 3, 4]] Tryd.func19 rfl (by kernel_rfl) ir_coupletref20_Words (by kernel_rfl) (congrArg Array.toList Tryd.results19) Tryd.ntmps19 (⟨trivial, ⟨trivial, ⟨⟨trivial, la_coupletref20_Words_0⟩, ⟨trivial, trivial⟩⟩⟩⟩) (leaf_of fun v => (by kernel_rfl : rh_coupletref20_Words.build v = em_coupletref20_Words (ra_coupletref20_Words v))) (by kernel_rfl) ((rn_coupletref20_Words l0).trans h)
def as_coupletref20_Words : List Shp := [.str]
def ga_coupletref20_Words (vs : List PV) : Option (Bool × Bool × List PV) := go_coupletref20_Words ((tls 0 vs).headD .nilSl).chars
theorem at_coupletref20_Words : FnAt Tryd.prog GG 19 as_coupletref20_Words ga_coupletref20_Words em_coupletref20_Words := fun vs h r hr => by
  have e : Shp.buildL as_coupletref20_Words vs = [(.str ((tls 0 vs).headD .nilSl).chars)] := by kernel_rfl
  rw [← Shp.buildL_eq _ h, e]
  exact .inl ⟨by decide, ok_coupletref20_Words _ r hr⟩
def xr_coupletref20_half : XR := (.seq (.ops false [⟨⟨(some 2), (.mv (.c (.int .i64 (0)))), none⟩, none⟩]) (.seq (.seq (.ops false [⟨⟨(some 3), (.mv (.tmp 0)), none⟩, none⟩, ⟨⟨(some 4), (.bin .geq (.tmp 3) (.c (.int .u8 (48)))), none⟩, none⟩, ⟨⟨(some 5), (.mv (.tmp 4)), none⟩, none⟩, ⟨⟨(some 6), (.mv (.tmp 0)), (some (5, true))⟩, none⟩, ⟨⟨(some 7), (.bin .leq (.tmp 6) (.c (.int .u8 (57)))), (some (5, true))⟩, none⟩, ⟨⟨(some 8), (.pick (.tmp 5) (.tmp 7) (.c (.bool false))), none⟩, none⟩]) (.cond (.tmp 8) (.seq (.ops false [⟨⟨(some 9), (.mv (.tmp 0)), none⟩, none⟩, ⟨⟨(some 10), (.bin .sub (.tmp 9) (.c (.int .u8 (48)))), none⟩, none⟩, ⟨⟨(some 11), (.cvtI .i64 (.tmp 10)), none⟩, none⟩, ⟨⟨(some 2), (.mv (.tmp 11)), none⟩, none⟩]) .ret) .skip)) (.seq (.seq (.ops false [⟨⟨(some 12), (.mv (.tmp 0)), none⟩, none⟩, ⟨⟨(some 13), (.bin .geq (.tmp 12) (.c (.int .u8 (97)))), none⟩, none⟩, ⟨⟨(some 14), (.mv (.tmp 13)), none⟩, none⟩, ⟨⟨(some 15), (.mv (.tmp 0)), (some (14, true))⟩, none⟩, ⟨⟨(some 16), (.bin .leq (.tmp 15) (.c (.int .u8 (102)))), (some (14, true))⟩, none⟩, ⟨⟨(some 17), (.pick (.tmp 14) (.tmp 16) (.c (.bool false))), none⟩, none⟩]) (.cond (.tmp 17) (.seq (.ops false [⟨⟨(some 18), (.mv (.tmp 0)), none⟩, none⟩, ⟨⟨(some 19), (.bin .sub (.tmp 18) (.c (.int .u8 (97)))), none⟩, none⟩, ⟨⟨(some 20), (.cvtI .i64 (.tmp 19)), none⟩, none⟩, ⟨⟨(some 21), (.bin .add (.tmp 20) (.c (.int .i64 (10)))), none⟩, none⟩, ⟨⟨(some 2), (.mv (.tmp 21)), none⟩, none⟩]) .ret) .skip)) (.seq (.ops false [⟨⟨(some 2), (.mv (.c (.int .i64 (-1)))), none⟩, none⟩]) .ret))))
def rs_coupletref20_half : List ResultVar := [(.tmp 2)]
theorem ir_coupletref20_half : compCode Tryd.prog (Tryd.f21.body.getD .skip) [] = some (xr_coupletref20_half.erase, []) := by kernel_rfl
def gm_coupletref20_half : Gam := Gam.bot
theorem gk_coupletref20_half : GamOk Tryd.prog GG gm_coupletref20_half := GamOk.bot
def lm_coupletref20_half : Lam := fun _ j S kn ke => match j with
  | _ => .fail
def go_coupletref20_half (n0 : Int) : Option Int :=
  bif (decide (n0 ≥ 48)) then
   bif (decide (n0 ≤ 57)) then
    some (IntKind.wrap .i64 (IntKind.wrap .u8 (n0 - 48)))
   else
    bif (decide (n0 ≥ 97)) then
     bif (decide (n0 ≤ 102)) then
      some (IntKind.wrap .i64 ((IntKind.wrap .i64 (IntKind.wrap .u8 (n0 - 97))) + 10))
     else
      some (-1)
    else
     some (-1)
  else
   bif (decide (n0 ≥ 97)) then
    bif (decide (n0 ≤ 102)) then
     some (IntKind.wrap .i64 ((IntKind.wrap .i64 (IntKind.wrap .u8 (n0 - 97))) + 10))
    else
     some (-1)
   else
    some (-1)
def em_coupletref20_half (r : Int) : PV := (.int .i64 r)
def rh_coupletref20_half : Shp := (.int .i64)
def ra_coupletref20_half (v : PV) : Int := v.num
def kf_coupletref20_half (v : PV) : Tree Int := .chk (rh_coupletref20_half.ok v) (.leaf (ra_coupletref20_half v))
theorem rn_coupletref20_half (n0 : Int) : (ev GG gm_coupletref20_half lm_coupletref20_half xr_coupletref20_half ⟨slots 22 0 [(0, .p (.int .u8 n0))], []⟩ (fun S => finT Tryd.prog rs_coupletref20_half S kf_coupletref20_half) (retT Tryd.prog rs_coupletref20_half kf_coupletref20_half)).run = go_coupletref20_half n0 := by kernel_rfl
theorem ok_coupletref20_half (n0 : Int) (r : Int) (h : go_coupletref20_half n0 = some r) : FunEq Tryd.prog GG 21 [(.int .u8 n0)] (em_coupletref20_half r) :=
  fun_of_ev (x := xr_coupletref20_half) (Λ := lm_coupletref20_half) gk_coupletref20_half [] Tryd.func21 rfl (by kernel_rfl) ir_coupletref20_half (by kernel_rfl) (congrArg Array.toList Tryd.results21) Tryd.ntmps21 (⟨trivial, ⟨⟨trivial, ⟨⟨trivial, trivial⟩, trivial⟩⟩, ⟨⟨trivial, ⟨⟨trivial, trivial⟩, trivial⟩⟩, ⟨trivial, trivial⟩⟩⟩⟩) (leaf_of fun v => (by kernel_rfl : rh_coupletref20_half.build v = em_coupletref20_half (ra_coupletref20_half v))) (by kernel_rfl) ((rn_coupletref20_half n0).trans h)
def as_coupletref20_half : List Shp := [(.int .u8)]
def ga_coupletref20_half (vs : List PV) : Option Int := go_coupletref20_half ((tls 0 vs).headD .nilSl).num
theorem at_coupletref20_half : FnAt Tryd.prog GG 21 as_coupletref20_half ga_coupletref20_half em_coupletref20_half := fun vs h r hr => by
  have e : Shp.buildL as_coupletref20_half vs = [(.int .u8 ((tls 0 vs).headD .nilSl).num)] := by kernel_rfl
  rw [← Shp.buildL_eq _ h, e]
  exact .inl ⟨by decide, ok_coupletref20_half _ r hr⟩
def xb_coupletref20_Line_0 : XR := (.seq (.seq (.ops false [⟨⟨(some 97), (.mv (.tmp 12)), none⟩, none⟩, ⟨⟨(some 98), (.mv (.tmp 4)), none⟩, none⟩, ⟨⟨(some 99), (.ixA 1 (.tmp 98) (.c (.int .i64 (1)))), none⟩, none⟩, ⟨⟨(some 100), (.ld false 1 (.tmp 99)), none⟩, (some .str)⟩, ⟨⟨(some 101), (.lenS (.tmp 100)), none⟩, none⟩, ⟨⟨(some 102), (.bin .lss (.tmp 97) (.tmp 101)), none⟩, none⟩]) (.cond (.tmp 102) .skip (.exit 0))) (.seq (.block 1 (.seq (.ops false [⟨⟨(some 105), (.mv (.tmp 4)), none⟩, none⟩, ⟨⟨(some 106), (.ixA 1 (.tmp 105) (.c (.int .i64 (1)))), none⟩, none⟩, ⟨⟨(some 107), (.ld false 1 (.tmp 106)), none⟩, (some .str)⟩, ⟨⟨(some 108), (.mv (.tmp 12)), none⟩, none⟩, ⟨⟨(some 109), (.ixS (.tmp 107) (.tmp 108)), none⟩, none⟩, ⟨⟨(some 110), (.call (.func 21) [(.tmp 109)]), none⟩, none⟩, ⟨⟨(some 13), (.mv (.tmp 110)), none⟩, none⟩]) (.seq (.ops false [⟨⟨(some 111), (.mv (.tmp 4)), none⟩, none⟩, ⟨⟨(some 112), (.ixA 1 (.tmp 111) (.c (.int .i64 (1)))), none⟩, none⟩, ⟨⟨(some 113), (.ld false 1 (.tmp 112)), none⟩, (some .str)⟩, ⟨⟨(some 114), (.mv (.tmp 12)), none⟩, none⟩, ⟨⟨(some 115), (.bin .add (.tmp 114) (.c (.int .i64 (1)))), none⟩, none⟩, ⟨⟨(some 116), (.ixS (.tmp 113) (.tmp 115)), none⟩, none⟩, ⟨⟨(some 117), (.call (.func 21) [(.tmp 116)]), none⟩, none⟩, ⟨⟨(some 14), (.mv (.tmp 117)), none⟩, none⟩]) (.seq (.seq (.ops false [⟨⟨(some 118), (.mv (.tmp 13)), none⟩, none⟩, ⟨⟨(some 119), (.bin .lss (.tmp 118) (.c (.int .i64 (0)))), none⟩, none⟩, ⟨⟨(some 120), (.mv (.tmp 119)), none⟩, none⟩, ⟨⟨(some 121), (.mv (.tmp 14)), (some (120, false))⟩, none⟩, ⟨⟨(some 122), (.bin .lss (.tmp 121) (.c (.int .i64 (0)))), (some (120, false))⟩, none⟩, ⟨⟨(some 123), (.pick (.tmp 120) (.c (.bool true)) (.tmp 122)), none⟩, none⟩]) (.cond (.tmp 123) (.seq (.ops false [⟨⟨(some 124), (.build [(.str []), (.isl true true .u8 []), (.int .i64 (0)), (.int .i64 (0)), (.int .i64 (0))] []), none⟩, none⟩, ⟨⟨none, (.st 5 (.tmp 2) (.tmp 124)), none⟩, none⟩, ⟨⟨(some 3), (.mv (.c (.bool false))), none⟩, none⟩]) .ret) .skip)) (.ops false [⟨⟨(some 125), (.mv (.tmp 11)), none⟩, none⟩, ⟨⟨(some 126), (.mv (.tmp 13)), none⟩, none⟩, ⟨⟨(some 127), (.bin .mul (.tmp 126) (.c (.int .i64 (16)))), none⟩, none⟩, ⟨⟨(some 128), (.mv (.tmp 14)), none⟩, none⟩, ⟨⟨(some 129), (.bin .add (.tmp 127) (.tmp 128)), none⟩, none⟩, ⟨⟨(some 130), (.cvtI .u8 (.tmp 129)), none⟩, none⟩, ⟨⟨(some 131), (.bsl 5 (some .u8) 1 [(.tmp 130)]), none⟩, none⟩, ⟨⟨(some 132), (.app 5 (some .u8) 1 1 (.tmp 125) (.tmp 131)), none⟩, none⟩, ⟨⟨(some 11), (.mv (.tmp 132)), none⟩, none⟩]))))) (.ops false [⟨⟨(some 103), (.mv (.tmp 12)), none⟩, none⟩, ⟨⟨(some 104), (.bin .add (.tmp 103) (.c (.int .i64 (2)))), none⟩, none⟩, ⟨⟨(some 12), (.mv (.tmp 104)), none⟩, none⟩])))
def xr_coupletref20_Line : XR := (.seq (.ops false [⟨⟨(some 2), (.alloc 31 [(.str []), (.isl true true .u8 []), (.int .i64 (0)), (.int .i64 (0)), (.int .i64 (0))]), none⟩, none⟩, ⟨⟨(some 3), (.mv (.c (.bool false))), none⟩, none⟩]) (.seq (.ops false [⟨⟨(some 15), (.mv (.tmp 0)), none⟩, none⟩, ⟨⟨(some 16), (.call (.func 19) [(.tmp 15)]), none⟩, none⟩, ⟨⟨(some 4), (.mv (.tmp 16)), none⟩, none⟩]) (.seq (.seq (.ops false [⟨⟨(some 17), (.mv (.tmp 4)), none⟩, none⟩, ⟨⟨(some 18), (.ixA 1 (.tmp 17) (.c (.int .i64 (0)))), none⟩, none⟩, ⟨⟨(some 19), (.ld false 1 (.tmp 18)), none⟩, (some .str)⟩, ⟨⟨(some 20), (.binS .eql (.tmp 19) (.c (.str [(114), (101), (115), (101), (116)]))), none⟩, none⟩]) (.cond (.tmp 20) (.seq (.ops false [⟨⟨(some 21), (.build [(.str []), (.isl true true .u8 []), (.int .i64 (0)), (.int .i64 (0)), (.int .i64 (0))] [(0, (1, (.c (.str [(114), (101), (115), (101), (116)]))))]), none⟩, none⟩, ⟨⟨(some 22), (.mv (.tmp 4)), none⟩, none⟩, ⟨⟨(some 23), (.len (.tmp 22)), none⟩, none⟩, ⟨⟨(some 24), (.bin .eql (.tmp 23) (.c (.int .i64 (1)))), none⟩, none⟩, ⟨⟨none, (.st 5 (.tmp 2) (.tmp 21)), none⟩, none⟩, ⟨⟨(some 3), (.mv (.tmp 24)), none⟩, none⟩]) .ret) .skip)) (.seq (.seq (.ops false [⟨⟨(some 25), (.mv (.tmp 4)), none⟩, none⟩, ⟨⟨(some 26), (.ixA 1 (.tmp 25) (.c (.int .i64 (0)))), none⟩, none⟩, ⟨⟨(some 27), (.ld false 1 (.tmp 26)), none⟩, (some .str)⟩, ⟨⟨(some 28), (.binS .eql (.tmp 27) (.c (.str [(102), (97), (117), (108), (116)]))), none⟩, none⟩, ⟨⟨(some 29), (.mv (.tmp 28)), none⟩, none⟩, ⟨⟨(some 30), (.mv (.tmp 4)), (some (29, true))⟩, none⟩, ⟨⟨(some 31), (.len (.tmp 30)), (some (29, true))⟩, none⟩, ⟨⟨(some 32), (.bin .eql (.tmp 31) (.c (.int .i64 (4)))), (some (29, true))⟩, none⟩, ⟨⟨(some 33), (.pick (.tmp 29) (.tmp 32) (.c (.bool false))), none⟩, none⟩]) (.cond (.tmp 33) (.seq (.ops false [⟨⟨(some 35), (.mv (.tmp 4)), none⟩, none⟩, ⟨⟨(some 36), (.ixA 1 (.tmp 35) (.c (.int .i64 (1)))), none⟩, none⟩, ⟨⟨(some 37), (.ld false 1 (.tmp 36)), none⟩, (some .str)⟩, ⟨⟨(some 38), (.call (.func 20) [(.tmp 37)]), none⟩, none⟩, ⟨⟨(some 34), (.mv (.tmp 38)), none⟩, none⟩, ⟨⟨(some 39), (.ext (.tmp 34) 0), none⟩, none⟩, ⟨⟨(some 40), (.ext (.tmp 34) 1), none⟩, none⟩, ⟨⟨(some 5), (.mv (.tmp 39)), none⟩, none⟩, ⟨⟨(some 6), (.mv (.tmp 40)), none⟩, none⟩]) (.seq (.ops false [⟨⟨(some 42), (.mv (.tmp 4)), none⟩, none⟩, ⟨⟨(some 43), (.ixA 1 (.tmp 42) (.c (.int .i64 (2)))), none⟩, none⟩, ⟨⟨(some 44), (.ld false 1 (.tmp 43)), none⟩, (some .str)⟩, ⟨⟨(some 45), (.call (.func 20) [(.tmp 44)]), none⟩, none⟩, ⟨⟨(some 41), (.mv (.tmp 45)), none⟩, none⟩, ⟨⟨(some 46), (.ext (.tmp 41) 0), none⟩, none⟩, ⟨⟨(some 47), (.ext (.tmp 41) 1), none⟩, none⟩, ⟨⟨(some 7), (.mv (.tmp 46)), none⟩, none⟩, ⟨⟨(some 8), (.mv (.tmp 47)), none⟩, none⟩]) (.seq (.ops false [⟨⟨(some 49), (.mv (.tmp 4)), none⟩, none⟩, ⟨⟨(some 50), (.ixA 1 (.tmp 49) (.c (.int .i64 (3)))), none⟩, none⟩, ⟨⟨(some 51), (.ld false 1 (.tmp 50)), none⟩, (some .str)⟩, ⟨⟨(some 52), (.call (.func 20) [(.tmp 51)]), none⟩, none⟩, ⟨⟨(some 48), (.mv (.tmp 52)), none⟩, none⟩, ⟨⟨(some 53), (.ext (.tmp 48) 0), none⟩, none⟩, ⟨⟨(some 54), (.ext (.tmp 48) 1), none⟩, none⟩, ⟨⟨(some 9), (.mv (.tmp 53)), none⟩, none⟩, ⟨⟨(some 10), (.mv (.tmp 54)), none⟩, none⟩]) (.seq (.ops false [⟨⟨(some 55), (.mv (.tmp 5)), none⟩, none⟩, ⟨⟨(some 56), (.mv (.tmp 7)), none⟩, none⟩, ⟨⟨(some 57), (.mv (.tmp 9)), none⟩, none⟩, ⟨⟨(some 58), (.build [(.str []), (.isl true true .u8 []), (.int .i64 (0)), (.int .i64 (0)), (.int .i64 (0))] [(0, (1, (.c (.str [(102), (97), (117), (108), (116)])))), (2, (1, (.tmp 55))), (3, (1, (.tmp 56))), (4, (1, (.tmp 57)))]), none⟩, none⟩, ⟨⟨(some 59), (.mv (.tmp 6)), none⟩, none⟩, ⟨⟨(some 60), (.mv (.tmp 59)), none⟩, none⟩, ⟨⟨(some 61), (.mv (.tmp 8)), (some (60, true))⟩, none⟩, ⟨⟨(some 62), (.pick (.tmp 60) (.tmp 61) (.c (.bool false))), none⟩, none⟩, ⟨⟨(some 63), (.mv (.tmp 62)), none⟩, none⟩, ⟨⟨(some 64), (.mv (.tmp 10)), (some (63, true))⟩, none⟩, ⟨⟨(some 65), (.pick (.tmp 63) (.tmp 64) (.c (.bool false))), none⟩, none⟩, ⟨⟨none, (.st 5 (.tmp 2) (.tmp 58)), none⟩, none⟩, ⟨⟨(some 3), (.mv (.tmp 65)), none⟩, none⟩]) .ret)))) .skip)) (.seq (.seq (.ops false [⟨⟨(some 66), (.mv (.tmp 4)), none⟩, none⟩, ⟨⟨(some 67), (.ixA 1 (.tmp 66) (.c (.int .i64 (0)))), none⟩, none⟩, ⟨⟨(some 68), (.ld false 1 (.tmp 67)), none⟩, (some .str)⟩, ⟨⟨(some 69), (.binS .neq (.tmp 68) (.c (.str [(102), (101), (101), (100)]))), none⟩, none⟩, ⟨⟨(some 70), (.mv (.tmp 69)), none⟩, none⟩, ⟨⟨(some 71), (.mv (.tmp 4)), (some (70, false))⟩, none⟩, ⟨⟨(some 72), (.len (.tmp 71)), (some (70, false))⟩, none⟩, ⟨⟨(some 73), (.bin .neq (.tmp 72) (.c (.int .i64 (2)))), (some (70, false))⟩, none⟩, ⟨⟨(some 74), (.pick (.tmp 70) (.c (.bool true)) (.tmp 73)), none⟩, none⟩, ⟨⟨(some 75), (.mv (.tmp 74)), none⟩, none⟩, ⟨⟨(some 76), (.mv (.tmp 4)), (some (75, false))⟩, none⟩, ⟨⟨(some 77), (.ixA 1 (.tmp 76) (.c (.int .i64 (1)))), (some (75, false))⟩, none⟩, ⟨⟨(some 78), (.ld false 1 (.tmp 77)), (some (75, false))⟩, (some .str)⟩, ⟨⟨(some 79), (.binS .eql (.tmp 78) (.c (.str []))), (some (75, false))⟩, none⟩, ⟨⟨(some 80), (.pick (.tmp 75) (.c (.bool true)) (.tmp 79)), none⟩, none⟩, ⟨⟨(some 81), (.mv (.tmp 80)), none⟩, none⟩, ⟨⟨(some 82), (.mv (.tmp 4)), (some (81, false))⟩, none⟩, ⟨⟨(some 83), (.ixA 1 (.tmp 82) (.c (.int .i64 (1)))), (some (81, false))⟩, none⟩, ⟨⟨(some 84), (.ld false 1 (.tmp 83)), (some (81, false))⟩, (some .str)⟩, ⟨⟨(some 85), (.lenS (.tmp 84)), (some (81, false))⟩, none⟩, ⟨⟨(some 86), (.bin .gtr (.tmp 85) (.c (.int .i64 (1200)))), (some (81, false))⟩, none⟩, ⟨⟨(some 87), (.pick (.tmp 81) (.c (.bool true)) (.tmp 86)), none⟩, none⟩, ⟨⟨(some 88), (.mv (.tmp 87)), none⟩, none⟩, ⟨⟨(some 89), (.mv (.tmp 4)), (some (88, false))⟩, none⟩, ⟨⟨(some 90), (.ixA 1 (.tmp 89) (.c (.int .i64 (1)))), (some (88, false))⟩, none⟩, ⟨⟨(some 91), (.ld false 1 (.tmp 90)), (some (88, false))⟩, (some .str)⟩, ⟨⟨(some 92), (.lenS (.tmp 91)), (some (88, false))⟩, none⟩, ⟨⟨(some 93), (.bin .rem (.tmp 92) (.c (.int .i64 (2)))), (some (88, false))⟩, none⟩, ⟨⟨(some 94), (.bin .eql (.tmp 93) (.c (.int .i64 (1)))), (some (88, false))⟩, none⟩, ⟨⟨(some 95), (.pick (.tmp 88) (.c (.bool true)) (.tmp 94)), none⟩, none⟩]) (.cond (.tmp 95) (.seq (.ops false [⟨⟨(some 96), (.build [(.str []), (.isl true true .u8 []), (.int .i64 (0)), (.int .i64 (0)), (.int .i64 (0))] []), none⟩, none⟩, ⟨⟨none, (.st 5 (.tmp 2) (.tmp 96)), none⟩, none⟩, ⟨⟨(some 3), (.mv (.c (.bool false))), none⟩, none⟩]) .ret) .skip)) (.seq (.ops false [⟨⟨(some 11), (.mv (.c (.isl true true .u8 []))), none⟩, none⟩]) (.seq (.seq (.ops false [⟨⟨(some 12), (.mv (.c (.int .i64 (0)))), none⟩, none⟩]) (.block 0 (.loop 0 [2, 4, 11, 12] xb_coupletref20_Line_0))) (.seq (.ops false [⟨⟨(some 133), (.mv (.tmp 11)), none⟩, none⟩, ⟨⟨(some 134), (.build [(.str []), (.isl true true .u8 []), (.int .i64 (0)), (.int .i64 (0)), (.int .i64 (0))] [(0, (1, (.c (.str [(102), (101), (101), (100)])))), (1, (1, (.tmp 133)))]), none⟩, none⟩, ⟨⟨none, (.st 5 (.tmp 2) (.tmp 134)), none⟩, none⟩, ⟨⟨(some 3), (.mv (.c (.bool true))), none⟩, none⟩]) .ret))))))))
def rs_coupletref20_Line : List ResultVar := [(.cell 2 31), (.tmp 3)]
theorem ir_coupletref20_Line : compCode Tryd.prog (Tryd.f10.body.getD .skip) [[2, 4, 11, 12]] = some (xr_coupletref20_Line.erase, []) := by kernel_rfl
def gm_coupletref20_Line : Gam := (Gam.fn 19 as_coupletref20_Words ga_coupletref20_Words em_coupletref20_Words (Gam.fn 20 as_coupletref20_Number ga_coupletref20_Number em_coupletref20_Number (Gam.fn 21 as_coupletref20_half ga_coupletref20_half em_coupletref20_half Gam.bot)))
theorem gk_coupletref20_Line : GamOk Tryd.prog GG gm_coupletref20_Line := (GamOk.fn at_coupletref20_Words (GamOk.fn at_coupletref20_Number (GamOk.fn at_coupletref20_half GamOk.bot)))
def st_coupletref20_Line_0 (b5 : Bool) (b6 : Bool) (es7 : List PV) (n8 : Int) (l9 : List Int) (b10 : Bool) (b11 : Bool) (l12 : List Int) (n13 : Int) (n14 : Int) (n15 : Int) (b16 : Bool) (b17 : Bool) (l18 : List Int) : Option (((Bool × Bool × List PV × Int × List Int × Bool × Bool × List Int × Int × Int × Int × Bool × Bool × List Int)) ⊕ (((List Int × Bool × Bool × List Int × Int × Int × Int × Bool × Bool × List Int)) ⊕ ((Bool × List Int × Bool × Bool × List Int × Int × Int × Int)))) :=
  bif (decide (1 < (((List.length es7) : Nat) : Int))) then
   bif (decide (1 < (List.length es7))) then
    bif (PV.scal (List.getD es7 1 .nilSl)) then
     bif (Shp.ok .str (List.getD es7 1 .nilSl)) then
      bif (decide (n8 < (((List.length (PV.chars (List.getD es7 1 .nilSl))) : Nat) : Int))) then
       bif (decide (1 < (((List.length es7) : Nat) : Int))) then
        bif (decide (1 < (List.length es7))) then
         bif (PV.scal (List.getD es7 1 .nilSl)) then
          bif (Shp.ok .str (List.getD es7 1 .nilSl)) then
           bif (decide (0 ≤ n8)) then
            bif (decide (n8 < (((List.length (PV.chars (List.getD es7 1 .nilSl))) : Nat) : Int))) then
             (go_coupletref20_half (List.getD (PV.chars (List.getD es7 1 .nilSl)) (Int.toNat n8) 0)).bind fun r19 =>
             bif (decide (1 < (((List.length es7) : Nat) : Int))) then
              bif (decide (1 < (List.length es7))) then
               bif (PV.scal (List.getD es7 1 .nilSl)) then
                bif (Shp.ok .str (List.getD es7 1 .nilSl)) then
                 bif (decide (0 ≤ (IntKind.wrap .i64 (n8 + 1)))) then
                  bif (decide ((IntKind.wrap .i64 (n8 + 1)) < (((List.length (PV.chars (List.getD es7 1 .nilSl))) : Nat) : Int))) then
                   (go_coupletref20_half (List.getD (PV.chars (List.getD es7 1 .nilSl)) (Int.toNat (IntKind.wrap .i64 (n8 + 1))) 0)).bind fun r20 =>
                   bif (decide (r19 < 0)) then
                    some (Sum.inr (Sum.inr (false, [], true, true, [], 0, 0, 0)))
                   else
                    bif (decide (r20 < 0)) then
                     some (Sum.inr (Sum.inr (false, [], true, true, [], 0, 0, 0)))
                    else
                     bif (decide ((((List.length l18) + 1) * 1) ≤ 140737488355328)) then
                      bif (decide (((List.length l18) + 1) ≤ 4611686018427387904)) then
                       some (Sum.inl (b5, b6, es7, (IntKind.wrap .i64 (n8 + 2)), l9, b10, b11, l12, n13, n14, n15, (b16 && false), false, (l18 ++ [(IntKind.wrap .u8 (IntKind.wrap .i64 ((IntKind.wrap .i64 (r19 * 16)) + r20)))])))
                      else none
                     else none
                  else none
                 else none
                else none
               else none
              else none
             else none
            else none
           else none
          else none
         else none
        else none
       else none
      else
       some (Sum.inr (Sum.inl (l9, b10, b11, l12, n13, n14, n15, b16, b17, l18)))
     else none
    else none
   else none
  else none
def lp_coupletref20_Line_0 (b5 : Bool) (b6 : Bool) (es7 : List PV) (n8 : Int) (l9 : List Int) (b10 : Bool) (b11 : Bool) (l12 : List Int) (n13 : Int) (n14 : Int) (n15 : Int) (b16 : Bool) (b17 : Bool) (l18 : List Int) : Option (((List Int × Bool × Bool × List Int × Int × Int × Int × Bool × Bool × List Int)) ⊕ ((Bool × List Int × Bool × Bool × List Int × Int × Int × Int))) := loopN (X := (Bool × Bool × List PV × Int × List Int × Bool × Bool × List Int × Int × Int × Int × Bool × Bool × List Int)) (fun x => st_coupletref20_Line_0 x.1 x.2.1 x.2.2.1 x.2.2.2.1 x.2.2.2.2.1 x.2.2.2.2.2.1 x.2.2.2.2.2.2.1 x.2.2.2.2.2.2.2.1 x.2.2.2.2.2.2.2.2.1 x.2.2.2.2.2.2.2.2.2.1 x.2.2.2.2.2.2.2.2.2.2.1 x.2.2.2.2.2.2.2.2.2.2.2.1 x.2.2.2.2.2.2.2.2.2.2.2.2.1 x.2.2.2.2.2.2.2.2.2.2.2.2.2) (b5, b6, es7, n8, l9, b10, b11, l12, n13, n14, n15, b16, b17, l18)
def sh_coupletref20_Line_0 : StSh := ⟨135, [(2, (.ptr 0 0)), (4, (.p (.sl 1))), (11, (.row 1)), (12, (.p (.int .i64)))], [(.box 31 [(.p .str), (.p (.isl .u8)), (.p (.int .i64)), (.p (.int .i64)), (.p (.int .i64))]), (.irow 5 .u8)]⟩
def sx_coupletref20_Line_0 (x : (Bool × Bool × List PV × Int × List Int × Bool × Bool × List Int × Int × Int × Int × Bool × Bool × List Int)) : St := ⟨slots 135 0 [(2, (.ptr 0 0)), (4, (.p (.sl x.1 x.2.1 1 x.2.2.1))), (11, (.row 1)), (12, (.p (.int .i64 x.2.2.2.1)))], [(.box 31 [(.p (.str x.2.2.2.2.1)), (.p (.isl x.2.2.2.2.2.1 x.2.2.2.2.2.2.1 .u8 x.2.2.2.2.2.2.2.1)), (.p (.int .i64 x.2.2.2.2.2.2.2.2.1)), (.p (.int .i64 x.2.2.2.2.2.2.2.2.2.1)), (.p (.int .i64 x.2.2.2.2.2.2.2.2.2.2.1))]), (.irow 5 .u8 x.2.2.2.2.2.2.2.2.2.2.2.1 x.2.2.2.2.2.2.2.2.2.2.2.2.1 x.2.2.2.2.2.2.2.2.2.2.2.2.2)]⟩
def sa_coupletref20_Line_0 (S : St) : (Bool × Bool × List PV × Int × List Int × Bool × Bool × List Int × Int × Int × Int × Bool × Bool × List Int) := (((tls 4 S.t).headD .any).pv.nl, ((tls 4 S.t).headD .any).pv.ex, ((tls 4 S.t).headD .any).pv.elts, ((tls 12 S.t).headD .any).pv.num, (((tls 0 S.own).headD .gone).subs.headD .any).pv.chars, (((tls 0 S.own).headD .gone).subs.tail.headD .any).pv.nl, (((tls 0 S.own).headD .gone).subs.tail.headD .any).pv.ex, (((tls 0 S.own).headD .gone).subs.tail.headD .any).pv.ints, (((tls 0 S.own).headD .gone).subs.tail.tail.headD .any).pv.num, (((tls 0 S.own).headD .gone).subs.tail.tail.tail.headD .any).pv.num, (((tls 0 S.own).headD .gone).subs.tail.tail.tail.tail.headD .any).pv.num, ((tls 1 S.own).headD .gone).pvD.nl, ((tls 1 S.own).headD .gone).pvD.ex, ((tls 1 S.own).headD .gone).pvD.ints)
def tz_coupletref20_Line_0_1 : StSh := ⟨135, [(2, (.ptr 0 0)), (3, (.p .bool))], [(.box 31 [(.p .str), (.p (.isl .u8)), (.p (.int .i64)), (.p (.int .i64)), (.p (.int .i64))])]⟩
def tx_coupletref20_Line_0_1 (x : (Bool × List Int × Bool × Bool × List Int × Int × Int × Int)) : St := ⟨slots 135 0 [(2, (.ptr 0 0)), (3, (.p (.bool x.1)))], [(.box 31 [(.p (.str x.2.1)), (.p (.isl x.2.2.1 x.2.2.2.1 .u8 x.2.2.2.2.1)), (.p (.int .i64 x.2.2.2.2.2.1)), (.p (.int .i64 x.2.2.2.2.2.2.1)), (.p (.int .i64 x.2.2.2.2.2.2.2))])]⟩
def ta_coupletref20_Line_0_1 (S : St) : (Bool × List Int × Bool × Bool × List Int × Int × Int × Int) := (((tls 3 S.t).headD .any).pv.tru, (((tls 0 S.own).headD .gone).subs.headD .any).pv.chars, (((tls 0 S.own).headD .gone).subs.tail.headD .any).pv.nl, (((tls 0 S.own).headD .gone).subs.tail.headD .any).pv.ex, (((tls 0 S.own).headD .gone).subs.tail.headD .any).pv.ints, (((tls 0 S.own).headD .gone).subs.tail.tail.headD .any).pv.num, (((tls 0 S.own).headD .gone).subs.tail.tail.tail.headD .any).pv.num, (((tls 0 S.own).headD .gone).subs.tail.tail.tail.tail.headD .any).pv.num)
def tz_coupletref20_Line_0_0 : StSh := ⟨135, [(2, (.ptr 0 0)), (11, (.row 1))], [(.box 31 [(.p .str), (.p (.isl .u8)), (.p (.int .i64)), (.p (.int .i64)), (.p (.int .i64))]), (.irow 5 .u8)]⟩
def tx_coupletref20_Line_0_0 (x : (List Int × Bool × Bool × List Int × Int × Int × Int × Bool × Bool × List Int)) : St := ⟨slots 135 0 [(2, (.ptr 0 0)), (11, (.row 1))], [(.box 31 [(.p (.str x.1)), (.p (.isl x.2.1 x.2.2.1 .u8 x.2.2.2.1)), (.p (.int .i64 x.2.2.2.2.1)), (.p (.int .i64 x.2.2.2.2.2.1)), (.p (.int .i64 x.2.2.2.2.2.2.1))]), (.irow 5 .u8 x.2.2.2.2.2.2.2.1 x.2.2.2.2.2.2.2.2.1 x.2.2.2.2.2.2.2.2.2)]⟩
def ta_coupletref20_Line_0_0 (S : St) : (List Int × Bool × Bool × List Int × Int × Int × Int × Bool × Bool × List Int) := ((((tls 0 S.own).headD .gone).subs.headD .any).pv.chars, (((tls 0 S.own).headD .gone).subs.tail.headD .any).pv.nl, (((tls 0 S.own).headD .gone).subs.tail.headD .any).pv.ex, (((tls 0 S.own).headD .gone).subs.tail.headD .any).pv.ints, (((tls 0 S.own).headD .gone).subs.tail.tail.headD .any).pv.num, (((tls 0 S.own).headD .gone).subs.tail.tail.tail.headD .any).pv.num, (((tls 0 S.own).headD .gone).subs.tail.tail.tail.tail.headD .any).pv.num, ((tls 1 S.own).headD .gone).pvD.nl, ((tls 1 S.own).headD .gone).pvD.ex, ((tls 1 S.own).headD .gone).pvD.ints)
def kb_coupletref20_Line_0 : Exit → St → Tree (((Bool × Bool × List PV × Int × List Int × Bool × Bool × List Int × Int × Int × Int × Bool × Bool × List Int)) ⊕ (((List Int × Bool × Bool × List Int × Int × Int × Int × Bool × Bool × List Int)) ⊕ ((Bool × List Int × Bool × Bool × List Int × Int × Int × Int)))) := (exOne (.exit 0) [2, 11] tz_coupletref20_Line_0_0 ta_coupletref20_Line_0_0 (fun y => Sum.inr ((Sum.inl y))) (exOne .ret [2, 3] tz_coupletref20_Line_0_1 ta_coupletref20_Line_0_1 (fun y => Sum.inr ((Sum.inr y))) exNil))
def ky_coupletref20_Line_0 : Dec (((List Int × Bool × Bool × List Int × Int × Int × Int × Bool × Bool × List Int)) ⊕ ((Bool × List Int × Bool × Bool × List Int × Int × Int × Int))) := fun _ y ke => .sum y (fun a => ke ((.exit 0) : EK).ex (tx_coupletref20_Line_0_0 a)) (fun y' => ke (.ret : EK).ex (tx_coupletref20_Line_0_1 y'))
theorem kk_coupletref20_Line_0 : ExOk Sum.inr kb_coupletref20_Line_0 ky_coupletref20_Line_0 := (ExOk.one (acc := ta_coupletref20_Line_0_0) (bY := tx_coupletref20_Line_0_0) (inj1 := fun y => (Sum.inl y)) (fun S => by kernel_rfl) (fun y _ ke => .inr (by kernel_rfl)) (ExOk.one (acc := ta_coupletref20_Line_0_1) (bY := tx_coupletref20_Line_0_1) (inj1 := fun y => (Sum.inr y)) (fun S => by kernel_rfl) (fun y _ ke => .inr (by kernel_rfl)) ExOk.nil))
def lm_coupletref20_Line : Lam := fun _ j S kn ke => match j with
  | 0 => prepT [2, 4, 11, 12] [(11, 5)] S fun S => .chk (sh_coupletref20_Line_0.ok S) (.bind (loopN (fun x => st_coupletref20_Line_0 x.1 x.2.1 x.2.2.1 x.2.2.2.1 x.2.2.2.2.1 x.2.2.2.2.2.1 x.2.2.2.2.2.2.1 x.2.2.2.2.2.2.2.1 x.2.2.2.2.2.2.2.2.1 x.2.2.2.2.2.2.2.2.2.1 x.2.2.2.2.2.2.2.2.2.2.1 x.2.2.2.2.2.2.2.2.2.2.2.1 x.2.2.2.2.2.2.2.2.2.2.2.2.1 x.2.2.2.2.2.2.2.2.2.2.2.2.2) (sa_coupletref20_Line_0 S)) fun y => ky_coupletref20_Line_0 _ y ke)
  | _ => .fail
theorem sr_coupletref20_Line_0 (x : (Bool × Bool × List PV × Int × List Int × Bool × Bool × List Int × Int × Int × Int × Bool × Bool × List Int)) : (ev GG gm_coupletref20_Line lm_coupletref20_Line xb_coupletref20_Line_0 (sx_coupletref20_Line_0 x) (fun S => forgetT [2, 4, 11, 12] S fun S => prepT [2, 4, 11, 12] [(11, 5)] S fun S => .chk (sh_coupletref20_Line_0.ok S) (.leaf (.inl (sa_coupletref20_Line_0 S)))) kb_coupletref20_Line_0).run = st_coupletref20_Line_0 x.1 x.2.1 x.2.2.1 x.2.2.2.1 x.2.2.2.2.1 x.2.2.2.2.2.1 x.2.2.2.2.2.2.1 x.2.2.2.2.2.2.2.1 x.2.2.2.2.2.2.2.2.1 x.2.2.2.2.2.2.2.2.2.1 x.2.2.2.2.2.2.2.2.2.2.1 x.2.2.2.2.2.2.2.2.2.2.2.1 x.2.2.2.2.2.2.2.2.2.2.2.2.1 x.2.2.2.2.2.2.2.2.2.2.2.2.2 := by kernel_rfl
theorem la_coupletref20_Line_0 : LamAt Tryd.prog GG lm_coupletref20_Line 0 (.loop [2, 4, 11, 12] xb_coupletref20_Line_0.erase) := lam_loop (body := xb_coupletref20_Line_0) (Λ' := lm_coupletref20_Line) gk_coupletref20_Line (⟨⟨trivial, ⟨trivial, trivial⟩⟩, ⟨⟨trivial, ⟨trivial, ⟨⟨trivial, ⟨⟨trivial, trivial⟩, trivial⟩⟩, trivial⟩⟩⟩, trivial⟩⟩) (fun S => (by kernel_rfl : sh_coupletref20_Line_0.build S = sx_coupletref20_Line_0 (sa_coupletref20_Line_0 S))) kk_coupletref20_Line_0 sr_coupletref20_Line_0 (fun _ _ _ => rfl)
def go_coupletref20_Line (l0 : List Int) : Option (List Int × Bool × Bool × List Int × Int × Int × Int × Bool) :=
  (go_coupletref20_Words l0).bind fun r1 =>
  bif (decide (0 < (((List.length r1.2.2) : Nat) : Int))) then
   bif (decide (0 < (List.length r1.2.2))) then
    bif (PV.scal (List.getD r1.2.2 0 .nilSl)) then
     bif (Shp.ok .str (List.getD r1.2.2 0 .nilSl)) then
      bif ((PV.chars (List.getD r1.2.2 0 .nilSl)) == [114, 101, 115, 101, 116]) then
       some ([114, 101, 115, 101, 116], true, true, [], 0, 0, 0, ((((List.length r1.2.2) : Nat) : Int) == 1))
      else
       bif (decide (0 < (((List.length r1.2.2) : Nat) : Int))) then
        bif (decide (0 < (List.length r1.2.2))) then
         bif (PV.scal (List.getD r1.2.2 0 .nilSl)) then
          bif (Shp.ok .str (List.getD r1.2.2 0 .nilSl)) then
           bif ((PV.chars (List.getD r1.2.2 0 .nilSl)) == [102, 97, 117, 108, 116]) then
            bif ((((List.length r1.2.2) : Nat) : Int) == 4) then
             bif (decide (1 < (((List.length r1.2.2) : Nat) : Int))) then
              bif (decide (1 < (List.length r1.2.2))) then
               bif (PV.scal (List.getD r1.2.2 1 .nilSl)) then
                bif (Shp.ok .str (List.getD r1.2.2 1 .nilSl)) then
                 (go_coupletref20_Number (PV.chars (List.getD r1.2.2 1 .nilSl))).bind fun r2 =>
                 bif (decide (2 < (((List.length r1.2.2) : Nat) : Int))) then
                  bif (decide (2 < (List.length r1.2.2))) then
                   bif (PV.scal (List.getD r1.2.2 2 .nilSl)) then
                    bif (Shp.ok .str (List.getD r1.2.2 2 .nilSl)) then
                     (go_coupletref20_Number (PV.chars (List.getD r1.2.2 2 .nilSl))).bind fun r3 =>
                     bif (decide (3 < (((List.length r1.2.2) : Nat) : Int))) then
                      bif (decide (3 < (List.length r1.2.2))) then
                       bif (PV.scal (List.getD r1.2.2 3 .nilSl)) then
                        bif (Shp.ok .str (List.getD r1.2.2 3 .nilSl)) then
                         (go_coupletref20_Number (PV.chars (List.getD r1.2.2 3 .nilSl))).bind fun r4 =>
                         bif r2.2 then
                          bif r3.2 then
                           some ([102, 97, 117, 108, 116], true, true, [], r2.1, r3.1, r4.1, r4.2)
                          else
                           some ([102, 97, 117, 108, 116], true, true, [], r2.1, r3.1, r4.1, false)
                         else
                          some ([102, 97, 117, 108, 116], true, true, [], r2.1, r3.1, r4.1, false)
                        else none
                       else none
                      else none
                     else none
                    else none
                   else none
                  else none
                 else none
                else none
               else none
              else none
             else none
            else
             bif (decide (0 < (((List.length r1.2.2) : Nat) : Int))) then
              bif (decide (0 < (List.length r1.2.2))) then
               bif (PV.scal (List.getD r1.2.2 0 .nilSl)) then
                bif (Shp.ok .str (List.getD r1.2.2 0 .nilSl)) then
                 bif (!((PV.chars (List.getD r1.2.2 0 .nilSl)) == [102, 101, 101, 100])) then
                  some ([], true, true, [], 0, 0, 0, false)
                 else
                  bif ((((List.length r1.2.2) : Nat) : Int) != 2) then
                   some ([], true, true, [], 0, 0, 0, false)
                  else
                   bif (decide (1 < (((List.length r1.2.2) : Nat) : Int))) then
                    bif (decide (1 < (List.length r1.2.2))) then
                     bif (PV.scal (List.getD r1.2.2 1 .nilSl)) then
                      bif (Shp.ok .str (List.getD r1.2.2 1 .nilSl)) then
                       bif ((PV.chars (List.getD r1.2.2 1 .nilSl)) == []) then
                        some ([], true, true, [], 0, 0, 0, false)
                       else
                        bif (decide (1 < (((List.length r1.2.2) : Nat) : Int))) then
                         bif (decide (1 < (List.length r1.2.2))) then
                          bif (PV.scal (List.getD r1.2.2 1 .nilSl)) then
                           bif (Shp.ok .str (List.getD r1.2.2 1 .nilSl)) then
                            bif (decide ((((List.length (PV.chars (List.getD r1.2.2 1 .nilSl))) : Nat) : Int) > 1200)) then
                             some ([], true, true, [], 0, 0, 0, false)
                            else
                             bif (decide (1 < (((List.length r1.2.2) : Nat) : Int))) then
                              bif (decide (1 < (List.length r1.2.2))) then
                               bif (PV.scal (List.getD r1.2.2 1 .nilSl)) then
                                bif (Shp.ok .str (List.getD r1.2.2 1 .nilSl)) then
                                 bif ((Int.tmod (((List.length (PV.chars (List.getD r1.2.2 1 .nilSl))) : Nat) : Int) 2) == 1) then
                                  some ([], true, true, [], 0, 0, 0, false)
                                 else
                                  (lp_coupletref20_Line_0 r1.1 r1.2.1 r1.2.2 0 [] true true [] 0 0 0 true true []).bind fun y21 =>
                                  Sum.elim (fun z22 =>
                                   some ([102, 101, 101, 100], z22.2.2.2.2.2.2.2.1, z22.2.2.2.2.2.2.2.2.1, z22.2.2.2.2.2.2.2.2.2, 0, 0, 0, true)) (fun z23 =>
                                   some (z23.2.1, z23.2.2.1, z23.2.2.2.1, z23.2.2.2.2.1, z23.2.2.2.2.2.1, z23.2.2.2.2.2.2.1, z23.2.2.2.2.2.2.2, z23.1)) y21
                                else none
                               else none
                              else none
                             else none
                           else none
                          else none
                         else none
                        else none
                      else none
                     else none
                    else none
                   else none
                else none
               else none
              else none
             else none
           else
            bif (decide (0 < (((List.length r1.2.2) : Nat) : Int))) then
             bif (decide (0 < (List.length r1.2.2))) then
              bif (PV.scal (List.getD r1.2.2 0 .nilSl)) then
               bif (Shp.ok .str (List.getD r1.2.2 0 .nilSl)) then
                bif (!((PV.chars (List.getD r1.2.2 0 .nilSl)) == [102, 101, 101, 100])) then
                 some ([], true, true, [], 0, 0, 0, false)
                else
                 bif ((((List.length r1.2.2) : Nat) : Int) != 2) then
                  some ([], true, true, [], 0, 0, 0, false)
                 else
                  bif (decide (1 < (((List.length r1.2.2) : Nat) : Int))) then
                   bif (decide (1 < (List.length r1.2.2))) then
                    bif (PV.scal (List.getD r1.2.2 1 .nilSl)) then
                     bif (Shp.ok .str (List.getD r1.2.2 1 .nilSl)) then
                      bif ((PV.chars (List.getD r1.2.2 1 .nilSl)) == []) then
                       some ([], true, true, [], 0, 0, 0, false)
                      else
                       bif (decide (1 < (((List.length r1.2.2) : Nat) : Int))) then
                        bif (decide (1 < (List.length r1.2.2))) then
                         bif (PV.scal (List.getD r1.2.2 1 .nilSl)) then
                          bif (Shp.ok .str (List.getD r1.2.2 1 .nilSl)) then
                           bif (decide ((((List.length (PV.chars (List.getD r1.2.2 1 .nilSl))) : Nat) : Int) > 1200)) then
                            some ([], true, true, [], 0, 0, 0, false)
                           else
                            bif (decide (1 < (((List.length r1.2.2) : Nat) : Int))) then
                             bif (decide (1 < (List.length r1.2.2))) then
                              bif (PV.scal (List.getD r1.2.2 1 .nilSl)) then
                               bif (Shp.ok .str (List.getD r1.2.2 1 .nilSl)) then
                                bif ((Int.tmod (((List.length (PV.chars (List.getD r1.2.2 1 .nilSl))) : Nat) : Int) 2) == 1) then
                                 some ([], true, true, [], 0, 0, 0, false)
                                else
                                 (lp_coupletref20_Line_0 r1.1 r1.2.1 r1.2.2 0 [] true true [] 0 0 0 true true []).bind fun y24 =>
                                 Sum.elim (fun z25 =>
                                  some ([102, 101, 101, 100], z25.2.2.2.2.2.2.2.1, z25.2.2.2.2.2.2.2.2.1, z25.2.2.2.2.2.2.2.2.2, 0, 0, 0, true)) (fun z26 =>
                                  some (z26.2.1, z26.2.2.1, z26.2.2.2.1, z26.2.2.2.2.1, z26.2.2.2.2.2.1, z26.2.2.2.2.2.2.1, z26.2.2.2.2.2.2.2, z26.1)) y24
                               else none
                              else none
                             else none
                            else none
                          else none
                         else none
                        else none
                       else none
                     else none
                    else none
                   else none
                  else none
               else none
              else none
             else none
            else none
          else none
         else none
        else none
       else none
     else none
    else none
   else none
  else none
def em_coupletref20_Line (r : (List Int × Bool × Bool × List Int × Int × Int × Int × Bool)) : PV := (.tup [(.agg [(.str r.1), (.isl r.2.1 r.2.2.1 .u8 r.2.2.2.1), (.int .i64 r.2.2.2.2.1), (.int .i64 r.2.2.2.2.2.1), (.int .i64 r.2.2.2.2.2.2.1)]), (.bool r.2.2.2.2.2.2.2)])
def rh_coupletref20_Line : Shp := (.tup [(.agg [.str, (.isl .u8), (.int .i64), (.int .i64), (.int .i64)]), .bool])
def ra_coupletref20_Line (v : PV) : (List Int × Bool × Bool × List Int × Int × Int × Int × Bool) := (((v.subs.headD .nilSl).subs.headD .nilSl).chars, ((v.subs.headD .nilSl).subs.tail.headD .nilSl).nl, ((v.subs.headD .nilSl).subs.tail.headD .nilSl).ex, ((v.subs.headD .nilSl).subs.tail.headD .nilSl).ints, ((v.subs.headD .nilSl).subs.tail.tail.headD .nilSl).num, ((v.subs.headD .nilSl).subs.tail.tail.tail.headD .nilSl).num, ((v.subs.headD .nilSl).subs.tail.tail.tail.tail.headD .nilSl).num, (v.subs.tail.headD .nilSl).tru)
def kf_coupletref20_Line (v : PV) : Tree (List Int × Bool × Bool × List Int × Int × Int × Int × Bool) := .chk (rh_coupletref20_Line.ok v) (.leaf (ra_coupletref20_Line v))
theorem rn_coupletref20_Line (l0 : List Int) : (ev GG gm_coupletref20_Line lm_coupletref20_Line xr_coupletref20_Line ⟨slots 135 0 [(0, .p (.str l0))], []⟩ (fun S => finT Tryd.prog rs_coupletref20_Line S kf_coupletref20_Line) (retT Tryd.prog rs_coupletref20_Line kf_coupletref20_Line)).run = go_coupletref20_Line l0 := by kernel_rfl
theorem ok_coupletref20_Line (l0 : List Int) (r : (List Int × Bool × Bool × List Int × Int × Int × Int × Bool)) (h : go_coupletref20_Line l0 = some r) : FunEq Tryd.prog GG 10 [(.str l0)] (em_coupletref20_Line r) :=
  fun_of_ev (x := xr_coupletref20_Line) (Λ := lm_coupletref20_Line) gk_coupletref20_Line [[2, 4, 11, 12]] Tryd.func10 rfl (by kernel_rfl) ir_coupletref20_Line (by kernel_rfl) (congrArg Array.toList Tryd.results10) Tryd.ntmps10 (⟨trivial, ⟨trivial, ⟨⟨trivial, ⟨⟨trivial, trivial⟩, trivial⟩⟩, ⟨⟨trivial, ⟨⟨trivial, ⟨trivial, ⟨trivial, ⟨trivial, trivial⟩⟩⟩⟩, trivial⟩⟩, ⟨⟨trivial, ⟨⟨trivial, trivial⟩, trivial⟩⟩, ⟨trivial, ⟨⟨trivial, la_coupletref20_Line_0⟩, ⟨trivial, trivial⟩⟩⟩⟩⟩⟩⟩⟩) (leaf_of fun v => (by kernel_rfl : rh_coupletref20_Line.build v = em_coupletref20_Line (ra_coupletref20_Line v))) (by kernel_rfl) ((rn_coupletref20_Line l0).trans h)
def as_coupletref20_Line : List Shp := [.str]
def ga_coupletref20_Line (vs : List PV) : Option (List Int × Bool × Bool × List Int × Int × Int × Int × Bool) := go_coupletref20_Line ((tls 0 vs).headD .nilSl).chars
theorem at_coupletref20_Line : FnAt Tryd.prog GG 10 as_coupletref20_Line ga_coupletref20_Line em_coupletref20_Line := fun vs h r hr => by
  have e : Shp.buildL as_coupletref20_Line vs = [(.str ((tls 0 vs).headD .nilSl).chars)] := by kernel_rfl
  rw [← Shp.buildL_eq _ h, e]
  exact .inl ⟨by decide, ok_coupletref20_Line _ r hr⟩
def xr_coupletlaw20_same : XR := (.seq (.ops false [⟨⟨(some 2), (.box 35 (.tmp 0)), none⟩, none⟩, ⟨⟨(some 3), (.box 31 (.tmp 1)), none⟩, none⟩, ⟨⟨(some 4), (.mv (.c (.bool false))), none⟩, none⟩]) (.seq (.ops false [⟨⟨(some 5), (.fldA 0 (.tmp 2)), none⟩, none⟩, ⟨⟨(some 6), (.ld false 1 (.tmp 5)), none⟩, (some .str)⟩, ⟨⟨(some 7), (.fldA 0 (.tmp 3)), none⟩, none⟩, ⟨⟨(some 8), (.ld false 1 (.tmp 7)), none⟩, (some .str)⟩, ⟨⟨(some 9), (.binS .eql (.tmp 6) (.tmp 8)), none⟩, none⟩, ⟨⟨(some 10), (.mv (.tmp 9)), none⟩, none⟩, ⟨⟨(some 11), (.fldA 1 (.tmp 2)), (some (10, true))⟩, none⟩, ⟨⟨(some 12), (.ld false 1 (.tmp 11)), (some (10, true))⟩, (some (.isl .u8))⟩, ⟨⟨(some 13), (.cvtBS (.tmp 12)), (some (10, true))⟩, none⟩, ⟨⟨(some 14), (.fldA 1 (.tmp 3)), (some (10, true))⟩, none⟩, ⟨⟨(some 15), (.ld false 1 (.tmp 14)), (some (10, true))⟩, (some (.isl .u8))⟩, ⟨⟨(some 16), (.cvtBS (.tmp 15)), (some (10, true))⟩, none⟩, ⟨⟨(some 17), (.binS .eql (.tmp 13) (.tmp 16)), (some (10, true))⟩, none⟩, ⟨⟨(some 18), (.pick (.tmp 10) (.tmp 17) (.c (.bool false))), none⟩, none⟩, ⟨⟨(some 19), (.mv (.tmp 18)), none⟩, none⟩, ⟨⟨(some 20), (.fldA 2 (.tmp 2)), (some (19, true))⟩, none⟩, ⟨⟨(some 21), (.ld false 1 (.tmp 20)), (some (19, true))⟩, (some (.int .i64))⟩, ⟨⟨(some 22), (.fldA 2 (.tmp 3)), (some (19, true))⟩, none⟩, ⟨⟨(some 23), (.ld false 1 (.tmp 22)), (some (19, true))⟩, (some (.int .i64))⟩, ⟨⟨(some 24), (.bin .eql (.tmp 21) (.tmp 23)), (some (19, true))⟩, none⟩, ⟨⟨(some 25), (.pick (.tmp 19) (.tmp 24) (.c (.bool false))), none⟩, none⟩, ⟨⟨(some 26), (.mv (.tmp 25)), none⟩, none⟩, ⟨⟨(some 27), (.fldA 3 (.tmp 2)), (some (26, true))⟩, none⟩, ⟨⟨(some 28), (.ld false 1 (.tmp 27)), (some (26, true))⟩, (some (.int .i64))⟩, ⟨⟨(some 29), (.fldA 3 (.tmp 3)), (some (26, true))⟩, none⟩, ⟨⟨(some 30), (.ld false 1 (.tmp 29)), (some (26, true))⟩, (some (.int .i64))⟩, ⟨⟨(some 31), (.bin .eql (.tmp 28) (.tmp 30)), (some (26, true))⟩, none⟩, ⟨⟨(some 32), (.pick (.tmp 26) (.tmp 31) (.c (.bool false))), none⟩, none⟩, ⟨⟨(some 33), (.mv (.tmp 32)), none⟩, none⟩, ⟨⟨(some 34), (.fldA 4 (.tmp 2)), (some (33, true))⟩, none⟩, ⟨⟨(some 35), (.ld false 1 (.tmp 34)), (some (33, true))⟩, (some (.int .i64))⟩, ⟨⟨(some 36), (.fldA 4 (.tmp 3)), (some (33, true))⟩, none⟩, ⟨⟨(some 37), (.ld false 1 (.tmp 36)), (some (33, true))⟩, (some (.int .i64))⟩, ⟨⟨(some 38), (.bin .eql (.tmp 35) (.tmp 37)), (some (33, true))⟩, none⟩, ⟨⟨(some 39), (.pick (.tmp 33) (.tmp 38) (.c (.bool false))), none⟩, none⟩, ⟨⟨(some 4), (.mv (.tmp 39)), none⟩, none⟩]) .ret))
def rs_coupletlaw20_same : List ResultVar := [(.tmp 4)]
theorem ir_coupletlaw20_same : compCode Tryd.prog (Tryd.f11.body.getD .skip) [] = some (xr_coupletlaw20_same.erase, []) := by kernel_rfl
def gm_coupletlaw20_same : Gam := Gam.bot
theorem gk_coupletlaw20_same : GamOk Tryd.prog GG gm_coupletlaw20_same := GamOk.bot
def lm_coupletlaw20_same : Lam := fun _ j S kn ke => match j with
  | _ => .fail
def go_coupletlaw20_same (l0 : List Int) (b1 : Bool) (b2 : Bool) (l3 : List Int) (n4 : Int) (n5 : Int) (n6 : Int) (l7 : List Int) (b8 : Bool) (b9 : Bool) (l10 : List Int) (n11 : Int) (n12 : Int) (n13 : Int) : Option Bool :=
  bif (l0 == l7) then
   bif (List.all l3 (fun x14 => (decide ((0 ≤ x14) ∧ (x14 < 256))))) then
    bif (List.all l10 (fun x15 => (decide ((0 ≤ x15) ∧ (x15 < 256))))) then
     bif (l3 == l10) then
      bif (n4 == n11) then
       bif (n5 == n12) then
        some (n6 == n13)
       else
        some false
      else
       some false
     else
      some false
    else none
   else none
  else
   some false
def em_coupletlaw20_same (r : Bool) : PV := (.bool r)
def rh_coupletlaw20_same : Shp := .bool
def ra_coupletlaw20_same (v : PV) : Bool := v.tru
def kf_coupletlaw20_same (v : PV) : Tree Bool := .chk (rh_coupletlaw20_same.ok v) (.leaf (ra_coupletlaw20_same v))
theorem rn_coupletlaw20_same (l0 : List Int) (b1 : Bool) (b2 : Bool) (l3 : List Int) (n4 : Int) (n5 : Int) (n6 : Int) (l7 : List Int) (b8 : Bool) (b9 : Bool) (l10 : List Int) (n11 : Int) (n12 : Int) (n13 : Int) : (ev GG gm_coupletlaw20_same lm_coupletlaw20_same xr_coupletlaw20_same ⟨slots 40 0 [(0, .p (.agg [(.str l0), (.isl b1 b2 .u8 l3), (.int .i64 n4), (.int .i64 n5), (.int .i64 n6)])), (1, .p (.agg [(.str l7), (.isl b8 b9 .u8 l10), (.int .i64 n11), (.int .i64 n12), (.int .i64 n13)]))], []⟩ (fun S => finT Tryd.prog rs_coupletlaw20_same S kf_coupletlaw20_same) (retT Tryd.prog rs_coupletlaw20_same kf_coupletlaw20_same)).run = go_coupletlaw20_same l0 b1 b2 l3 n4 n5 n6 l7 b8 b9 l10 n11 n12 n13 := by kernel_rfl
theorem ok_coupletlaw20_same (l0 : List Int) (b1 : Bool) (b2 : Bool) (l3 : List Int) (n4 : Int) (n5 : Int) (n6 : Int) (l7 : List Int) (b8 : Bool) (b9 : Bool) (l10 : List Int) (n11 : Int) (n12 : Int) (n13 : Int) (r : Bool) (h : go_coupletlaw20_same l0 b1 b2 l3 n4 n5 n6 l7 b8 b9 l10 n11 n12 n13 = some r) : FunEq Tryd.prog GG 11 [(.agg [(.str l0), (.isl b1 b2 .u8 l3), (.int .i64 n4), (.int .i64 n5), (.int .i64 n6)]), (.agg [(.str l7), (.isl b8 b9 .u8 l10), (.int .i64 n11), (.int .i64 n12), (.int .i64 n13)])] (em_coupletlaw20_same r) :=
  fun_of_ev (x := xr_coupletlaw20_same) (Λ := lm_coupletlaw20_same) gk_coupletlaw20_same [] Tryd.func11 rfl (by kernel_rfl) ir_coupletlaw20_same (by kernel_rfl) (congrArg Array.toList Tryd.results11) Tryd.ntmps11 (⟨trivial, ⟨trivial, trivial⟩⟩) (leaf_of fun v => (by kernel_rfl : rh_coupletlaw20_same.build v = em_coupletlaw20_same (ra_coupletlaw20_same v))) (by kernel_rfl) ((rn_coupletlaw20_same l0 b1 b2 l3 n4 n5 n6 l7 b8 b9 l10 n11 n12 n13).trans h)
def as_coupletlaw20_same : List Shp := [(.agg [.str, (.isl .u8), (.int .i64), (.int .i64), (.int .i64)]), (.agg [.str, (.isl .u8), (.int .i64), (.int .i64), (.int .i64)])]
def ga_coupletlaw20_same (vs : List PV) : Option Bool := go_coupletlaw20_same (((tls 0 vs).headD .nilSl).subs.headD .nilSl).chars (((tls 0 vs).headD .nilSl).subs.tail.headD .nilSl).nl (((tls 0 vs).headD .nilSl).subs.tail.headD .nilSl).ex (((tls 0 vs).headD .nilSl).subs.tail.headD .nilSl).ints (((tls 0 vs).headD .nilSl).subs.tail.tail.headD .nilSl).num (((tls 0 vs).headD .nilSl).subs.tail.tail.tail.headD .nilSl).num (((tls 0 vs).headD .nilSl).subs.tail.tail.tail.tail.headD .nilSl).num (((tls 1 vs).headD .nilSl).subs.headD .nilSl).chars (((tls 1 vs).headD .nilSl).subs.tail.headD .nilSl).nl (((tls 1 vs).headD .nilSl).subs.tail.headD .nilSl).ex (((tls 1 vs).headD .nilSl).subs.tail.headD .nilSl).ints (((tls 1 vs).headD .nilSl).subs.tail.tail.headD .nilSl).num (((tls 1 vs).headD .nilSl).subs.tail.tail.tail.headD .nilSl).num (((tls 1 vs).headD .nilSl).subs.tail.tail.tail.tail.headD .nilSl).num
theorem at_coupletlaw20_same : FnAt Tryd.prog GG 11 as_coupletlaw20_same ga_coupletlaw20_same em_coupletlaw20_same := fun vs h r hr => by
  have e : Shp.buildL as_coupletlaw20_same vs = [(.agg [(.str (((tls 0 vs).headD .nilSl).subs.headD .nilSl).chars), (.isl (((tls 0 vs).headD .nilSl).subs.tail.headD .nilSl).nl (((tls 0 vs).headD .nilSl).subs.tail.headD .nilSl).ex .u8 (((tls 0 vs).headD .nilSl).subs.tail.headD .nilSl).ints), (.int .i64 (((tls 0 vs).headD .nilSl).subs.tail.tail.headD .nilSl).num), (.int .i64 (((tls 0 vs).headD .nilSl).subs.tail.tail.tail.headD .nilSl).num), (.int .i64 (((tls 0 vs).headD .nilSl).subs.tail.tail.tail.tail.headD .nilSl).num)]), (.agg [(.str (((tls 1 vs).headD .nilSl).subs.headD .nilSl).chars), (.isl (((tls 1 vs).headD .nilSl).subs.tail.headD .nilSl).nl (((tls 1 vs).headD .nilSl).subs.tail.headD .nilSl).ex .u8 (((tls 1 vs).headD .nilSl).subs.tail.headD .nilSl).ints), (.int .i64 (((tls 1 vs).headD .nilSl).subs.tail.tail.headD .nilSl).num), (.int .i64 (((tls 1 vs).headD .nilSl).subs.tail.tail.tail.headD .nilSl).num), (.int .i64 (((tls 1 vs).headD .nilSl).subs.tail.tail.tail.tail.headD .nilSl).num)])] := by kernel_rfl
  rw [← Shp.buildL_eq _ h, e]
  exact .inl ⟨by decide, ok_coupletlaw20_same _ _ _ _ _ _ _ _ _ _ _ _ _ _ r hr⟩
def xb_coupletlaw20_FlightParses_0 : XR := (.seq (.ops false [⟨⟨(some 27), (.bin .lss (.tmp 26) (.tmp 25)), none⟩, none⟩]) (.seq (.cond (.tmp 27) .skip (.exit 0)) (.seq (.block 1 (.seq (.ops false [⟨⟨(some 28), (.mv (.tmp 26)), none⟩, none⟩, ⟨⟨(some 29), (.ixA 1 (.tmp 24) (.tmp 26)), none⟩, none⟩, ⟨⟨(some 30), (.ld false 1 (.tmp 29)), none⟩, (some .str)⟩, ⟨⟨(some 8), (.mv (.tmp 28)), none⟩, none⟩, ⟨⟨(some 9), (.mv (.tmp 30)), none⟩, none⟩]) (.seq (.seq (.ops false [⟨⟨(some 31), (.mv (.tmp 9)), none⟩, none⟩, ⟨⟨(some 32), (.binS .eql (.tmp 31) (.c (.str []))), none⟩, none⟩]) (.cond (.tmp 32) (.exit 1) .skip)) (.seq (.ops false [⟨⟨(some 34), (.mv (.tmp 9)), none⟩, none⟩, ⟨⟨(some 35), (.call (.func 10) [(.tmp 34)]), none⟩, none⟩, ⟨⟨(some 33), (.mv (.tmp 35)), none⟩, none⟩, ⟨⟨(some 36), (.ext (.tmp 33) 0), none⟩, none⟩, ⟨⟨(some 37), (.ext (.tmp 33) 1), none⟩, none⟩, ⟨⟨(some 10), (.alloc 31 [(.str []), (.isl true true .u8 []), (.int .i64 (0)), (.int .i64 (0)), (.int .i64 (0))]), none⟩, none⟩, ⟨⟨none, (.st 5 (.tmp 10) (.tmp 36)), none⟩, none⟩, ⟨⟨(some 11), (.mv (.tmp 37)), none⟩, none⟩]) (.seq (.seq (.ops false [⟨⟨(some 38), (.mv (.tmp 11)), none⟩, none⟩, ⟨⟨(some 39), (.un .not (.tmp 38)), none⟩, none⟩]) (.cond (.tmp 39) (.seq (.ops false [⟨⟨(some 40), (.mv (.tmp 3)), none⟩, none⟩, ⟨⟨(some 41), (.len (.tmp 40)), none⟩, none⟩, ⟨⟨(some 42), (.bin .eql (.tmp 41) (.c (.int .i64 (0)))), none⟩, none⟩, ⟨⟨(some 43), (.mv (.tmp 42)), none⟩, none⟩, ⟨⟨(some 44), (.mv (.tmp 4)), (some (43, true))⟩, none⟩, ⟨⟨(some 45), (.mv (.tmp 8)), (some (43, true))⟩, none⟩, ⟨⟨(some 46), (.bin .add (.tmp 45) (.c (.int .i64 (1)))), (some (43, true))⟩, none⟩, ⟨⟨(some 47), (.bin .eql (.tmp 44) (.tmp 46)), (some (43, true))⟩, none⟩, ⟨⟨(some 48), (.pick (.tmp 43) (.tmp 47) (.c (.bool false))), none⟩, none⟩, ⟨⟨(some 49), (.mv (.tmp 48)), none⟩, none⟩, ⟨⟨(some 50), (.mv (.tmp 5)), (some (49, true))⟩, none⟩, ⟨⟨(some 51), (.bin .eql (.tmp 50) (.c (.int .i64 (4)))), (some (49, true))⟩, none⟩, ⟨⟨(some 52), (.pick (.tmp 49) (.tmp 51) (.c (.bool false))), none⟩, none⟩, ⟨⟨(some 53), (.mv (.tmp 52)), none⟩, none⟩, ⟨⟨(some 54), (.call (.func 7) []), (some (53, true))⟩, none⟩, ⟨⟨(some 55), (.pick (.tmp 53) (.tmp 54) (.c (.bool false))), none⟩, none⟩, ⟨⟨(some 2), (.mv (.tmp 55)), none⟩, none⟩]) .ret) .skip)) (.seq (.seq (.ops true [⟨⟨(some 56), (.mv (.tmp 5)), none⟩, none⟩, ⟨⟨(some 57), (.bin .eql (.tmp 56) (.c (.int .i64 (0)))), none⟩, none⟩, ⟨⟨(some 58), (.mv (.tmp 57)), none⟩, none⟩, ⟨⟨(some 59), (.mv (.tmp 7)), (some (58, true))⟩, none⟩, ⟨⟨(some 60), (.mv (.tmp 3)), (some (58, true))⟩, none⟩, ⟨⟨(some 61), (.len (.tmp 60)), (some (58, true))⟩, none⟩, ⟨⟨(some 62), (.bin .geq (.tmp 59) (.tmp 61)), (some (58, true))⟩, none⟩, ⟨⟨(some 63), (.mv (.tmp 62)), (some (58, true))⟩, none⟩, ⟨⟨(some 64), (.mv (.tmp 3)), (some (63, false))⟩, none⟩, ⟨⟨(some 65), (.mv (.tmp 7)), (some (63, false))⟩, none⟩, ⟨⟨(some 66), (.ixA 5 (.tmp 64) (.tmp 65)), (some (63, false))⟩, none⟩, ⟨⟨(some 67), (.ld true 5 (.tmp 66)), (some (63, false))⟩, (some (.agg [.str, (.isl .u8), (.int .i64), (.int .i64), (.int .i64)]))⟩, ⟨⟨(some 68), (.ld true 5 (.tmp 10)), (some (63, false))⟩, (some (.agg [.str, (.isl .u8), (.int .i64), (.int .i64), (.int .i64)]))⟩, ⟨⟨(some 69), (.call (.func 11) [(.tmp 67), (.tmp 68)]), (some (63, false))⟩, none⟩, ⟨⟨(some 70), (.un .not (.tmp 69)), (some (63, false))⟩, none⟩, ⟨⟨(some 71), (.pick (.tmp 63) (.c (.bool true)) (.tmp 70)), (some (58, true))⟩, none⟩, ⟨⟨(some 72), (.pick (.tmp 58) (.tmp 71) (.c (.bool false))), none⟩, none⟩]) (.cond (.tmp 72) (.seq (.ops false [⟨⟨(some 2), (.mv (.c (.bool false))), none⟩, none⟩]) .ret) .skip)) (.ops false [⟨⟨(some 73), (.mv (.tmp 7)), none⟩, none⟩, ⟨⟨(some 74), (.bin .add (.tmp 73) (.c (.int .i64 (1)))), none⟩, none⟩, ⟨⟨(some 7), (.mv (.tmp 74)), none⟩, none⟩]))))))) (.ops false [⟨⟨(some 75), (.bin .add (.tmp 26) (.c (.int .i64 (1)))), none⟩, none⟩, ⟨⟨(some 26), (.mv (.tmp 75)), none⟩, none⟩]))))
def xr_coupletlaw20_FlightParses : XR := (.seq (.ops false [⟨⟨(some 2), (.mv (.c (.bool false))), none⟩, none⟩]) (.seq (.seq (.ops false [⟨⟨(some 12), (.mv (.tmp 0)), none⟩, none⟩, ⟨⟨(some 13), (.lenS (.tmp 12)), none⟩, none⟩, ⟨⟨(some 14), (.bin .gtr (.tmp 13) (.c (.int .i64 (3000)))), none⟩, none⟩]) (.cond (.tmp 14) (.seq (.ops false [⟨⟨(some 15), (.call (.func 7) []), none⟩, none⟩, ⟨⟨(some 2), (.mv (.tmp 15)), none⟩, none⟩]) .ret) .skip)) (.seq (.ops false [⟨⟨(some 17), (.mv (.tmp 0)), none⟩, none⟩, ⟨⟨(some 18), (.call (.func 8) [(.tmp 17)]), none⟩, none⟩, ⟨⟨(some 16), (.mv (.tmp 18)), none⟩, none⟩, ⟨⟨(some 19), (.ext (.tmp 16) 0), none⟩, none⟩, ⟨⟨(some 20), (.ext (.tmp 16) 1), none⟩, none⟩, ⟨⟨(some 21), (.ext (.tmp 16) 2), none⟩, none⟩, ⟨⟨(some 3), (.mv (.tmp 19)), none⟩, none⟩, ⟨⟨(some 4), (.mv (.tmp 20)), none⟩, none⟩, ⟨⟨(some 5), (.mv (.tmp 21)), none⟩, none⟩]) (.seq (.ops false [⟨⟨(some 22), (.mv (.tmp 0)), none⟩, none⟩, ⟨⟨(some 23), (.call (.func 9) [(.tmp 22)]), none⟩, none⟩, ⟨⟨(some 6), (.mv (.tmp 23)), none⟩, none⟩]) (.seq (.ops false [⟨⟨(some 7), (.mv (.c (.int .i64 (0)))), none⟩, none⟩]) (.seq (.seq (.ops false [⟨⟨(some 24), (.mv (.tmp 6)), none⟩, none⟩, ⟨⟨(some 25), (.len (.tmp 24)), none⟩, none⟩, ⟨⟨(some 26), (.mv (.c (.int .i64 (0)))), none⟩, none⟩]) (.block 0 (.loop 0 [3, 4, 5, 6, 7, 24, 25, 26] xb_coupletlaw20_FlightParses_0))) (.seq (.ops false [⟨⟨(some 76), (.mv (.tmp 3)), none⟩, none⟩, ⟨⟨(some 77), (.len (.tmp 76)), none⟩, none⟩, ⟨⟨(some 78), (.mv (.tmp 7)), none⟩, none⟩, ⟨⟨(some 79), (.bin .eql (.tmp 77) (.tmp 78)), none⟩, none⟩, ⟨⟨(some 80), (.mv (.tmp 79)), none⟩, none⟩, ⟨⟨(some 81), (.mv (.tmp 4)), (some (80, true))⟩, none⟩, ⟨⟨(some 82), (.mv (.tmp 6)), (some (80, true))⟩, none⟩, ⟨⟨(some 83), (.len (.tmp 82)), (some (80, true))⟩, none⟩, ⟨⟨(some 84), (.bin .eql (.tmp 81) (.tmp 83)), (some (80, true))⟩, none⟩, ⟨⟨(some 85), (.pick (.tmp 80) (.tmp 84) (.c (.bool false))), none⟩, none⟩, ⟨⟨(some 86), (.mv (.tmp 85)), none⟩, none⟩, ⟨⟨(some 87), (.mv (.tmp 5)), (some (86, true))⟩, none⟩, ⟨⟨(some 88), (.bin .eql (.tmp 87) (.c (.int .i64 (0)))), (some (86, true))⟩, none⟩, ⟨⟨(some 89), (.pick (.tmp 86) (.tmp 88) (.c (.bool false))), none⟩, none⟩, ⟨⟨(some 90), (.mv (.tmp 89)), none⟩, none⟩, ⟨⟨(some 91), (.call (.func 7) []), (some (90, true))⟩, none⟩, ⟨⟨(some 92), (.pick (.tmp 90) (.tmp 91) (.c (.bool false))), none⟩, none⟩, ⟨⟨(some 2), (.mv (.tmp 92)), none⟩, none⟩]) .ret)))))))
def rs_coupletlaw20_FlightParses : List ResultVar := [(.tmp 2)]
theorem ir_coupletlaw20_FlightParses : compCode Tryd.prog (Tryd.f3.body.getD .skip) [[3, 4, 5, 6, 7, 24, 25, 26]] = some (xr_coupletlaw20_FlightParses.erase, []) := by kernel_rfl
def gm_coupletlaw20_FlightParses : Gam := (Gam.fn 7 as_coupletlaw20_awake ga_coupletlaw20_awake em_coupletlaw20_awake (Gam.fn 8 as_flight_Parse ga_flight_Parse em_flight_Parse (Gam.fn 9 as_coupletref20_Lines ga_coupletref20_Lines em_coupletref20_Lines (Gam.fn 10 as_coupletref20_Line ga_coupletref20_Line em_coupletref20_Line (Gam.fn 11 as_coupletlaw20_same ga_coupletlaw20_same em_coupletlaw20_same Gam.bot)))))
theorem gk_coupletlaw20_FlightParses : GamOk Tryd.prog GG gm_coupletlaw20_FlightParses := (GamOk.fn at_coupletlaw20_awake (GamOk.fn at_flight_Parse (GamOk.fn at_coupletref20_Lines (GamOk.fn at_coupletref20_Line (GamOk.fn at_coupletlaw20_same GamOk.bot)))))
def st_coupletlaw20_FlightParses_0 (b4 : Bool) (b5 : Bool) (es6 : List PV) (n7 : Int) (n8 : Int) (b9 : Bool) (b10 : Bool) (es11 : List PV) (n12 : Int) (b13 : Bool) (b14 : Bool) (es15 : List PV) (n16 : Int) (n17 : Int) : Option (((Bool × Bool × List PV × Int × Int × Bool × Bool × List PV × Int × Bool × Bool × List PV × Int × Int)) ⊕ (((Bool × Bool × List PV × Int × Int × Bool × Bool × List PV × Int)) ⊕ (Bool))) :=
  bif (decide (n17 < n16)) then
   bif (decide (0 ≤ n17)) then
    bif (decide (n17 < (((List.length es15) : Nat) : Int))) then
     bif (decide ((Int.toNat n17) < (List.length es15))) then
      bif (PV.scal (List.getD es15 (Int.toNat n17) .nilSl)) then
       bif (Shp.ok .str (List.getD es15 (Int.toNat n17) .nilSl)) then
        bif ((PV.chars (List.getD es15 (Int.toNat n17) .nilSl)) == []) then
         some (Sum.inl (b4, b5, es6, n7, n8, b9, b10, es11, n12, b13, b14, es15, n16, (IntKind.wrap .i64 (n17 + 1))))
        else
         (go_coupletref20_Line (PV.chars (List.getD es15 (Int.toNat n17) .nilSl))).bind fun r18 =>
         bif (!r18.2.2.2.2.2.2.2) then
          bif ((((List.length es6) : Nat) : Int) == 0) then
           bif (n7 == (IntKind.wrap .i64 (n17 + 1))) then
            bif (n8 == 4) then
             (go_coupletlaw20_awake).bind fun r19 =>
             some (Sum.inr (Sum.inr r19))
            else
             some (Sum.inr (Sum.inr false))
           else
            some (Sum.inr (Sum.inr false))
          else
           some (Sum.inr (Sum.inr false))
         else
          bif (n8 == 0) then
           bif (decide (n12 ≥ (((List.length es6) : Nat) : Int))) then
            some (Sum.inr (Sum.inr false))
           else
            bif (decide (0 ≤ n12)) then
             bif (decide (n12 < (((List.length es6) : Nat) : Int))) then
              bif (decide ((Int.toNat n12) < (List.length es6))) then
               bif (decide ((List.length (PV.cells (List.getD es6 (Int.toNat n12) .nilSl))) = 5)) then
                bif (Shp.ok (.agg [.str, (.isl .u8), (.int .i64), (.int .i64), (.int .i64)]) (.agg (PV.cells (List.getD es6 (Int.toNat n12) .nilSl)))) then
                 (go_coupletlaw20_same (PV.chars (List.headD (PV.subs (.agg (PV.cells (List.getD es6 (Int.toNat n12) .nilSl)))) .nilSl)) (PV.nl (List.headD (List.tail (PV.subs (.agg (PV.cells (List.getD es6 (Int.toNat n12) .nilSl))))) .nilSl)) (PV.ex (List.headD (List.tail (PV.subs (.agg (PV.cells (List.getD es6 (Int.toNat n12) .nilSl))))) .nilSl)) (PV.ints (List.headD (List.tail (PV.subs (.agg (PV.cells (List.getD es6 (Int.toNat n12) .nilSl))))) .nilSl)) (PV.num (List.headD (List.tail (List.tail (PV.subs (.agg (PV.cells (List.getD es6 (Int.toNat n12) .nilSl)))))) .nilSl)) (PV.num (List.headD (List.tail (List.tail (List.tail (PV.subs (.agg (PV.cells (List.getD es6 (Int.toNat n12) .nilSl))))))) .nilSl)) (PV.num (List.headD (List.tail (List.tail (List.tail (List.tail (PV.subs (.agg (PV.cells (List.getD es6 (Int.toNat n12) .nilSl)))))))) .nilSl)) r18.1 r18.2.1 r18.2.2.1 r18.2.2.2.1 r18.2.2.2.2.1 r18.2.2.2.2.2.1 r18.2.2.2.2.2.2.1).bind fun r20 =>
                 bif (!r20) then
                  some (Sum.inr (Sum.inr false))
                 else
                  some (Sum.inl (b4, b5, es6, n7, n8, b9, b10, es11, (IntKind.wrap .i64 (n12 + 1)), b13, b14, es15, n16, (IntKind.wrap .i64 (n17 + 1))))
                else none
               else none
              else none
             else none
            else none
          else
           some (Sum.inl (b4, b5, es6, n7, n8, b9, b10, es11, (IntKind.wrap .i64 (n12 + 1)), b13, b14, es15, n16, (IntKind.wrap .i64 (n17 + 1))))
       else none
      else none
     else none
    else none
   else none
  else
   some (Sum.inr (Sum.inl (b4, b5, es6, n7, n8, b9, b10, es11, n12)))
def lp_coupletlaw20_FlightParses_0 (b4 : Bool) (b5 : Bool) (es6 : List PV) (n7 : Int) (n8 : Int) (b9 : Bool) (b10 : Bool) (es11 : List PV) (n12 : Int) (b13 : Bool) (b14 : Bool) (es15 : List PV) (n16 : Int) (n17 : Int) : Option (((Bool × Bool × List PV × Int × Int × Bool × Bool × List PV × Int)) ⊕ (Bool)) := loopN (X := (Bool × Bool × List PV × Int × Int × Bool × Bool × List PV × Int × Bool × Bool × List PV × Int × Int)) (fun x => st_coupletlaw20_FlightParses_0 x.1 x.2.1 x.2.2.1 x.2.2.2.1 x.2.2.2.2.1 x.2.2.2.2.2.1 x.2.2.2.2.2.2.1 x.2.2.2.2.2.2.2.1 x.2.2.2.2.2.2.2.2.1 x.2.2.2.2.2.2.2.2.2.1 x.2.2.2.2.2.2.2.2.2.2.1 x.2.2.2.2.2.2.2.2.2.2.2.1 x.2.2.2.2.2.2.2.2.2.2.2.2.1 x.2.2.2.2.2.2.2.2.2.2.2.2.2) (b4, b5, es6, n7, n8, b9, b10, es11, n12, b13, b14, es15, n16, n17)
def sh_coupletlaw20_FlightParses_0 : StSh := ⟨93, [(3, (.p (.sl 5))), (4, (.p (.int .i64))), (5, (.p (.int .i64))), (6, (.p (.sl 1))), (7, (.p (.int .i64))), (24, (.p (.sl 1))), (25, (.p (.int .i64))), (26, (.p (.int .i64)))], []⟩
def sx_coupletlaw20_FlightParses_0 (x : (Bool × Bool × List PV × Int × Int × Bool × Bool × List PV × Int × Bool × Bool × List PV × Int × Int)) : St := ⟨slots 93 0 [(3, (.p (.sl x.1 x.2.1 5 x.2.2.1))), (4, (.p (.int .i64 x.2.2.2.1))), (5, (.p (.int .i64 x.2.2.2.2.1))), (6, (.p (.sl x.2.2.2.2.2.1 x.2.2.2.2.2.2.1 1 x.2.2.2.2.2.2.2.1))), (7, (.p (.int .i64 x.2.2.2.2.2.2.2.2.1))), (24, (.p (.sl x.2.2.2.2.2.2.2.2.2.1 x.2.2.2.2.2.2.2.2.2.2.1 1 x.2.2.2.2.2.2.2.2.2.2.2.1))), (25, (.p (.int .i64 x.2.2.2.2.2.2.2.2.2.2.2.2.1))), (26, (.p (.int .i64 x.2.2.2.2.2.2.2.2.2.2.2.2.2)))], []⟩
def sa_coupletlaw20_FlightParses_0 (S : St) : (Bool × Bool × List PV × Int × Int × Bool × Bool × List PV × Int × Bool × Bool × List PV × Int × Int) := (((tls 3 S.t).headD .any).pv.nl, ((tls 3 S.t).headD .any).pv.ex, ((tls 3 S.t).headD .any).pv.elts, ((tls 4 S.t).headD .any).pv.num, ((tls 5 S.t).headD .any).pv.num, ((tls 6 S.t).headD .any).pv.nl, ((tls 6 S.t).headD .any).pv.ex, ((tls 6 S.t).headD .any).pv.elts, ((tls 7 S.t).headD .any).pv.num, ((tls 24 S.t).headD .any).pv.nl, ((tls 24 S.t).headD .any).pv.ex, ((tls 24 S.t).headD .any).pv.elts, ((tls 25 S.t).headD .any).pv.num, ((tls 26 S.t).headD .any).pv.num)
def tz_coupletlaw20_FlightParses_0_1 : StSh := ⟨93, [(2, (.p .bool))], []⟩
def tx_coupletlaw20_FlightParses_0_1 (x : Bool) : St := ⟨slots 93 0 [(2, (.p (.bool x)))], []⟩
def ta_coupletlaw20_FlightParses_0_1 (S : St) : Bool := ((tls 2 S.t).headD .any).pv.tru
def tz_coupletlaw20_FlightParses_0_0 : StSh := ⟨93, [(3, (.p (.sl 5))), (4, (.p (.int .i64))), (5, (.p (.int .i64))), (6, (.p (.sl 1))), (7, (.p (.int .i64)))], []⟩
def tx_coupletlaw20_FlightParses_0_0 (x : (Bool × Bool × List PV × Int × Int × Bool × Bool × List PV × Int)) : St := ⟨slots 93 0 [(3, (.p (.sl x.1 x.2.1 5 x.2.2.1))), (4, (.p (.int .i64 x.2.2.2.1))), (5, (.p (.int .i64 x.2.2.2.2.1))), (6, (.p (.sl x.2.2.2.2.2.1 x.2.2.2.2.2.2.1 1 x.2.2.2.2.2.2.2.1))), (7, (.p (.int .i64 x.2.2.2.2.2.2.2.2)))], []⟩
def ta_coupletlaw20_FlightParses_0_0 (S : St) : (Bool × Bool × List PV × Int × Int × Bool × Bool × List PV × Int) := (((tls 3 S.t).headD .any).pv.nl, ((tls 3 S.t).headD .any).pv.ex, ((tls 3 S.t).headD .any).pv.elts, ((tls 4 S.t).headD .any).pv.num, ((tls 5 S.t).headD .any).pv.num, ((tls 6 S.t).headD .any).pv.nl, ((tls 6 S.t).headD .any).pv.ex, ((tls 6 S.t).headD .any).pv.elts, ((tls 7 S.t).headD .any).pv.num)
def kb_coupletlaw20_FlightParses_0 : Exit → St → Tree (((Bool × Bool × List PV × Int × Int × Bool × Bool × List PV × Int × Bool × Bool × List PV × Int × Int)) ⊕ (((Bool × Bool × List PV × Int × Int × Bool × Bool × List PV × Int)) ⊕ (Bool))) := (exOne (.exit 0) [3, 4, 5, 6, 7] tz_coupletlaw20_FlightParses_0_0 ta_coupletlaw20_FlightParses_0_0 (fun y => Sum.inr ((Sum.inl y))) (exOne .ret [2] tz_coupletlaw20_FlightParses_0_1 ta_coupletlaw20_FlightParses_0_1 (fun y => Sum.inr ((Sum.inr y))) exNil))
def ky_coupletlaw20_FlightParses_0 : Dec (((Bool × Bool × List PV × Int × Int × Bool × Bool × List PV × Int)) ⊕ (Bool)) := fun _ y ke => .sum y (fun a => ke ((.exit 0) : EK).ex (tx_coupletlaw20_FlightParses_0_0 a)) (fun y' => ke (.ret : EK).ex (tx_coupletlaw20_FlightParses_0_1 y'))
theorem kk_coupletlaw20_FlightParses_0 : ExOk Sum.inr kb_coupletlaw20_FlightParses_0 ky_coupletlaw20_FlightParses_0 := (ExOk.one (acc := ta_coupletlaw20_FlightParses_0_0) (bY := tx_coupletlaw20_FlightParses_0_0) (inj1 := fun y => (Sum.inl y)) (fun S => by kernel_rfl) (fun y _ ke => .inr (by kernel_rfl)) (ExOk.one (acc := ta_coupletlaw20_FlightParses_0_1) (bY := tx_coupletlaw20_FlightParses_0_1) (inj1 := fun y => (Sum.inr y)) (fun S => by kernel_rfl) (fun y _ ke => .inr (by kernel_rfl)) ExOk.nil))
def lm_coupletlaw20_FlightParses : Lam := fun _ j S kn ke => match j with
  | 0 => prepT [3, 4, 5, 6, 7, 24, 25, 26] [] S fun S => .chk (sh_coupletlaw20_FlightParses_0.ok S) (.bind (loopN (fun x => st_coupletlaw20_FlightParses_0 x.1 x.2.1 x.2.2.1 x.2.2.2.1 x.2.2.2.2.1 x.2.2.2.2.2.1 x.2.2.2.2.2.2.1 x.2.2.2.2.2.2.2.1 x.2.2.2.2.2.2.2.2.1 x.2.2.2.2.2.2.2.2.2.1 x.2.2.2.2.2.2.2.2.2.2.1 x.2.2.2.2.2.2.2.2.2.2.2.1 x.2.2.2.2.2.2.2.2.2.2.2.2.1 x.2.2.2.2.2.2.2.2.2.2.2.2.2) (sa_coupletlaw20_FlightParses_0 S)) fun y => ky_coupletlaw20_FlightParses_0 _ y ke)
  | _ => .fail
theorem sr_coupletlaw20_FlightParses_0 (x : (Bool × Bool × List PV × Int × Int × Bool × Bool × List PV × Int × Bool × Bool × List PV × Int × Int)) : (ev GG gm_coupletlaw20_FlightParses lm_coupletlaw20_FlightParses xb_coupletlaw20_FlightParses_0 (sx_coupletlaw20_FlightParses_0 x) (fun S => forgetT [3, 4, 5, 6, 7, 24, 25, 26] S fun S => prepT [3, 4, 5, 6, 7, 24, 25, 26] [] S fun S => .chk (sh_coupletlaw20_FlightParses_0.ok S) (.leaf (.inl (sa_coupletlaw20_FlightParses_0 S)))) kb_coupletlaw20_FlightParses_0).run = st_coupletlaw20_FlightParses_0 x.1 x.2.1 x.2.2.1 x.2.2.2.1 x.2.2.2.2.1 x.2.2.2.2.2.1 x.2.2.2.2.2.2.1 x.2.2.2.2.2.2.2.1 x.2.2.2.2.2.2.2.2.1 x.2.2.2.2.2.2.2.2.2.1 x.2.2.2.2.2.2.2.2.2.2.1 x.2.2.2.2.2.2.2.2.2.2.2.1 x.2.2.2.2.2.2.2.2.2.2.2.2.1 x.2.2.2.2.2.2.2.2.2.2.2.2.2 := by kernel_rfl
theorem la_coupletlaw20_FlightParses_0 : LamAt Tryd.prog GG lm_coupletlaw20_FlightParses 0 (.loop [3, 4, 5, 6, 7, 24, 25, 26] xb_coupletlaw20_FlightParses_0.erase) := lam_loop (body := xb_coupletlaw20_FlightParses_0) (Λ' := lm_coupletlaw20_FlightParses) gk_coupletlaw20_FlightParses (⟨trivial, ⟨⟨trivial, trivial⟩, ⟨⟨trivial, ⟨⟨trivial, ⟨trivial, trivial⟩⟩, ⟨trivial, ⟨⟨trivial, ⟨⟨trivial, trivial⟩, trivial⟩⟩, ⟨⟨trivial, ⟨⟨trivial, trivial⟩, trivial⟩⟩, trivial⟩⟩⟩⟩⟩, trivial⟩⟩⟩) (fun S => (by kernel_rfl : sh_coupletlaw20_FlightParses_0.build S = sx_coupletlaw20_FlightParses_0 (sa_coupletlaw20_FlightParses_0 S))) kk_coupletlaw20_FlightParses_0 sr_coupletlaw20_FlightParses_0 (fun _ _ _ => rfl)
def go_coupletlaw20_FlightParses (l0 : List Int) : Option Bool :=
  bif (decide ((((List.length l0) : Nat) : Int) > 3000)) then
   (go_coupletlaw20_awake).bind fun r1 =>
   some r1
  else
   (go_flight_Parse l0).bind fun r2 =>
   (go_coupletref20_Lines l0).bind fun r3 =>
   (lp_coupletlaw20_FlightParses_0 r2.1 r2.2.1 r2.2.2.1 r2.2.2.2.1 r2.2.2.2.2 r3.1 r3.2.1 r3.2.2 0 r3.1 r3.2.1 r3.2.2 (((List.length r3.2.2) : Nat) : Int) 0).bind fun y21 =>
   Sum.elim (fun z22 =>
    bif ((((List.length z22.2.2.1) : Nat) : Int) == z22.2.2.2.2.2.2.2.2) then
     bif (z22.2.2.2.1 == (((List.length z22.2.2.2.2.2.2.2.1) : Nat) : Int)) then
      bif (z22.2.2.2.2.1 == 0) then
       (go_coupletlaw20_awake).bind fun r23 =>
       some r23
      else
       some false
     else
      some false
    else
     some false) (fun z24 =>
    some z24) y21
def em_coupletlaw20_FlightParses (r : Bool) : PV := (.bool r)
def rh_coupletlaw20_FlightParses : Shp := .bool
def ra_coupletlaw20_FlightParses (v : PV) : Bool := v.tru
def kf_coupletlaw20_FlightParses (v : PV) : Tree Bool := .chk (rh_coupletlaw20_FlightParses.ok v) (.leaf (ra_coupletlaw20_FlightParses v))
theorem rn_coupletlaw20_FlightParses (l0 : List Int) : (ev GG gm_coupletlaw20_FlightParses lm_coupletlaw20_FlightParses xr_coupletlaw20_FlightParses ⟨slots 93 0 [(0, .p (.str l0))], []⟩ (fun S => finT Tryd.prog rs_coupletlaw20_FlightParses S kf_coupletlaw20_FlightParses) (retT Tryd.prog rs_coupletlaw20_FlightParses kf_coupletlaw20_FlightParses)).run = go_coupletlaw20_FlightParses l0 := by kernel_rfl
theorem ok_coupletlaw20_FlightParses (l0 : List Int) (r : Bool) (h : go_coupletlaw20_FlightParses l0 = some r) : FunEq Tryd.prog GG 3 [(.str l0)] (em_coupletlaw20_FlightParses r) :=
  fun_of_ev (x := xr_coupletlaw20_FlightParses) (Λ := lm_coupletlaw20_FlightParses) gk_coupletlaw20_FlightParses [[3, 4, 5, 6, 7, 24, 25, 26]] Tryd.func3 rfl (by kernel_rfl) ir_coupletlaw20_FlightParses (by kernel_rfl) (congrArg Array.toList Tryd.results3) Tryd.ntmps3 (⟨trivial, ⟨⟨trivial, ⟨⟨trivial, trivial⟩, trivial⟩⟩, ⟨trivial, ⟨trivial, ⟨trivial, ⟨⟨trivial, la_coupletlaw20_FlightParses_0⟩, ⟨trivial, trivial⟩⟩⟩⟩⟩⟩⟩) (leaf_of fun v => (by kernel_rfl : rh_coupletlaw20_FlightParses.build v = em_coupletlaw20_FlightParses (ra_coupletlaw20_FlightParses v))) (by kernel_rfl) ((rn_coupletlaw20_FlightParses l0).trans h)
end Go.Proofs
end
