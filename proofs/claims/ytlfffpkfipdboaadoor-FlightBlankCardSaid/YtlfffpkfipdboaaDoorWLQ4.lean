/-
  The laws on flights, as the rows ask for them.
-/
import Derived.Test.YtlfffpkfipdboaaDoorWGF1
import Derived.Test.YtlfffpkfipdboaaDoorWSFs
import Derived.Test.YtlfffpkfipdboaaDoorWSFm
import Derived.Test.YtlfffpkfipdboaaDoorWLFn
import Derived.Test.YtlfffpkfipdboaaDoorWLP2
import Derived.Test.YtlfffpkfipdboaaDoorFxRng
import Derived.Test.YtlfffpkfipdboaaDoorChecked
import Derived.Test.YtlfffpkfipdboaaDoorWLQ2
import Derived.Test.YtlfffpkfipdboaaDoorFxRow
set_option linter.unusedVariables false
set_option maxRecDepth 100000
noncomputable section
namespace Go.Proofs
open Go Go.Fx
def xb_coupletlaw20_FlightBlank_0 : XR := (.seq (.ops false [⟨⟨(some 24), (.bin .lss (.tmp 23) (.tmp 22)), none⟩, none⟩]) (.seq (.cond (.tmp 24) .skip (.exit 0)) (.seq (.block 1 (.ops false [⟨⟨(some 25), (.mv (.tmp 6)), none⟩, none⟩, ⟨⟨(some 26), (.binS .add (.c (.str [(10)])) (.tmp 25)), none⟩, none⟩, ⟨⟨(some 6), (.mv (.tmp 26)), none⟩, none⟩])) (.ops false [⟨⟨(some 27), (.bin .add (.tmp 23) (.c (.int .i64 (1)))), none⟩, none⟩, ⟨⟨(some 23), (.mv (.tmp 27)), none⟩, none⟩]))))
def xb_coupletlaw20_FlightBlank_1 : XR := (.seq (.ops false [⟨⟨(some 81), (.bin .lss (.tmp 80) (.tmp 79)), none⟩, none⟩]) (.seq (.cond (.tmp 81) .skip (.exit 2)) (.seq (.block 3 (.seq (.ops false [⟨⟨(some 82), (.mv (.tmp 80)), none⟩, none⟩, ⟨⟨(some 13), (.mv (.tmp 82)), none⟩, none⟩]) (.seq (.ops true [⟨⟨(some 83), (.mv (.tmp 7)), none⟩, none⟩, ⟨⟨(some 84), (.mv (.tmp 13)), none⟩, none⟩, ⟨⟨(some 85), (.ixA 5 (.tmp 83) (.tmp 84)), none⟩, none⟩, ⟨⟨(some 86), (.ld true 5 (.tmp 85)), none⟩, (some (.agg [.str, (.isl .u8), (.int .i64), (.int .i64), (.int .i64)]))⟩, ⟨⟨(some 87), (.mv (.tmp 10)), none⟩, none⟩, ⟨⟨(some 88), (.mv (.tmp 13)), none⟩, none⟩, ⟨⟨(some 89), (.ixA 5 (.tmp 87) (.tmp 88)), none⟩, none⟩, ⟨⟨(some 90), (.fldA 0 (.tmp 89)), none⟩, none⟩, ⟨⟨(some 91), (.ld false 1 (.tmp 90)), none⟩, (some .str)⟩, ⟨⟨(some 92), (.mv (.tmp 10)), none⟩, none⟩, ⟨⟨(some 93), (.mv (.tmp 13)), none⟩, none⟩, ⟨⟨(some 94), (.ixA 5 (.tmp 92) (.tmp 93)), none⟩, none⟩, ⟨⟨(some 95), (.fldA 1 (.tmp 94)), none⟩, none⟩, ⟨⟨(some 96), (.ld false 1 (.tmp 95)), none⟩, (some (.isl .u8))⟩, ⟨⟨(some 97), (.mv (.tmp 10)), none⟩, none⟩, ⟨⟨(some 98), (.mv (.tmp 13)), none⟩, none⟩, ⟨⟨(some 99), (.ixA 5 (.tmp 97) (.tmp 98)), none⟩, none⟩, ⟨⟨(some 100), (.fldA 2 (.tmp 99)), none⟩, none⟩, ⟨⟨(some 101), (.ld false 1 (.tmp 100)), none⟩, (some (.int .i64))⟩, ⟨⟨(some 102), (.mv (.tmp 10)), none⟩, none⟩, ⟨⟨(some 103), (.mv (.tmp 13)), none⟩, none⟩, ⟨⟨(some 104), (.ixA 5 (.tmp 102) (.tmp 103)), none⟩, none⟩, ⟨⟨(some 105), (.fldA 3 (.tmp 104)), none⟩, none⟩, ⟨⟨(some 106), (.ld false 1 (.tmp 105)), none⟩, (some (.int .i64))⟩, ⟨⟨(some 107), (.mv (.tmp 10)), none⟩, none⟩, ⟨⟨(some 108), (.mv (.tmp 13)), none⟩, none⟩, ⟨⟨(some 109), (.ixA 5 (.tmp 107) (.tmp 108)), none⟩, none⟩, ⟨⟨(some 110), (.fldA 4 (.tmp 109)), none⟩, none⟩, ⟨⟨(some 111), (.ld false 1 (.tmp 110)), none⟩, (some (.int .i64))⟩, ⟨⟨(some 112), (.build [(.str []), (.isl true true .u8 []), (.int .i64 (0)), (.int .i64 (0)), (.int .i64 (0))] [(0, (1, (.tmp 91))), (1, (1, (.tmp 96))), (2, (1, (.tmp 101))), (3, (1, (.tmp 106))), (4, (1, (.tmp 111)))]), none⟩, none⟩, ⟨⟨(some 113), (.call (.func 11) [(.tmp 86), (.tmp 112)]), none⟩, none⟩, ⟨⟨(some 114), (.un .not (.tmp 113)), none⟩, none⟩]) (.cond (.tmp 114) (.seq (.ops false [⟨⟨(some 4), (.mv (.c (.bool false))), none⟩, none⟩]) .ret) .skip)))) (.ops false [⟨⟨(some 115), (.bin .add (.tmp 80) (.c (.int .i64 (1)))), none⟩, none⟩, ⟨⟨(some 80), (.mv (.tmp 115)), none⟩, none⟩]))))
def xr_coupletlaw20_FlightBlank : XR := (.seq (.ops false [⟨⟨(some 4), (.mv (.c (.bool false))), none⟩, none⟩]) (.seq (.seq (.ops false [⟨⟨(some 14), (.mv (.tmp 0)), none⟩, none⟩, ⟨⟨(some 15), (.lenS (.tmp 14)), none⟩, none⟩, ⟨⟨(some 16), (.bin .gtr (.tmp 15) (.c (.int .i64 (3000)))), none⟩, none⟩]) (.cond (.tmp 16) (.seq (.ops false [⟨⟨(some 17), (.call (.func 7) []), none⟩, none⟩, ⟨⟨(some 4), (.mv (.tmp 17)), none⟩, none⟩]) .ret) .skip)) (.seq (.ops false [⟨⟨(some 18), (.mv (.tmp 1)), none⟩, none⟩, ⟨⟨(some 19), (.cvtI .i64 (.tmp 18)), none⟩, none⟩, ⟨⟨(some 20), (.bin .rem (.tmp 19) (.c (.int .i64 (20)))), none⟩, none⟩, ⟨⟨(some 5), (.mv (.tmp 20)), none⟩, none⟩]) (.seq (.ops false [⟨⟨(some 21), (.mv (.tmp 0)), none⟩, none⟩, ⟨⟨(some 6), (.mv (.tmp 21)), none⟩, none⟩]) (.seq (.seq (.ops false [⟨⟨(some 22), (.mv (.tmp 5)), none⟩, none⟩, ⟨⟨(some 23), (.mv (.c (.int .i64 (0)))), none⟩, none⟩]) (.block 0 (.loop 0 [0, 5, 6, 22, 23] xb_coupletlaw20_FlightBlank_0))) (.seq (.ops false [⟨⟨(some 29), (.mv (.tmp 0)), none⟩, none⟩, ⟨⟨(some 30), (.call (.func 8) [(.tmp 29)]), none⟩, none⟩, ⟨⟨(some 28), (.mv (.tmp 30)), none⟩, none⟩, ⟨⟨(some 31), (.ext (.tmp 28) 0), none⟩, none⟩, ⟨⟨(some 32), (.ext (.tmp 28) 1), none⟩, none⟩, ⟨⟨(some 33), (.ext (.tmp 28) 2), none⟩, none⟩, ⟨⟨(some 7), (.mv (.tmp 31)), none⟩, none⟩, ⟨⟨(some 8), (.mv (.tmp 32)), none⟩, none⟩, ⟨⟨(some 9), (.mv (.tmp 33)), none⟩, none⟩]) (.seq (.ops false [⟨⟨(some 35), (.mv (.tmp 6)), none⟩, none⟩, ⟨⟨(some 36), (.call (.func 8) [(.tmp 35)]), none⟩, none⟩, ⟨⟨(some 34), (.mv (.tmp 36)), none⟩, none⟩, ⟨⟨(some 37), (.ext (.tmp 34) 0), none⟩, none⟩, ⟨⟨(some 38), (.ext (.tmp 34) 1), none⟩, none⟩, ⟨⟨(some 39), (.ext (.tmp 34) 2), none⟩, none⟩, ⟨⟨(some 10), (.mv (.tmp 37)), none⟩, none⟩, ⟨⟨(some 11), (.mv (.tmp 38)), none⟩, none⟩, ⟨⟨(some 12), (.mv (.tmp 39)), none⟩, none⟩]) (.seq (.seq (.ops false [⟨⟨(some 40), (.mv (.tmp 0)), none⟩, none⟩, ⟨⟨(some 41), (.binS .eql (.tmp 40) (.c (.str []))), none⟩, none⟩, ⟨⟨(some 42), (.mv (.tmp 41)), none⟩, none⟩, ⟨⟨(some 43), (.mv (.tmp 5)), (some (42, true))⟩, none⟩, ⟨⟨(some 44), (.bin .gtr (.tmp 43) (.c (.int .i64 (0)))), (some (42, true))⟩, none⟩, ⟨⟨(some 45), (.pick (.tmp 42) (.tmp 44) (.c (.bool false))), none⟩, none⟩]) (.cond (.tmp 45) (.seq (.ops false [⟨⟨(some 46), (.mv (.tmp 10)), none⟩, none⟩, ⟨⟨(some 47), (.len (.tmp 46)), none⟩, none⟩, ⟨⟨(some 48), (.bin .eql (.tmp 47) (.c (.int .i64 (0)))), none⟩, none⟩, ⟨⟨(some 49), (.mv (.tmp 48)), none⟩, none⟩, ⟨⟨(some 50), (.mv (.tmp 11)), (some (49, true))⟩, none⟩, ⟨⟨(some 51), (.mv (.tmp 5)), (some (49, true))⟩, none⟩, ⟨⟨(some 52), (.bin .eql (.tmp 50) (.tmp 51)), (some (49, true))⟩, none⟩, ⟨⟨(some 53), (.pick (.tmp 49) (.tmp 52) (.c (.bool false))), none⟩, none⟩, ⟨⟨(some 54), (.mv (.tmp 53)), none⟩, none⟩, ⟨⟨(some 55), (.mv (.tmp 12)), (some (54, true))⟩, none⟩, ⟨⟨(some 56), (.bin .eql (.tmp 55) (.c (.int .i64 (0)))), (some (54, true))⟩, none⟩, ⟨⟨(some 57), (.pick (.tmp 54) (.tmp 56) (.c (.bool false))), none⟩, none⟩, ⟨⟨(some 58), (.mv (.tmp 57)), none⟩, none⟩, ⟨⟨(some 59), (.call (.func 7) []), (some (58, true))⟩, none⟩, ⟨⟨(some 60), (.pick (.tmp 58) (.tmp 59) (.c (.bool false))), none⟩, none⟩, ⟨⟨(some 4), (.mv (.tmp 60)), none⟩, none⟩]) .ret) .skip)) (.seq (.seq (.ops false [⟨⟨(some 61), (.mv (.tmp 9)), none⟩, none⟩, ⟨⟨(some 62), (.mv (.tmp 12)), none⟩, none⟩, ⟨⟨(some 63), (.bin .neq (.tmp 61) (.tmp 62)), none⟩, none⟩, ⟨⟨(some 64), (.mv (.tmp 63)), none⟩, none⟩, ⟨⟨(some 65), (.mv (.tmp 11)), (some (64, false))⟩, none⟩, ⟨⟨(some 66), (.mv (.tmp 8)), (some (64, false))⟩, none⟩, ⟨⟨(some 67), (.mv (.tmp 5)), (some (64, false))⟩, none⟩, ⟨⟨(some 68), (.bin .add (.tmp 66) (.tmp 67)), (some (64, false))⟩, none⟩, ⟨⟨(some 69), (.bin .neq (.tmp 65) (.tmp 68)), (some (64, false))⟩, none⟩, ⟨⟨(some 70), (.pick (.tmp 64) (.c (.bool true)) (.tmp 69)), none⟩, none⟩, ⟨⟨(some 71), (.mv (.tmp 70)), none⟩, none⟩, ⟨⟨(some 72), (.mv (.tmp 7)), (some (71, false))⟩, none⟩, ⟨⟨(some 73), (.len (.tmp 72)), (some (71, false))⟩, none⟩, ⟨⟨(some 74), (.mv (.tmp 10)), (some (71, false))⟩, none⟩, ⟨⟨(some 75), (.len (.tmp 74)), (some (71, false))⟩, none⟩, ⟨⟨(some 76), (.bin .neq (.tmp 73) (.tmp 75)), (some (71, false))⟩, none⟩, ⟨⟨(some 77), (.pick (.tmp 71) (.c (.bool true)) (.tmp 76)), none⟩, none⟩]) (.cond (.tmp 77) (.seq (.ops false [⟨⟨(some 4), (.mv (.c (.bool false))), none⟩, none⟩]) .ret) .skip)) (.seq (.seq (.ops false [⟨⟨(some 78), (.mv (.tmp 7)), none⟩, none⟩, ⟨⟨(some 79), (.len (.tmp 78)), none⟩, none⟩, ⟨⟨(some 80), (.mv (.c (.int .i64 (0)))), none⟩, none⟩]) (.block 2 (.loop 1 [7, 10, 79, 80] xb_coupletlaw20_FlightBlank_1))) (.seq (.ops false [⟨⟨(some 116), (.call (.func 7) []), none⟩, none⟩, ⟨⟨(some 4), (.mv (.tmp 116)), none⟩, none⟩]) .ret)))))))))))
def rs_coupletlaw20_FlightBlank : List ResultVar := [(.tmp 4)]
theorem ir_coupletlaw20_FlightBlank : compCode Tryd.prog (Tryd.f6.body.getD .skip) [[0, 5, 6, 22, 23], [7, 10, 79, 80]] = some (xr_coupletlaw20_FlightBlank.erase, []) := by kernel_rfl
def gm_coupletlaw20_FlightBlank : Gam := (Gam.fn 7 as_coupletlaw20_awake ga_coupletlaw20_awake em_coupletlaw20_awake (Gam.fn 8 as_flight_Parse ga_flight_Parse em_flight_Parse (Gam.fn 11 as_coupletlaw20_same ga_coupletlaw20_same em_coupletlaw20_same Gam.bot)))
theorem gk_coupletlaw20_FlightBlank : GamOk Tryd.prog GG gm_coupletlaw20_FlightBlank := (GamOk.fn at_coupletlaw20_awake (GamOk.fn at_flight_Parse (GamOk.fn at_coupletlaw20_same GamOk.bot)))
def st_coupletlaw20_FlightBlank_1 (b12 : Bool) (b13 : Bool) (es14 : List PV) (b15 : Bool) (b16 : Bool) (es17 : List PV) (n18 : Int) (n19 : Int) : Option (((Bool × Bool × List PV × Bool × Bool × List PV × Int × Int)) ⊕ ((Unit) ⊕ (Bool))) :=
  bif (decide (n19 < n18)) then
   bif (decide (0 ≤ n19)) then
    bif (decide (n19 < (((List.length es14) : Nat) : Int))) then
     bif (decide ((Int.toNat n19) < (List.length es14))) then
      bif (decide ((List.length (PV.cells (List.getD es14 (Int.toNat n19) .nilSl))) = 5)) then
       bif (Shp.ok (.agg [.str, (.isl .u8), (.int .i64), (.int .i64), (.int .i64)]) (.agg (PV.cells (List.getD es14 (Int.toNat n19) .nilSl)))) then
        bif (decide (0 ≤ n19)) then
         bif (decide (n19 < (((List.length es17) : Nat) : Int))) then
          bif (decide ((Int.toNat n19) < (List.length es17))) then
           bif (Shp.ok .str (List.getD (PV.cells (List.getD es17 (Int.toNat n19) .nilSl)) 0 .nilSl)) then
            bif (decide (0 ≤ n19)) then
             bif (decide (n19 < (((List.length es17) : Nat) : Int))) then
              bif (decide ((Int.toNat n19) < (List.length es17))) then
               bif (Shp.ok (.isl .u8) (List.getD (PV.cells (List.getD es17 (Int.toNat n19) .nilSl)) 1 .nilSl)) then
                bif (decide (0 ≤ n19)) then
                 bif (decide (n19 < (((List.length es17) : Nat) : Int))) then
                  bif (decide ((Int.toNat n19) < (List.length es17))) then
                   bif (Shp.ok (.int .i64) (List.getD (PV.cells (List.getD es17 (Int.toNat n19) .nilSl)) 2 .nilSl)) then
                    bif (decide (0 ≤ n19)) then
                     bif (decide (n19 < (((List.length es17) : Nat) : Int))) then
                      bif (decide ((Int.toNat n19) < (List.length es17))) then
                       bif (Shp.ok (.int .i64) (List.getD (PV.cells (List.getD es17 (Int.toNat n19) .nilSl)) 3 .nilSl)) then
                        bif (decide (0 ≤ n19)) then
                         bif (decide (n19 < (((List.length es17) : Nat) : Int))) then
                          bif (decide ((Int.toNat n19) < (List.length es17))) then
                           bif (Shp.ok (.int .i64) (List.getD (PV.cells (List.getD es17 (Int.toNat n19) .nilSl)) 4 .nilSl)) then
                            (go_coupletlaw20_same (PV.chars (List.headD (PV.subs (.agg (PV.cells (List.getD es14 (Int.toNat n19) .nilSl)))) .nilSl)) (PV.nl (List.headD (List.tail (PV.subs (.agg (PV.cells (List.getD es14 (Int.toNat n19) .nilSl))))) .nilSl)) (PV.ex (List.headD (List.tail (PV.subs (.agg (PV.cells (List.getD es14 (Int.toNat n19) .nilSl))))) .nilSl)) (PV.ints (List.headD (List.tail (PV.subs (.agg (PV.cells (List.getD es14 (Int.toNat n19) .nilSl))))) .nilSl)) (PV.num (List.headD (List.tail (List.tail (PV.subs (.agg (PV.cells (List.getD es14 (Int.toNat n19) .nilSl)))))) .nilSl)) (PV.num (List.headD (List.tail (List.tail (List.tail (PV.subs (.agg (PV.cells (List.getD es14 (Int.toNat n19) .nilSl))))))) .nilSl)) (PV.num (List.headD (List.tail (List.tail (List.tail (List.tail (PV.subs (.agg (PV.cells (List.getD es14 (Int.toNat n19) .nilSl)))))))) .nilSl)) (PV.chars (List.getD (PV.cells (List.getD es17 (Int.toNat n19) .nilSl)) 0 .nilSl)) (PV.nl (List.getD (PV.cells (List.getD es17 (Int.toNat n19) .nilSl)) 1 .nilSl)) (PV.ex (List.getD (PV.cells (List.getD es17 (Int.toNat n19) .nilSl)) 1 .nilSl)) (PV.ints (List.getD (PV.cells (List.getD es17 (Int.toNat n19) .nilSl)) 1 .nilSl)) (PV.num (List.getD (PV.cells (List.getD es17 (Int.toNat n19) .nilSl)) 2 .nilSl)) (PV.num (List.getD (PV.cells (List.getD es17 (Int.toNat n19) .nilSl)) 3 .nilSl)) (PV.num (List.getD (PV.cells (List.getD es17 (Int.toNat n19) .nilSl)) 4 .nilSl))).bind fun r20 =>
                            bif (!r20) then
                             some (Sum.inr (Sum.inr false))
                            else
                             some (Sum.inl (b12, b13, es14, b15, b16, es17, n18, (IntKind.wrap .i64 (n19 + 1))))
                           else none
                          else none
                         else none
                        else none
                       else none
                      else none
                     else none
                    else none
                   else none
                  else none
                 else none
                else none
               else none
              else none
             else none
            else none
           else none
          else none
         else none
        else none
       else none
      else none
     else none
    else none
   else none
  else
   some (Sum.inr (Sum.inl ()))
def lp_coupletlaw20_FlightBlank_1 (b12 : Bool) (b13 : Bool) (es14 : List PV) (b15 : Bool) (b16 : Bool) (es17 : List PV) (n18 : Int) (n19 : Int) : Option ((Unit) ⊕ (Bool)) := loopN (X := (Bool × Bool × List PV × Bool × Bool × List PV × Int × Int)) (fun x => st_coupletlaw20_FlightBlank_1 x.1 x.2.1 x.2.2.1 x.2.2.2.1 x.2.2.2.2.1 x.2.2.2.2.2.1 x.2.2.2.2.2.2.1 x.2.2.2.2.2.2.2) (b12, b13, es14, b15, b16, es17, n18, n19)
def sh_coupletlaw20_FlightBlank_1 : StSh := ⟨117, [(7, (.p (.sl 5))), (10, (.p (.sl 5))), (79, (.p (.int .i64))), (80, (.p (.int .i64)))], []⟩
def sx_coupletlaw20_FlightBlank_1 (x : (Bool × Bool × List PV × Bool × Bool × List PV × Int × Int)) : St := ⟨slots 117 0 [(7, (.p (.sl x.1 x.2.1 5 x.2.2.1))), (10, (.p (.sl x.2.2.2.1 x.2.2.2.2.1 5 x.2.2.2.2.2.1))), (79, (.p (.int .i64 x.2.2.2.2.2.2.1))), (80, (.p (.int .i64 x.2.2.2.2.2.2.2)))], []⟩
def sa_coupletlaw20_FlightBlank_1 (S : St) : (Bool × Bool × List PV × Bool × Bool × List PV × Int × Int) := (((tls 7 S.t).headD .any).pv.nl, ((tls 7 S.t).headD .any).pv.ex, ((tls 7 S.t).headD .any).pv.elts, ((tls 10 S.t).headD .any).pv.nl, ((tls 10 S.t).headD .any).pv.ex, ((tls 10 S.t).headD .any).pv.elts, ((tls 79 S.t).headD .any).pv.num, ((tls 80 S.t).headD .any).pv.num)
def tz_coupletlaw20_FlightBlank_1_1 : StSh := ⟨117, [(4, (.p .bool))], []⟩
def tx_coupletlaw20_FlightBlank_1_1 (x : Bool) : St := ⟨slots 117 0 [(4, (.p (.bool x)))], []⟩
def ta_coupletlaw20_FlightBlank_1_1 (S : St) : Bool := ((tls 4 S.t).headD .any).pv.tru
def tz_coupletlaw20_FlightBlank_1_0 : StSh := ⟨117, [], []⟩
def tx_coupletlaw20_FlightBlank_1_0 (x : Unit) : St := ⟨slots 117 0 [], []⟩
def ta_coupletlaw20_FlightBlank_1_0 (S : St) : Unit := ()
def kb_coupletlaw20_FlightBlank_1 : Exit → St → Tree (((Bool × Bool × List PV × Bool × Bool × List PV × Int × Int)) ⊕ ((Unit) ⊕ (Bool))) := (exOne (.exit 2) [] tz_coupletlaw20_FlightBlank_1_0 ta_coupletlaw20_FlightBlank_1_0 (fun y => Sum.inr ((Sum.inl y))) (exOne .ret [4] tz_coupletlaw20_FlightBlank_1_1 ta_coupletlaw20_FlightBlank_1_1 (fun y => Sum.inr ((Sum.inr y))) exNil))
def ky_coupletlaw20_FlightBlank_1 : Dec ((Unit) ⊕ (Bool)) := fun _ y ke => .sum y (fun a => ke ((.exit 2) : EK).ex (tx_coupletlaw20_FlightBlank_1_0 a)) (fun y' => ke (.ret : EK).ex (tx_coupletlaw20_FlightBlank_1_1 y'))
theorem kk_coupletlaw20_FlightBlank_1 : ExOk Sum.inr kb_coupletlaw20_FlightBlank_1 ky_coupletlaw20_FlightBlank_1 := (ExOk.one (acc := ta_coupletlaw20_FlightBlank_1_0) (bY := tx_coupletlaw20_FlightBlank_1_0) (inj1 := fun y => (Sum.inl y)) (fun S => by kernel_rfl) (fun y _ ke => .inr (by kernel_rfl)) (ExOk.one (acc := ta_coupletlaw20_FlightBlank_1_1) (bY := tx_coupletlaw20_FlightBlank_1_1) (inj1 := fun y => (Sum.inr y)) (fun S => by kernel_rfl) (fun y _ ke => .inr (by kernel_rfl)) ExOk.nil))
def st_coupletlaw20_FlightBlank_0 (l3 : List Int) (n4 : Int) (l5 : List Int) (n6 : Int) (n7 : Int) : Option (((List Int × Int × List Int × Int × Int)) ⊕ (((List Int × Int × List Int)))) :=
  bif (decide (n7 < n6)) then
   bif (decide ((1 + (List.length l5)) ≤ 4611686018427387904)) then
    some (Sum.inl (l3, n4, ([10] ++ l5), n6, (IntKind.wrap .i64 (n7 + 1))))
   else none
  else
   some (Sum.inr (l3, n4, l5))
def lp_coupletlaw20_FlightBlank_0 (l3 : List Int) (n4 : Int) (l5 : List Int) (n6 : Int) (n7 : Int) : Option (((List Int × Int × List Int))) := loopN (X := (List Int × Int × List Int × Int × Int)) (fun x => st_coupletlaw20_FlightBlank_0 x.1 x.2.1 x.2.2.1 x.2.2.2.1 x.2.2.2.2) (l3, n4, l5, n6, n7)
def sh_coupletlaw20_FlightBlank_0 : StSh := ⟨117, [(0, (.p .str)), (5, (.p (.int .i64))), (6, (.p .str)), (22, (.p (.int .i64))), (23, (.p (.int .i64)))], []⟩
def sx_coupletlaw20_FlightBlank_0 (x : (List Int × Int × List Int × Int × Int)) : St := ⟨slots 117 0 [(0, (.p (.str x.1))), (5, (.p (.int .i64 x.2.1))), (6, (.p (.str x.2.2.1))), (22, (.p (.int .i64 x.2.2.2.1))), (23, (.p (.int .i64 x.2.2.2.2)))], []⟩
def sa_coupletlaw20_FlightBlank_0 (S : St) : (List Int × Int × List Int × Int × Int) := (((tls 0 S.t).headD .any).pv.chars, ((tls 5 S.t).headD .any).pv.num, ((tls 6 S.t).headD .any).pv.chars, ((tls 22 S.t).headD .any).pv.num, ((tls 23 S.t).headD .any).pv.num)
def tz_coupletlaw20_FlightBlank_0_0 : StSh := ⟨117, [(0, (.p .str)), (5, (.p (.int .i64))), (6, (.p .str))], []⟩
def tx_coupletlaw20_FlightBlank_0_0 (x : (List Int × Int × List Int)) : St := ⟨slots 117 0 [(0, (.p (.str x.1))), (5, (.p (.int .i64 x.2.1))), (6, (.p (.str x.2.2)))], []⟩
def ta_coupletlaw20_FlightBlank_0_0 (S : St) : (List Int × Int × List Int) := (((tls 0 S.t).headD .any).pv.chars, ((tls 5 S.t).headD .any).pv.num, ((tls 6 S.t).headD .any).pv.chars)
def kb_coupletlaw20_FlightBlank_0 : Exit → St → Tree (((List Int × Int × List Int × Int × Int)) ⊕ (((List Int × Int × List Int)))) := (exOne (.exit 0) [0, 5, 6] tz_coupletlaw20_FlightBlank_0_0 ta_coupletlaw20_FlightBlank_0_0 (fun y => Sum.inr (y)) exNil)
def ky_coupletlaw20_FlightBlank_0 : Dec (((List Int × Int × List Int))) := fun _ y ke => ke ((.exit 0) : EK).ex (tx_coupletlaw20_FlightBlank_0_0 y)
theorem kk_coupletlaw20_FlightBlank_0 : ExOk Sum.inr kb_coupletlaw20_FlightBlank_0 ky_coupletlaw20_FlightBlank_0 := (ExOk.one (acc := ta_coupletlaw20_FlightBlank_0_0) (bY := tx_coupletlaw20_FlightBlank_0_0) (inj1 := fun y => y) (fun S => by kernel_rfl) (fun y _ ke => .inr (by kernel_rfl)) ExOk.nil)
def lm_coupletlaw20_FlightBlank : Lam := fun _ j S kn ke => match j with
  | 0 => prepT [0, 5, 6, 22, 23] [] S fun S => .chk (sh_coupletlaw20_FlightBlank_0.ok S) (.bind (loopN (fun x => st_coupletlaw20_FlightBlank_0 x.1 x.2.1 x.2.2.1 x.2.2.2.1 x.2.2.2.2) (sa_coupletlaw20_FlightBlank_0 S)) fun y => ky_coupletlaw20_FlightBlank_0 _ y ke)
  | 1 => prepT [7, 10, 79, 80] [] S fun S => .chk (sh_coupletlaw20_FlightBlank_1.ok S) (.bind (loopN (fun x => st_coupletlaw20_FlightBlank_1 x.1 x.2.1 x.2.2.1 x.2.2.2.1 x.2.2.2.2.1 x.2.2.2.2.2.1 x.2.2.2.2.2.2.1 x.2.2.2.2.2.2.2) (sa_coupletlaw20_FlightBlank_1 S)) fun y => ky_coupletlaw20_FlightBlank_1 _ y ke)
  | _ => .fail
theorem sr_coupletlaw20_FlightBlank_1 (x : (Bool × Bool × List PV × Bool × Bool × List PV × Int × Int)) : (ev GG gm_coupletlaw20_FlightBlank lm_coupletlaw20_FlightBlank xb_coupletlaw20_FlightBlank_1 (sx_coupletlaw20_FlightBlank_1 x) (fun S => forgetT [7, 10, 79, 80] S fun S => prepT [7, 10, 79, 80] [] S fun S => .chk (sh_coupletlaw20_FlightBlank_1.ok S) (.leaf (.inl (sa_coupletlaw20_FlightBlank_1 S)))) kb_coupletlaw20_FlightBlank_1).run = st_coupletlaw20_FlightBlank_1 x.1 x.2.1 x.2.2.1 x.2.2.2.1 x.2.2.2.2.1 x.2.2.2.2.2.1 x.2.2.2.2.2.2.1 x.2.2.2.2.2.2.2 := by kernel_rfl
theorem la_coupletlaw20_FlightBlank_1 : LamAt Tryd.prog GG lm_coupletlaw20_FlightBlank 1 (.loop [7, 10, 79, 80] xb_coupletlaw20_FlightBlank_1.erase) := lam_loop (body := xb_coupletlaw20_FlightBlank_1) (Λ' := lm_coupletlaw20_FlightBlank) gk_coupletlaw20_FlightBlank (⟨trivial, ⟨⟨trivial, trivial⟩, ⟨⟨trivial, ⟨trivial, ⟨⟨trivial, trivial⟩, trivial⟩⟩⟩, trivial⟩⟩⟩) (fun S => (by kernel_rfl : sh_coupletlaw20_FlightBlank_1.build S = sx_coupletlaw20_FlightBlank_1 (sa_coupletlaw20_FlightBlank_1 S))) kk_coupletlaw20_FlightBlank_1 sr_coupletlaw20_FlightBlank_1 (fun _ _ _ => rfl)
theorem sr_coupletlaw20_FlightBlank_0 (x : (List Int × Int × List Int × Int × Int)) : (ev GG gm_coupletlaw20_FlightBlank lm_coupletlaw20_FlightBlank xb_coupletlaw20_FlightBlank_0 (sx_coupletlaw20_FlightBlank_0 x) (fun S => forgetT [0, 5, 6, 22, 23] S fun S => prepT [0, 5, 6, 22, 23] [] S fun S => .chk (sh_coupletlaw20_FlightBlank_0.ok S) (.leaf (.inl (sa_coupletlaw20_FlightBlank_0 S)))) kb_coupletlaw20_FlightBlank_0).run = st_coupletlaw20_FlightBlank_0 x.1 x.2.1 x.2.2.1 x.2.2.2.1 x.2.2.2.2 := by kernel_rfl
theorem la_coupletlaw20_FlightBlank_0 : LamAt Tryd.prog GG lm_coupletlaw20_FlightBlank 0 (.loop [0, 5, 6, 22, 23] xb_coupletlaw20_FlightBlank_0.erase) := lam_loop (body := xb_coupletlaw20_FlightBlank_0) (Λ' := lm_coupletlaw20_FlightBlank) gk_coupletlaw20_FlightBlank (⟨trivial, ⟨⟨trivial, trivial⟩, ⟨trivial, trivial⟩⟩⟩) (fun S => (by kernel_rfl : sh_coupletlaw20_FlightBlank_0.build S = sx_coupletlaw20_FlightBlank_0 (sa_coupletlaw20_FlightBlank_0 S))) kk_coupletlaw20_FlightBlank_0 sr_coupletlaw20_FlightBlank_0 (fun _ _ _ => rfl)
def go_coupletlaw20_FlightBlank (l0 : List Int) (n1 : Int) : Option Bool :=
  bif (decide ((((List.length l0) : Nat) : Int) > 3000)) then
   (go_coupletlaw20_awake).bind fun r2 =>
   some r2
  else
   (lp_coupletlaw20_FlightBlank_0 l0 (Int.tmod (IntKind.wrap .i64 n1) 20) l0 (Int.tmod (IntKind.wrap .i64 n1) 20) 0).bind fun y8 =>
   (go_flight_Parse y8.1).bind fun r9 =>
   (go_flight_Parse y8.2.2).bind fun r10 =>
   bif (y8.1 == []) then
    bif (decide (y8.2.1 > 0)) then
     bif ((((List.length r10.2.2.1) : Nat) : Int) == 0) then
      bif (r10.2.2.2.1 == y8.2.1) then
       bif (r10.2.2.2.2 == 0) then
        (go_coupletlaw20_awake).bind fun r11 =>
        some r11
       else
        some false
      else
       some false
     else
      some false
    else
     bif (r9.2.2.2.2 != r10.2.2.2.2) then
      some false
     else
      bif (r10.2.2.2.1 != (IntKind.wrap .i64 (r9.2.2.2.1 + y8.2.1))) then
       some false
      else
       bif ((((List.length r9.2.2.1) : Nat) : Int) != (((List.length r10.2.2.1) : Nat) : Int)) then
        some false
       else
        (lp_coupletlaw20_FlightBlank_1 r9.1 r9.2.1 r9.2.2.1 r10.1 r10.2.1 r10.2.2.1 (((List.length r9.2.2.1) : Nat) : Int) 0).bind fun y21 =>
        Sum.elim (fun z22 =>
         (go_coupletlaw20_awake).bind fun r23 =>
         some r23) (fun z24 =>
         some z24) y21
   else
    bif (r9.2.2.2.2 != r10.2.2.2.2) then
     some false
    else
     bif (r10.2.2.2.1 != (IntKind.wrap .i64 (r9.2.2.2.1 + y8.2.1))) then
      some false
     else
      bif ((((List.length r9.2.2.1) : Nat) : Int) != (((List.length r10.2.2.1) : Nat) : Int)) then
       some false
      else
       (lp_coupletlaw20_FlightBlank_1 r9.1 r9.2.1 r9.2.2.1 r10.1 r10.2.1 r10.2.2.1 (((List.length r9.2.2.1) : Nat) : Int) 0).bind fun y25 =>
       Sum.elim (fun z26 =>
        (go_coupletlaw20_awake).bind fun r27 =>
        some r27) (fun z28 =>
        some z28) y25
def em_coupletlaw20_FlightBlank (r : Bool) : PV := (.bool r)
def rh_coupletlaw20_FlightBlank : Shp := .bool
def ra_coupletlaw20_FlightBlank (v : PV) : Bool := v.tru
def kf_coupletlaw20_FlightBlank (v : PV) : Tree Bool := .chk (rh_coupletlaw20_FlightBlank.ok v) (.leaf (ra_coupletlaw20_FlightBlank v))
theorem rn_coupletlaw20_FlightBlank (l0 : List Int) (n1 : Int) : (ev GG gm_coupletlaw20_FlightBlank lm_coupletlaw20_FlightBlank xr_coupletlaw20_FlightBlank ⟨slots 117 0 [(0, .p (.str l0)), (1, .p (.int .u8 n1))], []⟩ (fun S => finT Tryd.prog rs_coupletlaw20_FlightBlank S kf_coupletlaw20_FlightBlank) (retT Tryd.prog rs_coupletlaw20_FlightBlank kf_coupletlaw20_FlightBlank)).run = go_coupletlaw20_FlightBlank l0 n1 := by kernel_rfl
theorem ok_coupletlaw20_FlightBlank (l0 : List Int) (n1 : Int) (r : Bool) (h : go_coupletlaw20_FlightBlank l0 n1 = some r) : FunEq Tryd.prog GG 6 [(.str l0), (.int .u8 n1)] (em_coupletlaw20_FlightBlank r) :=
  fun_of_ev (x := xr_coupletlaw20_FlightBlank) (Λ := lm_coupletlaw20_FlightBlank) gk_coupletlaw20_FlightBlank [[0, 5, 6, 22, 23], [7, 10, 79, 80]] Tryd.func6 rfl (by kernel_rfl) ir_coupletlaw20_FlightBlank (by kernel_rfl) (congrArg Array.toList Tryd.results6) Tryd.ntmps6 (⟨trivial, ⟨⟨trivial, ⟨⟨trivial, trivial⟩, trivial⟩⟩, ⟨trivial, ⟨trivial, ⟨⟨trivial, la_coupletlaw20_FlightBlank_0⟩, ⟨trivial, ⟨trivial, ⟨⟨trivial, ⟨⟨trivial, trivial⟩, trivial⟩⟩, ⟨⟨trivial, ⟨⟨trivial, trivial⟩, trivial⟩⟩, ⟨⟨trivial, la_coupletlaw20_FlightBlank_1⟩, ⟨trivial, trivial⟩⟩⟩⟩⟩⟩⟩⟩⟩⟩⟩) (leaf_of fun v => (by kernel_rfl : rh_coupletlaw20_FlightBlank.build v = em_coupletlaw20_FlightBlank (ra_coupletlaw20_FlightBlank v))) (by kernel_rfl) ((rn_coupletlaw20_FlightBlank l0 n1).trans h)
end Go.Proofs
end
set_option linter.unusedVariables false
set_option maxRecDepth 100000
noncomputable section
namespace Go.Proofs
open Go Go.Fx
end Go.Proofs
end
set_option linter.unusedVariables false
set_option linter.unusedSimpArgs false
noncomputable section
namespace Go.Proofs
open Go Go.Fx
def blank (k : Nat) : List Int := List.replicate k 10
def empties (k : Nat) : List (List Int) := List.replicate k []
theorem cut_blank : ∀ (k : Nat) (l : List Int), cutC 10 (blank k ++ l) = empties k ++ cutC 10 l
  | 0, l => rfl
  | k + 1, l => by
    unfold blank empties
    rw [List.replicate_succ, List.replicate_succ, List.cons_append, cutC, beq_self_eq_true, cond_true]
    exact congrArg _ (cut_blank k l)
theorem parse_empties : ∀ (k j : Nat) (L : List (List Int)), parseI j (empties k ++ L) = parseI (j + k) L
  | 0, j, L => rfl
  | k + 1, j, L => by
    unfold empties
    rw [List.replicate_succ, List.cons_append, parseI, show (([] : List Int) == []) = true from rfl, cond_true]
    exact (parse_empties k (j + 1) L).trans (by rw [Nat.add_assoc, Nat.add_comm 1 k])
theorem parse_shift : ∀ (L : List (List Int)) (j k : Nat), parseI (j + k) L = match parseI j L with | .inl m => .inl (m + k) | .inr ds => .inr ds
  | [], j, k => rfl
  | s :: r, j, k => by
    have ih := parse_shift r (j + 1) k
    rw [show j + 1 + k = j + k + 1 by omega] at ih
    rw [parseI, parseI]
    cases s == [] with
    | true => exact ih
    | false =>
      simp only [cond_false]
      cases lineI s with
      | none => show _ = Sum.inl (j + 1 + k); rw [show j + 1 + k = j + k + 1 by omega]
      | some d =>
        dsimp only
        rw [ih]
        cases parseI (j + 1) r <;> rfl
theorem parse_isB : ∀ {L : List (List Int)} {k : Nat} {ds : List DV}, parseI k L = .inr ds → ∀ d ∈ ds, isB (d.2.1.getD [])
  | [], k, ds, h, d, hd => by cases h; exact absurd hd List.not_mem_nil
  | s :: r, k, ds, h, d, hd => by
    rw [parseI] at h
    cases hs : s == [] with
    | true => rw [hs] at h; exact parse_isB h d hd
    | false =>
      rw [hs, cond_false] at h
      cases hl : lineI s with
      | none => rw [hl] at h; cases h
      | some e =>
        rw [hl] at h
        dsimp only at h
        cases hp : parseI (k + 1) r with
        | inl j => rw [hp] at h; cases h
        | inr es =>
          rw [hp] at h
          cases h
          rcases List.mem_cons.1 hd with rfl | hd
          · exact line_isB hl
          · exact parse_isB hp d hd
theorem blank_isB (k : Nat) : isB (blank k) := fun x hx => by
  have := (List.mem_replicate.1 hx).2
  omega
theorem blank_len (k : Nat) : (blank k).length = k := List.length_replicate ..
theorem blank_snoc (k : Nat) : blank (k + 1) = blank k ++ [10] := List.replicate_succ' ..
theorem blank_loop {l : List Int} (k : Nat) (hk : k ≤ 100) (hl : l.length ≤ 3000) : lp_coupletlaw20_FlightBlank_0 l (k : Int) l (k : Int) 0 = some (l, (k : Int), blank k ++ l) := by
  unfold lp_coupletlaw20_FlightBlank_0
  refine loop_spec (Y := List Int × Int × List Int) (step := fun x : List Int × Int × List Int × Int × Int => st_coupletlaw20_FlightBlank_0 x.1 x.2.1 x.2.2.1 x.2.2.2.1 x.2.2.2.2)
    (fun _ => (l, (k : Int), blank k ++ l))
    (fun x => ∃ i : Nat, x = (l, (k : Int), blank i ++ l, (k : Int), (i : Int)) ∧ i ≤ k)
    (fun x => k - x.2.2.2.2.toNat) (fun x ⟨i, hx, q1⟩ => ?_) ⟨0, rfl, Nat.zero_le _⟩ (by dsimp only; omega)
  subst hx
  dsimp only
  unfold st_coupletlaw20_FlightBlank_0
  by_cases hi : i < k
  · right
    have w1 : IntKind.wrap .i64 ((i : Int) + 1) = ((i + 1 : Nat) : Int) := by rw [w64 (by omega) (by omega)]; rfl
    rw [w1, dt (show (i : Int) < (k : Int) by omega), dt (show 1 + (blank i ++ l).length ≤ 4611686018427387904 by rw [List.length_append, blank_len]; omega), cond_true, cond_true]
    exact ⟨_, rfl, ⟨i + 1, rfl, by omega⟩, by dsimp only; omega, rfl⟩
  · left
    rw [df (show ¬ (i : Int) < (k : Int) by omega), cond_false, show i = k by omega]
theorem blank_loop1 {ds : List DV} (h : ∀ d ∈ ds, isB (d.2.1.getD [])) (hl : ds.length ≤ 100000) (b1 b2 b3 b4 : Bool) : lp_coupletlaw20_FlightBlank_1 b1 b2 (ds.map doPV) b3 b4 (ds.map doPV) (((ds.map doPV).length : Nat) : Int) 0 = some (.inl ()) := by
  unfold lp_coupletlaw20_FlightBlank_1
  refine loop_spec (Y := Unit ⊕ Bool) (step := fun x : Bool × Bool × List PV × Bool × Bool × List PV × Int × Int => st_coupletlaw20_FlightBlank_1 x.1 x.2.1 x.2.2.1 x.2.2.2.1 x.2.2.2.2.1 x.2.2.2.2.2.1 x.2.2.2.2.2.2.1 x.2.2.2.2.2.2.2)
    (fun _ => .inl ())
    (fun x => ∃ i : Nat, x = (b1, b2, ds.map doPV, b3, b4, ds.map doPV, (((ds.map doPV).length : Nat) : Int), (i : Int)) ∧ i ≤ ds.length)
    (fun x => ds.length - x.2.2.2.2.2.2.2.toNat) (fun x ⟨i, hx, q1⟩ => ?_) ⟨0, rfl, Nat.zero_le _⟩ (by dsimp only; omega)
  subst hx
  dsimp only
  unfold st_coupletlaw20_FlightBlank_1
  rw [List.length_map]
  by_cases hi : i < ds.length
  · right
    have g1 : ds[i]? = some ds[i] := List.getElem?_eq_getElem hi
    have g4 := pv_get g1
    have hB := h ds[i] (List.getElem_mem hi)
    revert g4 hB
    generalize ds[i] = d
    intro g4 hB
    have w1 : IntKind.wrap .i64 ((i : Int) + 1) = ((i + 1 : Nat) : Int) := by rw [w64 (by omega) (by omega)]; rfl
    have o0 : Shp.ok .str ((PV.cells (doPV d)).getD 0 .nilSl) = true := rfl
    have o1 : Shp.ok (.isl .u8) ((PV.cells (doPV d)).getD 1 .nilSl) = true := by
      show Shp.ok (.isl .u8) (wordPV d.2.1) = true
      cases d.2.1 <;> rfl
    have o2 : Shp.ok (.int .i64) ((PV.cells (doPV d)).getD 2 .nilSl) = true := rfl
    have o3 : Shp.ok (.int .i64) ((PV.cells (doPV d)).getD 3 .nilSl) = true := rfl
    have o4 : Shp.ok (.int .i64) ((PV.cells (doPV d)).getD 4 .nilSl) = true := rfl
    simp only [Int.toNat_natCast, w1, dt (show (i : Int) < ((ds.length : Nat) : Int) by omega), dt (show (0 : Int) ≤ (i : Int) by omega), dt hi, g4, pv_len, pv_ok, o0, o1, o2, o3, o4, cond_true, decide_true]
    refine ⟨(b1, b2, ds.map doPV, b3, b4, ds.map doPV, ((ds.length : Nat) : Int), ((i + 1 : Nat) : Int)), ?_, ⟨i + 1, rfl, by omega⟩, by dsimp only; omega, trivial⟩
    change (go_coupletlaw20_same d.1 (PV.nl (wordPV d.2.1)) (PV.ex (wordPV d.2.1)) (PV.ints (wordPV d.2.1)) d.2.2.1 d.2.2.2.1 d.2.2.2.2 d.1 (PV.nl (wordPV d.2.1)) (PV.ex (wordPV d.2.1)) (PV.ints (wordPV d.2.1)) d.2.2.1 d.2.2.2.1 d.2.2.2.2).bind _ = _
    rw [same_law (by rw [word_ints]; exact hB) rfl]; rfl
  · left
    rw [df (show ¬ (i : Int) < ((ds.length : Nat) : Int) by omega), cond_false]
theorem parse_len : ∀ {L : List (List Int)} {k : Nat} {ds : List DV}, parseI k L = .inr ds → ds.length ≤ L.length
  | [], k, ds, h => by cases h; exact Nat.le_refl _
  | s :: r, k, ds, h => by
    rw [parseI] at h
    cases hs : s == [] with
    | true => rw [hs] at h; have := parse_len h; rw [List.length_cons]; omega
    | false =>
      rw [hs, cond_false] at h
      cases hl : lineI s with
      | none => rw [hl] at h; cases h
      | some e =>
        rw [hl] at h
        dsimp only at h
        cases hp : parseI (k + 1) r with
        | inl j => rw [hp] at h; cases h
        | inr es =>
          rw [hp] at h
          cases h
          have := parse_len hp
          rw [List.length_cons, List.length_cons]; omega
theorem blank_app {k : Nat} {l : List Int} (hb : isB l) : isB (blank k ++ l) := fun x hx => by
  rcases List.mem_append.1 hx with hx | hx
  · exact blank_isB k x hx
  · exact hb x hx
def readV (L : List (List Int)) (k : Nat) : Bool × Bool × List PV × Int × Int := match parseI 0 L with
  | .inl j => (true, true, [], ((j + k : Nat) : Int), 4)
  | .inr ds => (ds.isEmpty, ds.isEmpty, ds.map doPV, ((L.length + k : Nat) : Int), 0)
theorem parse_blank {l : List Int} (hb : isB l) (k : Nat) (hk : k ≤ 100) (hl : l.length ≤ 3000) (h : l ≠ [] ∨ k = 0) : go_flight_Parse (blank k ++ l) = some (readV (cutC 10 (trimNL l)) k) := by
  rw [parse_law (blank_app hb) (by rw [List.length_append, blank_len]; omega)]
  have e : cutC 10 (trimNL (blank k ++ l)) = empties k ++ cutC 10 (trimNL l) := by
    rcases h with h | h
    · rw [trim_app h, cut_blank]
    · subst h; rfl
  rw [e, parse_empties, parse_shift]
  unfold readV
  cases parseI 0 (cutC 10 (trimNL l)) with
  | inl j => rfl
  | inr ds =>
    show some (_, _, _, (((empties k ++ cutC 10 (trimNL l)).length : Nat) : Int), _) = _
    rw [List.length_append, show (empties k).length = k from List.length_replicate .., Nat.add_comm]
theorem parse_rep (k : Nat) (hk : k + 1 ≤ 65536) : go_flight_Parse (blank (k + 1)) = some (true, true, [], ((k + 1 : Nat) : Int), 0) := by
  rw [parse_law (blank_isB _) (by rw [blank_len]; omega), blank_snoc, trim_snoc]
  have e : cutC 10 (blank k) = empties (k + 1) ++ [] := by
    have := cut_blank k []
    rw [List.append_nil] at this
    rw [this, List.append_nil]
    unfold empties
    rw [List.replicate_succ']; rfl
  rw [e, parse_empties, parseI]
  dsimp only [List.isEmpty_nil, List.map_nil]
  rw [List.append_nil, show (empties (k + 1)).length = k + 1 from List.length_replicate ..]
  rfl
theorem true_FlightBlank {l : List Int} (hb : isB l) {n : Int} (hn : 0 ≤ n ∧ n < 256) : go_coupletlaw20_FlightBlank l n = some true := by
  unfold go_coupletlaw20_FlightBlank
  by_cases hl : ((l.length : Nat) : Int) > 3000
  · rw [dt hl, cond_true, awake_law]; rfl
  obtain ⟨k, hk, hk1⟩ : ∃ k : Nat, Int.tmod (IntKind.wrap .i64 n) 20 = (k : Int) ∧ k ≤ 100 := by
    refine ⟨(n % 20).toNat, ?_, by omega⟩
    rw [w64 (by omega) (by omega), Int.tmod_eq_emod_of_nonneg hn.1]; omega
  rw [df hl, cond_false, hk, blank_loop k hk1 (by omega), Option.bind_some]
  dsimp only
  have h0 := parse_blank hb 0 (by decide) (by omega) (.inr rfl)
  rw [show blank 0 ++ l = l from rfl] at h0
  rw [h0, Option.bind_some]
  have fin : (l ≠ [] ∨ k = 0) → (go_flight_Parse (blank k ++ l)).bind (fun r10 => bif ((readV (cutC 10 (trimNL l)) 0).2.2.2.2 != r10.2.2.2.2) then
     some false
    else
     bif (r10.2.2.2.1 != (IntKind.wrap .i64 ((readV (cutC 10 (trimNL l)) 0).2.2.2.1 + (k : Int)))) then
      some false
     else
      bif ((((List.length (readV (cutC 10 (trimNL l)) 0).2.2.1) : Nat) : Int) != (((List.length r10.2.2.1) : Nat) : Int)) then
       some false
      else
       (lp_coupletlaw20_FlightBlank_1 (readV (cutC 10 (trimNL l)) 0).1 (readV (cutC 10 (trimNL l)) 0).2.1 (readV (cutC 10 (trimNL l)) 0).2.2.1 r10.1 r10.2.1 r10.2.2.1 (((List.length (readV (cutC 10 (trimNL l)) 0).2.2.1) : Nat) : Int) 0).bind fun y25 =>
       Sum.elim (fun z26 =>
        (go_coupletlaw20_awake).bind fun r27 =>
        some r27) (fun z28 =>
        some z28) y25) = some true := fun hc => by
    rw [parse_blank hb k hk1 (by omega) hc, Option.bind_some]
    have hlen := (cut_len (c := 10) (trimNL l)).1
    have htl := trimNL_len l
    generalize cutC 10 (trimNL l) = L at hlen ⊢
    have pl : ∀ j, parseI 0 L = .inl j → j ≤ L.length := by
      have : ∀ (M : List (List Int)) (a j : Nat), parseI a M = .inl j → j ≤ a + M.length := by
        intro M
        induction M with
        | nil => intro a j h; cases h
        | cons s r ih =>
          intro a j h
          rw [parseI] at h
          rw [List.length_cons]
          cases hs : s == [] with
          | true => rw [hs] at h; have := ih _ _ h; omega
          | false =>
            rw [hs, cond_false] at h
            cases hl : lineI s with
            | none => rw [hl] at h; cases h; omega
            | some e =>
              rw [hl] at h
              dsimp only at h
              cases hp : parseI (a + 1) r with
              | inl m => rw [hp] at h; cases h; have := ih _ _ hp; omega
              | inr es => rw [hp] at h; cases h
      intro j h
      have := this L 0 j h
      omega
    unfold readV
    cases hp : parseI 0 L with
    | inl j =>
      have := pl j hp
      have hz : lp_coupletlaw20_FlightBlank_1 true true [] true true [] (((List.length ([] : List PV)) : Nat) : Int) 0 = some (.inl ()) := blank_loop1 (ds := []) (fun d hd => absurd hd List.not_mem_nil) (by decide) true true true true
      dsimp only
      rw [bne_self_eq_false, cond_false, show (((j + k : Nat) : Int) != IntKind.wrap .i64 (((j + 0 : Nat) : Int) + (k : Int))) = false from by
        rw [w64 (by omega) (by omega), bne_eq_false_iff_eq]; omega, cond_false, bne_self_eq_false, cond_false,
        hz, Option.bind_some, awake_law]
      rfl
    | inr ds =>
      have hB := parse_isB hp
      have hL := parse_len hp
      dsimp only
      rw [bne_self_eq_false, cond_false, show (((L.length + k : Nat) : Int) != IntKind.wrap .i64 (((L.length + 0 : Nat) : Int) + (k : Int))) = false from by
        rw [w64 (by omega) (by omega), bne_eq_false_iff_eq]; omega, cond_false, bne_self_eq_false, cond_false,
        blank_loop1 hB (by omega), Option.bind_some, awake_law]
      rfl
  cases he : l == [] with
  | false =>
    simp only [cond_false]
    exact fin (.inl (beq_eq_false_iff_ne.1 he))
  | true =>
    simp only [cond_true]
    cases k with
    | zero => exact fin (.inr rfl)
    | succ k =>
      have e := eq_of_beq he
      subst e
      rw [List.append_nil, parse_rep k (by omega), Option.bind_some]
      simp only [dt (show (((k + 1 : Nat) : Int) > 0) by omega), cond_true, beq_self_eq_true, awake_law]
      rfl
end Go.Proofs
end
set_option linter.unusedVariables false
noncomputable section
namespace Go.Proofs
open Go Go.Fx
theorem wf_u8 {n : Int} (h : (Lit.int .u8 n).wf = true) : 0 ≤ n ∧ n < 256 := by
  simp only [Lit.wf, Bool.and_eq_true, decide_eq_true_eq] at h
  have h1 : 0 ≤ n := h.1
  have h2 : n ≤ 255 := h.2
  exact ⟨h1, by omega⟩
theorem law_FlightBlank {l : List Int} {n : Int} (w : l.length ≤ maxLen) (c : ∀ x ∈ l, 0 ≤ x ∧ x < 256) (h : (Lit.int .u8 n).wf = true) : go_coupletlaw20_FlightBlank l n = some true := true_FlightBlank c (wf_u8 h)
end Go.Proofs
end
