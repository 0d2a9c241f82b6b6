/-
  The law ScanFinds (plain).
-/
import Derived.Test.YtajphaljpkeecaaDoorWWire
import Derived.Test.YtajphaljpkeecaaDoorWSPb
import Derived.Test.YtajphaljpkeecaaDoorWGC0
import Derived.Test.YtajphaljpkeecaaDoorWGC12
import Derived.Test.YtajphaljpkeecaaDoorWSFp
import Derived.Test.YtajphaljpkeecaaDoorWGC13
import Derived.Test.YtajphaljpkeecaaDoorFxRng
import Derived.Test.YtajphaljpkeecaaDoorFxAny
import Derived.Test.YtajphaljpkeecaaDoorChecked
import Derived.Test.YtajphaljpkeecaaDoorWLS5
set_option linter.unusedVariables false
set_option maxRecDepth 100000
noncomputable section
namespace Go.Proofs
open Go Go.Fx
def xo_coupletlaw13_ScanFinds_0 : OT := (.alt 0 (.alt 1 (.alt 2 (.one 3 (.one 4 (.one 5 .done))) (.alt 3 (.one 2 (.one 4 (.one 5 .done))) .no)) (.alt 2 (.alt 1 (.one 3 (.one 4 (.one 5 .done))) (.alt 3 (.alt 1 (.one 4 (.one 5 .done)) (.alt 4 (.one 1 (.one 5 .done)) .no)) .no)) (.alt 3 (.alt 1 (.one 2 (.one 4 (.one 5 .done))) (.alt 2 (.alt 1 (.one 4 (.one 5 .done)) (.alt 4 (.one 1 (.one 5 .done)) .no)) .no)) .no))) (.alt 2 (.alt 0 (.alt 1 (.one 3 (.one 4 (.one 5 .done))) (.alt 3 (.alt 1 (.one 4 (.one 5 .done)) (.alt 4 (.one 1 (.one 5 .done)) .no)) .no)) (.alt 3 (.alt 0 (.alt 1 (.one 4 (.one 5 .done)) (.alt 4 (.one 1 (.one 5 .done)) .no)) (.alt 4 (.one 0 (.one 1 (.one 5 .done))) .no)) .no)) (.alt 3 (.alt 0 (.alt 1 (.one 2 (.one 4 (.one 5 .done))) (.alt 2 (.alt 1 (.one 4 (.one 5 .done)) (.alt 4 (.one 1 (.one 5 .done)) .no)) .no)) (.alt 2 (.alt 0 (.alt 1 (.one 4 (.one 5 .done)) (.alt 4 (.one 1 (.one 5 .done)) .no)) (.alt 4 (.one 0 (.one 1 (.one 5 .done))) .no)) .no)) .no)))
def xl_coupletlaw13_ScanFinds_0 : List XOp := [⟨⟨(some 18), (.ld false 1 (.tmp 1)), none⟩, (some (.isl .u8))⟩, ⟨⟨(some 19), (.len (.tmp 18)), none⟩, none⟩, ⟨⟨(some 4), (.alloc 3 [(.int .i64 (0))]), none⟩, none⟩, ⟨⟨(some 5), (.alloc 3 [(.int .i64 (0))]), none⟩, none⟩, ⟨⟨none, (.st 1 (.tmp 4) (.c (.int .i64 (0)))), none⟩, none⟩, ⟨⟨none, (.st 1 (.tmp 5) (.tmp 19)), none⟩, none⟩]
def xf_coupletlaw13_ScanFinds_1 : Opd := (.tmp 24)
def xa_coupletlaw13_ScanFinds_1 : XR := (.seq (.ops false [⟨⟨(some 7), (.mv (.tmp 25)), none⟩, none⟩]) (.ops false [⟨⟨(some 8), (.alloc 24 [(.int .i64 (0)), (.int .i64 (0)), (.int .i64 (0)), (.isl true true .i64 [])]), none⟩, none⟩, ⟨⟨none, (.st 4 (.tmp 8) (.tmp 26)), none⟩, none⟩]))
def xb_coupletlaw13_ScanFinds_1 : XR := (.block 1 (.seq (.seq (.ops false [⟨⟨(some 27), (.ld false 1 (.tmp 4)), none⟩, (some (.int .i64))⟩, ⟨⟨(some 28), (.ld false 1 (.tmp 3)), none⟩, (some (.isl .i64))⟩, ⟨⟨(some 29), (.len (.tmp 28)), none⟩, none⟩, ⟨⟨(some 30), (.bin .geq (.tmp 27) (.tmp 29)), none⟩, none⟩, ⟨⟨(some 31), (.mv (.tmp 30)), none⟩, none⟩, ⟨⟨(some 32), (.mv (.tmp 7)), (some (31, false))⟩, none⟩, ⟨⟨(some 33), (.ld false 1 (.tmp 3)), (some (31, false))⟩, (some (.isl .i64))⟩, ⟨⟨(some 34), (.ld false 1 (.tmp 4)), (some (31, false))⟩, (some (.int .i64))⟩, ⟨⟨(some 35), (.ixA 1 (.tmp 33) (.tmp 34)), (some (31, false))⟩, none⟩, ⟨⟨(some 36), (.ld false 1 (.tmp 35)), (some (31, false))⟩, (some (.int .i64))⟩, ⟨⟨(some 37), (.bin .neq (.tmp 32) (.tmp 36)), (some (31, false))⟩, none⟩, ⟨⟨(some 38), (.pick (.tmp 31) (.c (.bool true)) (.tmp 37)), none⟩, none⟩, ⟨⟨(some 39), (.mv (.tmp 38)), none⟩, none⟩, ⟨⟨(some 40), (.ld true 4 (.tmp 8)), (some (39, false))⟩, (some (.agg [(.int .i64), (.int .i64), (.int .i64), (.isl .i64)]))⟩, ⟨⟨(some 41), (.call (.func 25) [(.tmp 40)]), (some (39, false))⟩, none⟩, ⟨⟨(some 42), (.call (.func 24) [(.tmp 41)]), (some (39, false))⟩, none⟩, ⟨⟨(some 43), (.un .not (.tmp 42)), (some (39, false))⟩, none⟩, ⟨⟨(some 44), (.pick (.tmp 39) (.c (.bool true)) (.tmp 43)), none⟩, none⟩]) (.cond (.tmp 44) (.seq (.ops false [⟨⟨none, (.st 1 (.tmp 2) (.c (.bool false))), none⟩, none⟩]) .ret) .skip)) (.seq (.ops false [⟨⟨(some 45), (.ld false 1 (.tmp 1)), none⟩, (some (.isl .u8))⟩, ⟨⟨(some 46), (.mv (.tmp 7)), none⟩, none⟩, ⟨⟨(some 47), (.slc 1 (.tmp 45) (some (.tmp 46)) none none), none⟩, none⟩, ⟨⟨(some 48), (.call (.func 43) [(.tmp 47)]), none⟩, none⟩, ⟨⟨(some 9), (.mv (.tmp 48)), none⟩, none⟩]) (.seq (.seq (.ops true [⟨⟨(some 49), (.ld true 4 (.tmp 8)), none⟩, (some (.agg [(.int .i64), (.int .i64), (.int .i64), (.isl .i64)]))⟩, ⟨⟨(some 50), (.call (.func 25) [(.tmp 49)]), none⟩, none⟩, ⟨⟨(some 51), (.call (.func 28) [(.tmp 50)]), none⟩, none⟩, ⟨⟨(some 52), (.cvtBS (.tmp 51)), none⟩, none⟩, ⟨⟨(some 53), (.ld false 1 (.tmp 1)), none⟩, (some (.isl .u8))⟩, ⟨⟨(some 54), (.mv (.tmp 7)), none⟩, none⟩, ⟨⟨(some 55), (.mv (.tmp 7)), none⟩, none⟩, ⟨⟨(some 56), (.mv (.tmp 9)), none⟩, none⟩, ⟨⟨(some 57), (.bin .add (.tmp 55) (.tmp 56)), none⟩, none⟩, ⟨⟨(some 58), (.slc 1 (.tmp 53) (some (.tmp 54)) (some (.tmp 57)) none), none⟩, none⟩, ⟨⟨(some 59), (.cvtBS (.tmp 58)), none⟩, none⟩, ⟨⟨(some 60), (.binS .neq (.tmp 52) (.tmp 59)), none⟩, none⟩]) (.cond (.tmp 60) (.seq (.ops false [⟨⟨none, (.st 1 (.tmp 2) (.c (.bool false))), none⟩, none⟩]) .ret) .skip)) (.seq (.ops false [⟨⟨(some 61), (.ld false 1 (.tmp 5)), none⟩, (some (.int .i64))⟩, ⟨⟨(some 62), (.mv (.tmp 9)), none⟩, none⟩, ⟨⟨(some 63), (.bin .sub (.tmp 61) (.tmp 62)), none⟩, none⟩, ⟨⟨none, (.st 1 (.tmp 5) (.tmp 63)), none⟩, none⟩]) (.ops false [⟨⟨(some 64), (.ld false 1 (.tmp 4)), none⟩, (some (.int .i64))⟩, ⟨⟨(some 65), (.bin .add (.tmp 64) (.c (.int .i64 (1)))), none⟩, none⟩, ⟨⟨none, (.st 1 (.tmp 4) (.tmp 65)), none⟩, none⟩]))))))
def xr_coupletlaw13_ScanFinds : XR := (.seq (.ops false [⟨⟨(some 1), (.box 26 (.tmp 0)), none⟩, none⟩, ⟨⟨(some 2), (.alloc 4 [(.bool false)]), none⟩, none⟩]) (.seq (.seq (.ops false [⟨⟨(some 12), (.ld false 1 (.tmp 1)), none⟩, (some (.isl .u8))⟩, ⟨⟨(some 13), (.len (.tmp 12)), none⟩, none⟩, ⟨⟨(some 14), (.bin .gtr (.tmp 13) (.c (.int .i64 (1500)))), none⟩, none⟩]) (.cond (.tmp 14) (.seq (.ops false [⟨⟨(some 15), (.call (.func 40) []), none⟩, none⟩, ⟨⟨none, (.st 1 (.tmp 2) (.tmp 15)), none⟩, none⟩]) .ret) .skip)) (.seq (.ops false [⟨⟨(some 16), (.ld false 1 (.tmp 1)), none⟩, (some (.isl .u8))⟩, ⟨⟨(some 17), (.call (.func 41) [(.tmp 16)]), none⟩, none⟩, ⟨⟨(some 3), (.alloc 22 [(.isl true true .i64 [])]), none⟩, none⟩, ⟨⟨none, (.st 1 (.tmp 3) (.tmp 17)), none⟩, none⟩]) (.seq (.any 0 [1, 2, 3] xo_coupletlaw13_ScanFinds_0 xl_coupletlaw13_ScanFinds_0) (.seq (.ops false [⟨⟨(some 20), (.ld false 1 (.tmp 1)), none⟩, (some (.isl .u8))⟩, ⟨⟨(some 21), (.call (.func 42) [(.tmp 20)]), none⟩, none⟩, ⟨⟨(some 6), (.mv (.tmp 21)), none⟩, none⟩]) (.seq (.seq (.ops false [⟨⟨(some 22), (.mv (.tmp 6)), none⟩, none⟩, ⟨⟨(some 23), (.eqNilF false (.tmp 22) (.c .nilFn)), none⟩, none⟩]) (.cond (.tmp 23) (.seq (.ops false [⟨⟨none, (.st 1 (.tmp 2) (.c (.bool false))), none⟩, none⟩]) .ret) .skip)) (.seq (.seq (.ops false [⟨⟨(some 24), (.mv (.tmp 6)), none⟩, none⟩]) (.block 0 (.range 1 [1, 2, 3, 4, 5, 24] xf_coupletlaw13_ScanFinds_1 [25, 26] xa_coupletlaw13_ScanFinds_1 xb_coupletlaw13_ScanFinds_1))) (.seq (.ops false [⟨⟨(some 67), (.ld false 1 (.tmp 1)), none⟩, (some (.isl .u8))⟩, ⟨⟨(some 68), (.call (.func 44) [(.tmp 67)]), none⟩, none⟩, ⟨⟨(some 66), (.mv (.tmp 68)), none⟩, none⟩, ⟨⟨(some 69), (.ext (.tmp 66) 0), none⟩, none⟩, ⟨⟨(some 70), (.ext (.tmp 66) 1), none⟩, none⟩, ⟨⟨(some 10), (.mv (.tmp 69)), none⟩, none⟩, ⟨⟨(some 11), (.mv (.tmp 70)), none⟩, none⟩]) (.seq (.ops true [⟨⟨(some 71), (.ld false 1 (.tmp 4)), none⟩, (some (.int .i64))⟩, ⟨⟨(some 72), (.ld false 1 (.tmp 3)), none⟩, (some (.isl .i64))⟩, ⟨⟨(some 73), (.len (.tmp 72)), none⟩, none⟩, ⟨⟨(some 74), (.bin .eql (.tmp 71) (.tmp 73)), none⟩, none⟩, ⟨⟨(some 75), (.mv (.tmp 74)), none⟩, none⟩, ⟨⟨(some 76), (.mv (.tmp 10)), (some (75, true))⟩, none⟩, ⟨⟨(some 77), (.len (.tmp 76)), (some (75, true))⟩, none⟩, ⟨⟨(some 78), (.ld false 1 (.tmp 4)), (some (75, true))⟩, (some (.int .i64))⟩, ⟨⟨(some 79), (.bin .eql (.tmp 77) (.tmp 78)), (some (75, true))⟩, none⟩, ⟨⟨(some 80), (.pick (.tmp 75) (.tmp 79) (.c (.bool false))), none⟩, none⟩, ⟨⟨(some 81), (.mv (.tmp 80)), none⟩, none⟩, ⟨⟨(some 82), (.mv (.tmp 11)), (some (81, true))⟩, none⟩, ⟨⟨(some 83), (.ld false 1 (.tmp 5)), (some (81, true))⟩, (some (.int .i64))⟩, ⟨⟨(some 84), (.bin .eql (.tmp 82) (.tmp 83)), (some (81, true))⟩, none⟩, ⟨⟨(some 85), (.pick (.tmp 81) (.tmp 84) (.c (.bool false))), none⟩, none⟩, ⟨⟨(some 86), (.mv (.tmp 85)), none⟩, none⟩, ⟨⟨(some 87), (.ld false 1 (.tmp 1)), (some (86, true))⟩, (some (.isl .u8))⟩, ⟨⟨(some 88), (.call (.func 45) [(.tmp 87)]), (some (86, true))⟩, none⟩, ⟨⟨(some 89), (.ld false 1 (.tmp 1)), (some (86, true))⟩, (some (.isl .u8))⟩, ⟨⟨(some 90), (.call (.func 43) [(.tmp 89)]), (some (86, true))⟩, none⟩, ⟨⟨(some 91), (.bin .eql (.tmp 88) (.tmp 90)), (some (86, true))⟩, none⟩, ⟨⟨(some 92), (.pick (.tmp 86) (.tmp 91) (.c (.bool false))), none⟩, none⟩, ⟨⟨(some 93), (.mv (.tmp 92)), none⟩, none⟩, ⟨⟨(some 94), (.call (.func 40) []), (some (93, true))⟩, none⟩, ⟨⟨(some 95), (.pick (.tmp 93) (.tmp 94) (.c (.bool false))), none⟩, none⟩, ⟨⟨none, (.st 1 (.tmp 2) (.tmp 95)), none⟩, none⟩]) .ret)))))))))
def rs_coupletlaw13_ScanFinds : List ResultVar := [(.cell 2 4)]
theorem ir_coupletlaw13_ScanFinds : compCode Tryd.prog (Tryd.f14.body.getD .skip) [] = some (xr_coupletlaw13_ScanFinds.erase, []) := by kernel_rfl
def gm_coupletlaw13_ScanFinds : Gam := (Gam.fn 40 as_coupletlaw13_awake ga_coupletlaw13_awake em_coupletlaw13_awake (Gam.fn 41 as_coupletref13_Found ga_coupletref13_Found em_coupletref13_Found (Gam.fn 42 as_scan_Frames ga_scan_Frames em_scan_Frames (Gam.fn 25 as_coupletlaw12_Given ga_coupletlaw12_Given em_coupletlaw12_Given (Gam.fn 24 as_coupletref12_Right ga_coupletref12_Right em_coupletref12_Right (Gam.fn 43 as_coupletref13_Size ga_coupletref13_Size em_coupletref13_Size (Gam.fn 28 as_coupletref12_Encode ga_coupletref12_Encode em_coupletref12_Encode (Gam.fn 44 as_scan_All ga_scan_All em_scan_All (Gam.fn 45 as_scan_Size ga_scan_Size em_scan_Size Gam.bot)))))))))
theorem gk_coupletlaw13_ScanFinds : GamOk Tryd.prog GG gm_coupletlaw13_ScanFinds := (GamOk.fn at_coupletlaw13_awake (GamOk.fn at_coupletref13_Found (GamOk.fn at_scan_Frames (GamOk.fn at_coupletlaw12_Given (GamOk.fn at_coupletref12_Right (GamOk.fn at_coupletref13_Size (GamOk.fn at_coupletref12_Encode (GamOk.fn at_scan_All (GamOk.fn at_scan_Size GamOk.bot)))))))))
theorem gn_coupletlaw13_ScanFinds : GamNat gm_coupletlaw13_ScanFinds := (GamNat.fn (GamNat.fn (GamNat.fn (GamNat.fn (GamNat.fn (GamNat.fn (GamNat.fn (GamNat.fn (GamNat.fn GamNat.bot)))))))))
def it_coupletlaw13_ScanFinds_1 (b14 : Bool) (b15 : Bool) (l16 : List Int) (b17 : Bool) (b18 : Bool) (l19 : List Int) (b20 : Bool) (b21 : Bool) (b22 : Bool) (l23 : List Int) (n24 : Int) (n25 : Int) : Option (List (Int × Int × Int × Int × Bool × Bool × List Int)) := it_frames b14 b15 l16
def cp_coupletlaw13_ScanFinds_1 (b14 : Bool) (b15 : Bool) (l16 : List Int) (b17 : Bool) (b18 : Bool) (l19 : List Int) (b20 : Bool) (b21 : Bool) (b22 : Bool) (l23 : List Int) (n24 : Int) (n25 : Int) : List PV := [(.ref 0 [(.isl b14 b15 .u8 l16)])]
def st_coupletlaw13_ScanFinds_1 (b14 : Bool) (b15 : Bool) (l16 : List Int) (b17 : Bool) (b18 : Bool) (l19 : List Int) (b20 : Bool) (b21 : Bool) (b22 : Bool) (l23 : List Int) (n24 : Int) (n25 : Int) (u26 : (Int × Int × Int × Int × Bool × Bool × List Int)) : Option (((Bool × Bool × List Int × Bool × Bool × List Int × Bool × Bool × Bool × List Int × Int × Int)) ⊕ ((Bool))) :=
  bif (decide (n24 ≥ (((List.length l23) : Nat) : Int))) then
   some (Sum.inr false)
  else
   bif (decide (0 ≤ n24)) then
    bif (decide (n24 < (((List.length l23) : Nat) : Int))) then
     bif (decide ((Int.toNat n24) < (List.length l23))) then
      bif (u26.1 != (List.getD l23 (Int.toNat n24) 0)) then
       some (Sum.inr false)
      else
       (go_coupletlaw12_Given u26.2.1 u26.2.2.1 u26.2.2.2.1 u26.2.2.2.2.1 u26.2.2.2.2.2.1 u26.2.2.2.2.2.2).bind fun r27 =>
       (go_coupletref12_Right r27.1 r27.2.1 r27.2.2.1 r27.2.2.2.1 r27.2.2.2.2.1 r27.2.2.2.2.2).bind fun r28 =>
       bif (!r28) then
        some (Sum.inr false)
       else
        bif (decide (0 ≤ u26.1)) then
         bif (decide (u26.1 ≤ (((List.length l19) : Nat) : Int))) then
          bif (decide ((((List.length l19) : Nat) : Int) ≤ (((List.length l19) : Nat) : Int))) then
           (go_coupletref13_Size b17 b18 (List.take (Int.toNat ((((List.length l19) : Nat) : Int) - u26.1)) (List.drop (Int.toNat u26.1) l19))).bind fun r29 =>
           (go_coupletlaw12_Given u26.2.1 u26.2.2.1 u26.2.2.2.1 u26.2.2.2.2.1 u26.2.2.2.2.2.1 u26.2.2.2.2.2.2).bind fun r30 =>
           (go_coupletref12_Encode r30.1 r30.2.1 r30.2.2.1 r30.2.2.2.1 r30.2.2.2.2.1 r30.2.2.2.2.2).bind fun r31 =>
           bif (List.all r31.2.2 (fun x39 => (decide ((0 ≤ x39) ∧ (x39 < 256))))) then
            bif (decide (0 ≤ u26.1)) then
             bif (decide (u26.1 ≤ (IntKind.wrap .i64 (u26.1 + r29)))) then
              bif (decide ((IntKind.wrap .i64 (u26.1 + r29)) ≤ (((List.length l19) : Nat) : Int))) then
               bif (List.all (List.take (Int.toNat ((IntKind.wrap .i64 (u26.1 + r29)) - u26.1)) (List.drop (Int.toNat u26.1) l19)) (fun x40 => (decide ((0 ≤ x40) ∧ (x40 < 256))))) then
                bif (!(r31.2.2 == (List.take (Int.toNat ((IntKind.wrap .i64 (u26.1 + r29)) - u26.1)) (List.drop (Int.toNat u26.1) l19)))) then
                 some (Sum.inr false)
                else
                 some (Sum.inl (b14, b15, l16, b17, b18, l19, b20, b21, b22, l23, (IntKind.wrap .i64 (n24 + 1)), (IntKind.wrap .i64 (n25 - r29))))
               else none
              else none
             else none
            else none
           else none
          else none
         else none
        else none
     else none
    else none
   else none
def lp_coupletlaw13_ScanFinds_1 (b14 : Bool) (b15 : Bool) (l16 : List Int) (b17 : Bool) (b18 : Bool) (l19 : List Int) (b20 : Bool) (b21 : Bool) (b22 : Bool) (l23 : List Int) (n24 : Int) (n25 : Int) : Option (((Bool × Bool × List Int × Bool × Bool × List Int × Bool × Bool × Bool × List Int × Int × Int)) ⊕ ((Bool))) := (it_coupletlaw13_ScanFinds_1 b14 b15 l16 b17 b18 l19 b20 b21 b22 l23 n24 n25).bind fun is => foldS (X := (Bool × Bool × List Int × Bool × Bool × List Int × Bool × Bool × Bool × List Int × Int × Int)) (fun x i => st_coupletlaw13_ScanFinds_1 x.1 x.2.1 x.2.2.1 x.2.2.2.1 x.2.2.2.2.1 x.2.2.2.2.2.1 x.2.2.2.2.2.2.1 x.2.2.2.2.2.2.2.1 x.2.2.2.2.2.2.2.2.1 x.2.2.2.2.2.2.2.2.2.1 x.2.2.2.2.2.2.2.2.2.2.1 x.2.2.2.2.2.2.2.2.2.2.2 i) is (b14, b15, l16, b17, b18, l19, b20, b21, b22, l23, n24, n25)
def sh_coupletlaw13_ScanFinds_1 : StSh := ⟨96, [(1, (.ptr 0 0)), (2, (.ptr 1 0)), (3, (.ptr 2 0)), (4, (.ptr 3 0)), (5, (.ptr 4 0)), (24, (.p (.fn 64 [(.ref 0 [(.isl .u8)])])))], [(.box 26 [(.p (.isl .u8))]), (.box 4 [(.p .bool)]), (.box 22 [(.p (.isl .i64))]), (.box 3 [(.p (.int .i64))]), (.box 3 [(.p (.int .i64))])]⟩
def sx_coupletlaw13_ScanFinds_1 (x : (Bool × Bool × List Int × Bool × Bool × List Int × Bool × Bool × Bool × List Int × Int × Int)) : St := ⟨slots 96 0 [(1, (.ptr 0 0)), (2, (.ptr 1 0)), (3, (.ptr 2 0)), (4, (.ptr 3 0)), (5, (.ptr 4 0)), (24, (.p (.fn 64 [(.ref 0 [(.isl x.1 x.2.1 .u8 x.2.2.1)])])))], [(.box 26 [(.p (.isl x.2.2.2.1 x.2.2.2.2.1 .u8 x.2.2.2.2.2.1))]), (.box 4 [(.p (.bool x.2.2.2.2.2.2.1))]), (.box 22 [(.p (.isl x.2.2.2.2.2.2.2.1 x.2.2.2.2.2.2.2.2.1 .i64 x.2.2.2.2.2.2.2.2.2.1))]), (.box 3 [(.p (.int .i64 x.2.2.2.2.2.2.2.2.2.2.1))]), (.box 3 [(.p (.int .i64 x.2.2.2.2.2.2.2.2.2.2.2))])]⟩
def sa_coupletlaw13_ScanFinds_1 (S : St) : (Bool × Bool × List Int × Bool × Bool × List Int × Bool × Bool × Bool × List Int × Int × Int) := (((((tls 24 S.t).headD .any).pv.subs.headD .nilSl).subs.headD .nilSl).nl, ((((tls 24 S.t).headD .any).pv.subs.headD .nilSl).subs.headD .nilSl).ex, ((((tls 24 S.t).headD .any).pv.subs.headD .nilSl).subs.headD .nilSl).ints, (((tls 0 S.own).headD .gone).subs.headD .any).pv.nl, (((tls 0 S.own).headD .gone).subs.headD .any).pv.ex, (((tls 0 S.own).headD .gone).subs.headD .any).pv.ints, (((tls 1 S.own).headD .gone).subs.headD .any).pv.tru, (((tls 2 S.own).headD .gone).subs.headD .any).pv.nl, (((tls 2 S.own).headD .gone).subs.headD .any).pv.ex, (((tls 2 S.own).headD .gone).subs.headD .any).pv.ints, (((tls 3 S.own).headD .gone).subs.headD .any).pv.num, (((tls 4 S.own).headD .gone).subs.headD .any).pv.num)
def tz_coupletlaw13_ScanFinds_1_0 : StSh := ⟨96, [(2, (.ptr 0 0))], [(.box 4 [(.p .bool)])]⟩
def tx_coupletlaw13_ScanFinds_1_0 (x : Bool) : St := ⟨slots 96 0 [(2, (.ptr 0 0))], [(.box 4 [(.p (.bool x))])]⟩
def ta_coupletlaw13_ScanFinds_1_0 (S : St) : Bool := (((tls 0 S.own).headD .gone).subs.headD .any).pv.tru
def kb_coupletlaw13_ScanFinds_1 : Exit → St → Tree (((Bool × Bool × List Int × Bool × Bool × List Int × Bool × Bool × Bool × List Int × Int × Int)) ⊕ ((Bool))) := (exOne .ret [2] tz_coupletlaw13_ScanFinds_1_0 ta_coupletlaw13_ScanFinds_1_0 (fun y => Sum.inr (y)) exNil)
def ky_coupletlaw13_ScanFinds_1 : Dec ((Bool)) := fun _ y ke => ke (.ret : EK).ex (tx_coupletlaw13_ScanFinds_1_0 y)
theorem kk_coupletlaw13_ScanFinds_1 : ExOk Sum.inr kb_coupletlaw13_ScanFinds_1 ky_coupletlaw13_ScanFinds_1 := (ExOk.one (acc := ta_coupletlaw13_ScanFinds_1_0) (bY := tx_coupletlaw13_ScanFinds_1_0) (inj1 := fun y => y) (fun S => by kernel_rfl) (fun y _ ke => .inr (by kernel_rfl)) ExOk.nil)
def st_coupletlaw13_ScanFinds_0 (b5 : Bool) (b6 : Bool) (l7 : List Int) (b8 : Bool) (b9 : Bool) (b10 : Bool) (l11 : List Int) : Option (((Bool × Bool × List Int × Bool × Bool × Bool × List Int × Int × Int))) :=
  some (b5, b6, l7, b8, b9, b10, l11, 0, (((List.length l7) : Nat) : Int))
def lp_coupletlaw13_ScanFinds_0 (b5 : Bool) (b6 : Bool) (l7 : List Int) (b8 : Bool) (b9 : Bool) (b10 : Bool) (l11 : List Int) : Option (((Bool × Bool × List Int × Bool × Bool × Bool × List Int × Int × Int))) := st_coupletlaw13_ScanFinds_0 b5 b6 l7 b8 b9 b10 l11
def sh_coupletlaw13_ScanFinds_0 : StSh := ⟨96, [(1, (.ptr 0 0)), (2, (.ptr 1 0)), (3, (.ptr 2 0))], [(.box 26 [(.p (.isl .u8))]), (.box 4 [(.p .bool)]), (.box 22 [(.p (.isl .i64))])]⟩
def sx_coupletlaw13_ScanFinds_0 (x : (Bool × Bool × List Int × Bool × Bool × Bool × List Int)) : St := ⟨slots 96 0 [(1, (.ptr 0 0)), (2, (.ptr 1 0)), (3, (.ptr 2 0))], [(.box 26 [(.p (.isl x.1 x.2.1 .u8 x.2.2.1))]), (.box 4 [(.p (.bool x.2.2.2.1))]), (.box 22 [(.p (.isl x.2.2.2.2.1 x.2.2.2.2.2.1 .i64 x.2.2.2.2.2.2))])]⟩
def sa_coupletlaw13_ScanFinds_0 (S : St) : (Bool × Bool × List Int × Bool × Bool × Bool × List Int) := ((((tls 0 S.own).headD .gone).subs.headD .any).pv.nl, (((tls 0 S.own).headD .gone).subs.headD .any).pv.ex, (((tls 0 S.own).headD .gone).subs.headD .any).pv.ints, (((tls 1 S.own).headD .gone).subs.headD .any).pv.tru, (((tls 2 S.own).headD .gone).subs.headD .any).pv.nl, (((tls 2 S.own).headD .gone).subs.headD .any).pv.ex, (((tls 2 S.own).headD .gone).subs.headD .any).pv.ints)
def tz_coupletlaw13_ScanFinds_0_0 : StSh := ⟨96, [(1, (.ptr 0 0)), (2, (.ptr 1 0)), (3, (.ptr 2 0)), (4, (.ptr 3 0)), (5, (.ptr 4 0))], [(.box 26 [(.p (.isl .u8))]), (.box 4 [(.p .bool)]), (.box 22 [(.p (.isl .i64))]), (.box 3 [(.p (.int .i64))]), (.box 3 [(.p (.int .i64))])]⟩
def tx_coupletlaw13_ScanFinds_0_0 (x : (Bool × Bool × List Int × Bool × Bool × Bool × List Int × Int × Int)) : St := ⟨slots 96 0 [(1, (.ptr 0 0)), (2, (.ptr 1 0)), (3, (.ptr 2 0)), (4, (.ptr 3 0)), (5, (.ptr 4 0))], [(.box 26 [(.p (.isl x.1 x.2.1 .u8 x.2.2.1))]), (.box 4 [(.p (.bool x.2.2.2.1))]), (.box 22 [(.p (.isl x.2.2.2.2.1 x.2.2.2.2.2.1 .i64 x.2.2.2.2.2.2.1))]), (.box 3 [(.p (.int .i64 x.2.2.2.2.2.2.2.1))]), (.box 3 [(.p (.int .i64 x.2.2.2.2.2.2.2.2))])]⟩
def ta_coupletlaw13_ScanFinds_0_0 (S : St) : (Bool × Bool × List Int × Bool × Bool × Bool × List Int × Int × Int) := ((((tls 0 S.own).headD .gone).subs.headD .any).pv.nl, (((tls 0 S.own).headD .gone).subs.headD .any).pv.ex, (((tls 0 S.own).headD .gone).subs.headD .any).pv.ints, (((tls 1 S.own).headD .gone).subs.headD .any).pv.tru, (((tls 2 S.own).headD .gone).subs.headD .any).pv.nl, (((tls 2 S.own).headD .gone).subs.headD .any).pv.ex, (((tls 2 S.own).headD .gone).subs.headD .any).pv.ints, (((tls 3 S.own).headD .gone).subs.headD .any).pv.num, (((tls 4 S.own).headD .gone).subs.headD .any).pv.num)
def kb_coupletlaw13_ScanFinds_0 : Exit → St → Tree (((Bool × Bool × List Int × Bool × Bool × Bool × List Int × Int × Int))) := (exOne .norm [1, 2, 3, 4, 5] tz_coupletlaw13_ScanFinds_0_0 ta_coupletlaw13_ScanFinds_0_0 (fun y => id (y)) exNil)
def ky_coupletlaw13_ScanFinds_0 : Dec (((Bool × Bool × List Int × Bool × Bool × Bool × List Int × Int × Int))) := fun _ y ke => ke (.norm : EK).ex (tx_coupletlaw13_ScanFinds_0_0 y)
theorem kk_coupletlaw13_ScanFinds_0 : ExOk id kb_coupletlaw13_ScanFinds_0 ky_coupletlaw13_ScanFinds_0 := (ExOk.one (acc := ta_coupletlaw13_ScanFinds_0_0) (bY := tx_coupletlaw13_ScanFinds_0_0) (inj1 := fun y => y) (fun S => by kernel_rfl) (fun y _ ke => .inr (by kernel_rfl)) ExOk.nil)
def lm_coupletlaw13_ScanFinds : Lam := fun _ j S kn ke => match j with
  | 0 => .chk (sh_coupletlaw13_ScanFinds_0.ok S) (.bind ((fun x => st_coupletlaw13_ScanFinds_0 x.1 x.2.1 x.2.2.1 x.2.2.2.1 x.2.2.2.2.1 x.2.2.2.2.2.1 x.2.2.2.2.2.2) (sa_coupletlaw13_ScanFinds_0 S)) fun y => ky_coupletlaw13_ScanFinds_0 _ y (joinK kn ke))
  | 1 => prepT [1, 2, 3, 4, 5, 24] [] S fun S => .chk (sh_coupletlaw13_ScanFinds_1.ok S) (.bind ((fun x => (it_coupletlaw13_ScanFinds_1 x.1 x.2.1 x.2.2.1 x.2.2.2.1 x.2.2.2.2.1 x.2.2.2.2.2.1 x.2.2.2.2.2.2.1 x.2.2.2.2.2.2.2.1 x.2.2.2.2.2.2.2.2.1 x.2.2.2.2.2.2.2.2.2.1 x.2.2.2.2.2.2.2.2.2.2.1 x.2.2.2.2.2.2.2.2.2.2.2).bind fun is => foldS (X := (Bool × Bool × List Int × Bool × Bool × List Int × Bool × Bool × Bool × List Int × Int × Int)) (fun x i => st_coupletlaw13_ScanFinds_1 x.1 x.2.1 x.2.2.1 x.2.2.2.1 x.2.2.2.2.1 x.2.2.2.2.2.1 x.2.2.2.2.2.2.1 x.2.2.2.2.2.2.2.1 x.2.2.2.2.2.2.2.2.1 x.2.2.2.2.2.2.2.2.2.1 x.2.2.2.2.2.2.2.2.2.2.1 x.2.2.2.2.2.2.2.2.2.2.2 i) is x) (sa_coupletlaw13_ScanFinds_1 S)) fun r => .sum r (fun x => kn (sx_coupletlaw13_ScanFinds_1 x)) (fun y => ky_coupletlaw13_ScanFinds_1 _ y ke))
  | _ => .fail
theorem sr_coupletlaw13_ScanFinds_1 (x : (Bool × Bool × List Int × Bool × Bool × List Int × Bool × Bool × Bool × List Int × Int × Int)) (i : (Int × Int × Int × Int × Bool × Bool × List Int)) : (ev GG gm_coupletlaw13_ScanFinds lm_coupletlaw13_ScanFinds xa_coupletlaw13_ScanFinds_1 ⟨setL (sx_coupletlaw13_ScanFinds_1 x).t [25, 26] (ie_frames i), (sx_coupletlaw13_ScanFinds_1 x).own⟩ (fun S1 => ev GG gm_coupletlaw13_ScanFinds lm_coupletlaw13_ScanFinds xb_coupletlaw13_ScanFinds_1 S1 (fun S => forgetT [1, 2, 3, 4, 5, 24] ⟨(sx_coupletlaw13_ScanFinds_1 x).t, S.own⟩ fun S => prepT [1, 2, 3, 4, 5, 24] [] S fun S => .chk (sh_coupletlaw13_ScanFinds_1.ok S) (.leaf (.inl (sa_coupletlaw13_ScanFinds_1 S)))) (fun e S => kb_coupletlaw13_ScanFinds_1 e ⟨(sx_coupletlaw13_ScanFinds_1 x).t, S.own⟩)) (fun _ _ => .fail)).run = st_coupletlaw13_ScanFinds_1 x.1 x.2.1 x.2.2.1 x.2.2.2.1 x.2.2.2.2.1 x.2.2.2.2.2.1 x.2.2.2.2.2.2.1 x.2.2.2.2.2.2.2.1 x.2.2.2.2.2.2.2.2.1 x.2.2.2.2.2.2.2.2.2.1 x.2.2.2.2.2.2.2.2.2.2.1 x.2.2.2.2.2.2.2.2.2.2.2 i := by kernel_rfl
theorem la_coupletlaw13_ScanFinds_1 : LamAt Tryd.prog GG lm_coupletlaw13_ScanFinds 1 (.rangeF xf_coupletlaw13_ScanFinds_1 [25, 26] xa_coupletlaw13_ScanFinds_1.erase xb_coupletlaw13_ScanFinds_1.erase) := lam_range (asg := xa_coupletlaw13_ScanFinds_1) (bdy := xb_coupletlaw13_ScanFinds_1) (Λ0 := lm_coupletlaw13_ScanFinds) gk_coupletlaw13_ScanFinds (by kernel_rfl) (by kernel_rfl) (fun S => (by kernel_rfl : sh_coupletlaw13_ScanFinds_1.build S = sx_coupletlaw13_ScanFinds_1 (sa_coupletlaw13_ScanFinds_1 S))) (caps := fun x => cp_coupletlaw13_ScanFinds_1 x.1 x.2.1 x.2.2.1 x.2.2.2.1 x.2.2.2.2.1 x.2.2.2.2.2.1 x.2.2.2.2.2.2.1 x.2.2.2.2.2.2.2.1 x.2.2.2.2.2.2.2.2.1 x.2.2.2.2.2.2.2.2.2.1 x.2.2.2.2.2.2.2.2.2.2.1 x.2.2.2.2.2.2.2.2.2.2.2) (fun x => (by kernel_rfl : evS GG (sx_coupletlaw13_ScanFinds_1 x) xf_coupletlaw13_ScanFinds_1 = .p (.fn 64 (cp_coupletlaw13_ScanFinds_1 x.1 x.2.1 x.2.2.1 x.2.2.2.1 x.2.2.2.2.1 x.2.2.2.2.2.1 x.2.2.2.2.2.2.1 x.2.2.2.2.2.2.2.1 x.2.2.2.2.2.2.2.2.1 x.2.2.2.2.2.2.2.2.2.1 x.2.2.2.2.2.2.2.2.2.2.1 x.2.2.2.2.2.2.2.2.2.2.2)))) (its := fun x => it_coupletlaw13_ScanFinds_1 x.1 x.2.1 x.2.2.1 x.2.2.2.1 x.2.2.2.2.1 x.2.2.2.2.2.1 x.2.2.2.2.2.2.1 x.2.2.2.2.2.2.2.1 x.2.2.2.2.2.2.2.2.1 x.2.2.2.2.2.2.2.2.2.1 x.2.2.2.2.2.2.2.2.2.2.1 x.2.2.2.2.2.2.2.2.2.2.2) (emb := ie_frames) (fun i => rfl) (fun x is h => sq_frames _ _ _ is h) (step := fun x i => st_coupletlaw13_ScanFinds_1 x.1 x.2.1 x.2.2.1 x.2.2.2.1 x.2.2.2.2.1 x.2.2.2.2.2.1 x.2.2.2.2.2.2.1 x.2.2.2.2.2.2.2.1 x.2.2.2.2.2.2.2.2.1 x.2.2.2.2.2.2.2.2.2.1 x.2.2.2.2.2.2.2.2.2.2.1 x.2.2.2.2.2.2.2.2.2.2.2 i) kk_coupletlaw13_ScanFinds_1 sr_coupletlaw13_ScanFinds_1 (fun _ _ _ => rfl)
theorem sr_coupletlaw13_ScanFinds_0 (x : (Bool × Bool × List Int × Bool × Bool × Bool × List Int)) : xo_coupletlaw13_ScanFinds_0.paths.map (fun p => (evOps GG gm_coupletlaw13_ScanFinds (drOf xl_coupletlaw13_ScanFinds_0) (pickL xl_coupletlaw13_ScanFinds_0 p) (sx_coupletlaw13_ScanFinds_0 x) (kb_coupletlaw13_ScanFinds_0 .normal)).run) = List.replicate 20 (st_coupletlaw13_ScanFinds_0 x.1 x.2.1 x.2.2.1 x.2.2.2.1 x.2.2.2.2.1 x.2.2.2.2.2.1 x.2.2.2.2.2.2) := by kernel_rfl
theorem la_coupletlaw13_ScanFinds_0 : LamAt Tryd.prog GG lm_coupletlaw13_ScanFinds 0 (.any xo_coupletlaw13_ScanFinds_0 (xl_coupletlaw13_ScanFinds_0.map (·.op))) := lam_any gk_coupletlaw13_ScanFinds gn_coupletlaw13_ScanFinds (fun S => (by kernel_rfl : sh_coupletlaw13_ScanFinds_0.build S = sx_coupletlaw13_ScanFinds_0 (sa_coupletlaw13_ScanFinds_0 S))) kk_coupletlaw13_ScanFinds_0 sr_coupletlaw13_ScanFinds_0 (fun _ _ _ => rfl)
def go_coupletlaw13_ScanFinds (b0 : Bool) (b1 : Bool) (l2 : List Int) : Option Bool :=
  bif (decide ((((List.length l2) : Nat) : Int) > 1500)) then
   (go_coupletlaw13_awake).bind fun r3 =>
   some r3
  else
   (go_coupletref13_Found b0 b1 l2).bind fun r4 =>
   (lp_coupletlaw13_ScanFinds_0 b0 b1 l2 false r4.1 r4.2.1 r4.2.2).bind fun y12 =>
   (go_scan_Frames y12.1 y12.2.1 y12.2.2.1).bind fun r13 =>
   (lp_coupletlaw13_ScanFinds_1 r13.1 r13.2.1 r13.2.2 y12.1 y12.2.1 y12.2.2.1 y12.2.2.2.1 y12.2.2.2.2.1 y12.2.2.2.2.2.1 y12.2.2.2.2.2.2.1 y12.2.2.2.2.2.2.2.1 y12.2.2.2.2.2.2.2.2).bind fun y32 =>
   Sum.elim (fun z33 =>
    (go_scan_All z33.2.2.2.1 z33.2.2.2.2.1 z33.2.2.2.2.2.1).bind fun r34 =>
    bif (z33.2.2.2.2.2.2.2.2.2.2.1 == (((List.length z33.2.2.2.2.2.2.2.2.2.1) : Nat) : Int)) then
     bif ((((List.length r34.2.2.1) : Nat) : Int) == z33.2.2.2.2.2.2.2.2.2.2.1) then
      bif (r34.2.2.2 == z33.2.2.2.2.2.2.2.2.2.2.2) then
       (go_scan_Size z33.2.2.2.1 z33.2.2.2.2.1 z33.2.2.2.2.2.1).bind fun r35 =>
       (go_coupletref13_Size z33.2.2.2.1 z33.2.2.2.2.1 z33.2.2.2.2.2.1).bind fun r36 =>
       bif (r35 == r36) then
        (go_coupletlaw13_awake).bind fun r37 =>
        some r37
       else
        some false
      else
       some false
     else
      some false
    else
     some false) (fun z38 =>
    some z38) y32
def em_coupletlaw13_ScanFinds (r : Bool) : PV := (.bool r)
def rh_coupletlaw13_ScanFinds : Shp := .bool
def ra_coupletlaw13_ScanFinds (v : PV) : Bool := v.tru
def kf_coupletlaw13_ScanFinds (v : PV) : Tree Bool := .chk (rh_coupletlaw13_ScanFinds.ok v) (.leaf (ra_coupletlaw13_ScanFinds v))
theorem rn_coupletlaw13_ScanFinds (b0 : Bool) (b1 : Bool) (l2 : List Int) : (ev GG gm_coupletlaw13_ScanFinds lm_coupletlaw13_ScanFinds xr_coupletlaw13_ScanFinds ⟨slots 96 0 [(0, .p (.isl b0 b1 .u8 l2))], []⟩ (fun S => finT Tryd.prog rs_coupletlaw13_ScanFinds S kf_coupletlaw13_ScanFinds) (retT Tryd.prog rs_coupletlaw13_ScanFinds kf_coupletlaw13_ScanFinds)).run = go_coupletlaw13_ScanFinds b0 b1 l2 := by kernel_rfl
theorem ok_coupletlaw13_ScanFinds (b0 : Bool) (b1 : Bool) (l2 : List Int) (r : Bool) (h : go_coupletlaw13_ScanFinds b0 b1 l2 = some r) : FunEq Tryd.prog GG 14 [(.isl b0 b1 .u8 l2)] (em_coupletlaw13_ScanFinds r) :=
  fun_of_ev (x := xr_coupletlaw13_ScanFinds) (Λ := lm_coupletlaw13_ScanFinds) gk_coupletlaw13_ScanFinds [] Tryd.func14 rfl (by kernel_rfl) ir_coupletlaw13_ScanFinds (by kernel_rfl) (congrArg Array.toList Tryd.results14) Tryd.ntmps14 (⟨trivial, ⟨⟨trivial, ⟨⟨trivial, trivial⟩, trivial⟩⟩, ⟨trivial, ⟨la_coupletlaw13_ScanFinds_0, ⟨trivial, ⟨⟨trivial, ⟨⟨trivial, trivial⟩, trivial⟩⟩, ⟨⟨trivial, la_coupletlaw13_ScanFinds_1⟩, ⟨trivial, ⟨trivial, trivial⟩⟩⟩⟩⟩⟩⟩⟩⟩) (leaf_of fun v => (by kernel_rfl : rh_coupletlaw13_ScanFinds.build v = em_coupletlaw13_ScanFinds (ra_coupletlaw13_ScanFinds v))) (by kernel_rfl) ((rn_coupletlaw13_ScanFinds b0 b1 l2).trans h)
end Go.Proofs
end
set_option linter.unusedSimpArgs false
set_option linter.unusedVariables false
set_option maxRecDepth 100000
namespace Go.Proofs
open Go Go.Fx
theorem all_isB {l : List Int} (hl : isB l) : List.all l (fun x => decide (0 ≤ x ∧ x < 256)) = true := List.all_eq_true.2 fun x hx => decide_eq_true (hl x hx)
theorem finds_step (b14 b15 : Bool) (l16 : List Int) (b17 b18 b20 b21 b22 : Bool) (l W : List Int) (hl : isB l) (hn : l.length ≤ 2000) (hW : W.length ≤ 10000) (p k : Nat) (hp : p < l.length) (hh : heads (l.drop p)) (hk : k < W.length) (hWk : W.getD k 0 = (p : Int)) (n : Int) (n0 : 0 ≤ n) (n1 : n ≤ 100000) (hpn : ((sizeV (l.drop p) : Nat) : Int) ≤ n) :
    st_coupletlaw13_ScanFinds_1 b14 b15 l16 b17 b18 l b20 b21 b22 W (k : Int) n (conv (p, fr ((l.drop p).take (sizeV (l.drop p))))) = some (.inl (b14, b15, l16, b17, b18, l, b20, b21, b22, W, ((k + 1 : Nat) : Int), n - ((sizeV (l.drop p) : Nat) : Int))) := by
  have hs1 := hh.1
  have hs2 := hh.2.1
  rw [List.length_drop] at hs2
  have hd : isB ((l.drop p).take (sizeV (l.drop p))) := isB_take (isB_drop hl p) _
  obtain ⟨u, v, _, hf⟩ := dec_good hd (by rw [List.length_take, List.length_drop]; omega) hh.2.2
  have hR := hh.2.2.2
  have hb := R12_b hR
  have hrd := read_bytes hd hh.2.2.1
  have h1 := rfright_at (kd ((l.drop p).take (sizeV (l.drop p)))) (seqN ((l.drop p).take (sizeV (l.drop p)))) (nn ((l.drop p).take (sizeV (l.drop p)))) u v (nums ((l.drop p).take (sizeV (l.drop p))) 0 (mm ((l.drop p).take (sizeV (l.drop p))))) (by omega)
  have h2 := rencode_at (q := seqN ((l.drop p).take (sizeV (l.drop p)))) u v hb.1 hb.2.1 (Nat.le_trans hb.2.2 (by decide))
  rw [decide_eq_true hR] at h1
  rw [hrd] at h2
  unfold st_coupletlaw13_ScanFinds_1 conv
  rw [hf]
  dsimp only
  simp only [given_at, Option.bind_some, h1, h2]
  rw [show ((((l.length : Nat) : Int) - ((p : Nat) : Int)).toNat) = l.length - p by omega, Int.toNat_natCast, Int.toNat_natCast, show List.take (l.length - p) (l.drop p) = l.drop p from List.take_of_length_le (by rw [List.length_drop]; exact Nat.le_refl _), rsize_at b17 b18 _ (isB_drop hl p), hWk]
  simp only [Option.bind_some]
  rw [w64 (a := (p : Int) + ((sizeV (l.drop p) : Nat) : Int)) (by omega) (by omega), show ((p : Int) + ((sizeV (l.drop p) : Nat) : Int) - (p : Int)).toNat = sizeV (l.drop p) by omega, all_isB hd, w64 (a := n - ((sizeV (l.drop p) : Nat) : Int)) (by omega) (by omega), inc64 (by omega),
    decide_eq_false (show ¬ (k : Int) ≥ ((W.length : Nat) : Int) by omega), decide_eq_true (show (0 : Int) ≤ (k : Int) by omega), decide_eq_true (show (k : Int) < ((W.length : Nat) : Int) by omega), decide_eq_true hk, bne_self_eq_false,
    decide_eq_true (show (0 : Int) ≤ (p : Int) by omega), decide_eq_true (show (p : Int) ≤ ((l.length : Nat) : Int) by omega), decide_eq_true (Int.le_refl _), decide_eq_true (show (p : Int) ≤ (p : Int) + ((sizeV (l.drop p) : Nat) : Int) by omega), decide_eq_true (show (p : Int) + ((sizeV (l.drop p) : Nat) : Int) ≤ ((l.length : Nat) : Int) by omega), beq_self_eq_true]
  rfl
theorem finds_fold (b14 b15 : Bool) (l16 : List Int) (b17 b18 b20 b21 b22 : Bool) (l W : List Int) (hl : isB l) (hn : l.length ≤ 2000) (hW : W.length ≤ 10000) : ∀ (f p k : Nat) (n : Int), p ≤ l.length → l.length - p < f → 0 ≤ n → n ≤ 100000 → ((l.length - p : Nat) : Int) ≤ n →
    W.drop k = (its p (l.drop p)).map (fun q => (q.1 : Int)) →
    foldS (X := (Bool × Bool × List Int × Bool × Bool × List Int × Bool × Bool × Bool × List Int × Int × Int)) (Y := Bool) (fun x i => st_coupletlaw13_ScanFinds_1 x.1 x.2.1 x.2.2.1 x.2.2.2.1 x.2.2.2.2.1 x.2.2.2.2.2.1 x.2.2.2.2.2.2.1 x.2.2.2.2.2.2.2.1 x.2.2.2.2.2.2.2.2.1 x.2.2.2.2.2.2.2.2.2.1 x.2.2.2.2.2.2.2.2.2.2.1 x.2.2.2.2.2.2.2.2.2.2.2 i) ((its p (l.drop p)).map conv) (b14, b15, l16, b17, b18, l, b20, b21, b22, W, (k : Int), n) =
      some (.inl (b14, b15, l16, b17, b18, l, b20, b21, b22, W, ((k + (its p (l.drop p)).length : Nat) : Int), n - ((l.length - p : Nat) : Int) + ((lost (l.drop p) : Nat) : Int)))
  | 0, p, k, n, _, h, _, _, _, _ => by omega
  | f + 1, p, k, n, hp, h, n0, n1, hpn, hWk => by
    rcases Nat.lt_or_ge p l.length with hlt | hge
    · have e0 : l.drop p = l[p] :: l.drop (p + 1) := List.drop_eq_getElem_cons hlt
      by_cases hh : heads (l.drop p)
      · have hs1 := hh.1
        have hs2 := hh.2.1
        rw [List.length_drop] at hs2
        rw [its_head hh, List.map_cons] at hWk
        have hk : k < W.length := by
          rcases Nat.lt_or_ge k W.length with h | h
          · exact h
          · rw [List.drop_eq_nil_of_le h] at hWk; cases hWk
        rw [List.drop_eq_getElem_cons hk] at hWk
        injection hWk with hw1 hw2
        have hst := finds_step b14 b15 l16 b17 b18 b20 b21 b22 l W hl hn hW p k hlt hh hk (by rw [getD_at hk]; exact hw1) n n0 n1 (by omega)
        have ih := finds_fold b14 b15 l16 b17 b18 b20 b21 b22 l W hl hn hW f (p + sizeV (l.drop p)) (k + 1) (n - ((sizeV (l.drop p) : Nat) : Int)) (by omega) (by omega) (by omega) (by omega) (by omega) (by rw [hw2, List.drop_drop])
        rw [its_head hh, lost_head hh, List.map_cons, foldS]
        dsimp only
        rw [hst]
        dsimp only
        rw [List.drop_drop, ih, List.length_cons]
        rw [show n - ((sizeV (l.drop p) : Nat) : Int) - ((l.length - (p + sizeV (l.drop p)) : Nat) : Int) = n - ((l.length - p : Nat) : Int) by omega, show k + 1 + (its (p + sizeV (l.drop p)) (l.drop (p + sizeV (l.drop p)))).length = k + ((its (p + sizeV (l.drop p)) (l.drop (p + sizeV (l.drop p)))).length + 1) by omega]
      · have ih := finds_fold b14 b15 l16 b17 b18 b20 b21 b22 l W hl hn hW f (p + 1) k n (by omega) (by omega) n0 n1 (by omega)
        rw [e0] at hh hWk ⊢
        rw [its_skip hh] at hWk ⊢
        rw [lost_skip hh, ih hWk, show n - ((l.length - p : Nat) : Int) + ((1 + lost (l.drop (p + 1)) : Nat) : Int) = n - ((l.length - (p + 1) : Nat) : Int) + ((lost (l.drop (p + 1)) : Nat) : Int) by omega]
    · have e : l.drop p = [] := List.drop_eq_nil_of_le hge
      rw [e, its_nil, lost_nil]
      simp only [List.map_nil, foldS, List.length_nil, Nat.add_zero]
      rw [show n - ((l.length - p : Nat) : Int) + ((0 : Nat) : Int) = n by omega]
theorem law_ScanFinds {b0 b1 : Bool} {l2 : List Int} (w0 : l2.length ≤ maxLen) (c0 : ∀ x ∈ l2, (Lit.int .u8 x).wf = true) (g0 : b0 = true → l2 = []) : go_coupletlaw13_ScanFinds b0 b1 l2 = some true := by
  unfold go_coupletlaw13_ScanFinds
  rw [awake13]
  by_cases s1 : ((l2.length : Nat) : Int) > 1500
  · rw [decide_eq_true s1]; rfl
  have hl := isB_wf c0
  rw [decide_eq_false s1, cond_false]
  obtain ⟨u, v, hf⟩ := found_at b0 b1 l2 hl (by omega)
  have hil := its_len l2 0
  have hlo := lost_le l2
  have hS := finds_fold b0 b1 l2 b0 b1 false u v l2 ((its 0 l2).map fun q => (q.1 : Int)) hl (by omega) (by rw [List.length_map]; omega) (l2.length + 1) 0 0 ((l2.length : Nat) : Int) (Nat.zero_le _) (by omega) (by omega) (by omega) (by omega) (by rw [List.drop_zero, List.drop_zero])
  rw [List.drop_zero] at hS
  rw [hf, Option.bind_some]
  unfold lp_coupletlaw13_ScanFinds_0 st_coupletlaw13_ScanFinds_0 go_scan_Frames lp_coupletlaw13_ScanFinds_1 it_coupletlaw13_ScanFinds_1
  simp only [Option.bind_some]
  rw [it_frames_at b0 b1 l2 hl (by omega), Option.bind_some]
  have hS := hS
  rw [show ((0 : Nat) : Int) = (0 : Int) from rfl] at hS
  rw [hS, Option.bind_some]
  simp only [Sum.elim_inl]
  rw [all_at b0 b1 l2 hl (by omega)]
  simp only [Option.bind_some, List.length_map]
  rw [size_at b0 b1 l2 hl, rsize_at b0 b1 l2 hl]
  simp only [Option.bind_some]
  rw [ibeq, ibeq, ibeq, ibeq, decide_eq_true (by omega), decide_eq_true (by omega), decide_eq_true (by omega), decide_eq_true rfl]
  rfl
end Go.Proofs
