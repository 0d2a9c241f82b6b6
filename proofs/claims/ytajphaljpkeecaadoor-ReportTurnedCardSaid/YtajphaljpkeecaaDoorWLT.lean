/-
  The law ReportTurned (plain).
-/
import Derived.Test.YtajphaljpkeecaaDoorWCTab
import Derived.Test.YtajphaljpkeecaaDoorWGC0
import Derived.Test.YtajphaljpkeecaaDoorWGC18
import Derived.Test.YtajphaljpkeecaaDoorFxRng
import Derived.Test.YtajphaljpkeecaaDoorFxThaw
import Derived.Test.YtajphaljpkeecaaDoorChecked
import Derived.Test.YtajphaljpkeecaaDoorWLW4
set_option linter.unusedVariables false
set_option maxRecDepth 100000
noncomputable section
namespace Go.Proofs
open Go Go.Fx
def xa_coupletlaw18_ReportTurned_0 : XR := (.ops false [⟨⟨(some 62), (.mv (.tmp 9)), none⟩, none⟩, ⟨⟨(some 63), (.mv (.tmp 1)), none⟩, none⟩, ⟨⟨(some 64), (.slc 1 (.tmp 62) none (some (.tmp 63)) none), none⟩, none⟩, ⟨⟨(some 65), (.call (.func 36) [(.tmp 64)]), none⟩, none⟩, ⟨⟨(some 61), (.mv (.tmp 65)), none⟩, none⟩, ⟨⟨(some 66), (.ext (.tmp 61) 0), none⟩, none⟩, ⟨⟨(some 67), (.ext (.tmp 61) 1), none⟩, none⟩, ⟨⟨(some 11), (.alloc 46 [(.int .i64 (0)), (.int .i64 (0)), (.isl true true .i64 []), (.isl true true .i64 [])]), none⟩, none⟩, ⟨⟨none, (.st 4 (.tmp 11) (.tmp 66)), none⟩, none⟩, ⟨⟨(some 12), (.mv (.tmp 67)), none⟩, none⟩])
def xe_coupletlaw18_ReportTurned_0 : XR := (.ops false [⟨⟨(some 69), (.bsl 5 (some .u8) 1 []), none⟩, none⟩, ⟨⟨(some 70), (.mv (.tmp 9)), none⟩, none⟩, ⟨⟨(some 71), (.app 5 (some .u8) 1 1 (.tmp 69) (.tmp 70)), none⟩, none⟩, ⟨⟨(some 72), (.mv (.tmp 3)), none⟩, none⟩, ⟨⟨(some 73), (.app 5 (some .u8) 1 1 (.tmp 71) (.tmp 72)), none⟩, none⟩, ⟨⟨(some 74), (.call (.func 36) [(.tmp 73)]), none⟩, none⟩, ⟨⟨(some 68), (.mv (.tmp 74)), none⟩, none⟩, ⟨⟨(some 75), (.ext (.tmp 68) 0), none⟩, none⟩, ⟨⟨(some 76), (.ext (.tmp 68) 1), none⟩, none⟩, ⟨⟨(some 13), (.alloc 46 [(.int .i64 (0)), (.int .i64 (0)), (.isl true true .i64 []), (.isl true true .i64 [])]), none⟩, none⟩, ⟨⟨none, (.st 4 (.tmp 13) (.tmp 75)), none⟩, none⟩, ⟨⟨(some 14), (.mv (.tmp 76)), none⟩, none⟩])
def xb_coupletlaw18_ReportTurned_0 : XR := .seq xa_coupletlaw18_ReportTurned_0 xe_coupletlaw18_ReportTurned_0
def xr_coupletlaw18_ReportTurned : XR := (.seq (.ops false [⟨⟨(some 4), (.box 46 (.tmp 0)), none⟩, none⟩, ⟨⟨(some 8), (.mv (.c (.bool false))), none⟩, none⟩]) (.seq (.ops false [⟨⟨(some 18), (.ld true 4 (.tmp 4)), none⟩, (some (.agg [(.int .i64), (.int .i64), (.isl .i64), (.isl .i64)]))⟩, ⟨⟨(some 19), (.callN 32 5 [(.tmp 18)]), none⟩, none⟩, ⟨⟨(some 17), (.mv (.tmp 19)), none⟩, none⟩, ⟨⟨(some 20), (.ext (.tmp 17) 0), none⟩, none⟩, ⟨⟨(some 21), (.ext (.tmp 17) 1), none⟩, none⟩, ⟨⟨(some 9), (.mv (.tmp 20)), none⟩, none⟩, ⟨⟨(some 10), (.mv (.tmp 21)), none⟩, none⟩]) (.seq (.seq (.ops false [⟨⟨(some 22), (.fldA 2 (.tmp 4)), none⟩, none⟩, ⟨⟨(some 23), (.ld false 1 (.tmp 22)), none⟩, (some (.isl .i64))⟩, ⟨⟨(some 24), (.len (.tmp 23)), none⟩, none⟩, ⟨⟨(some 25), (.bin .gtr (.tmp 24) (.c (.int .i64 (20)))), none⟩, none⟩, ⟨⟨(some 26), (.mv (.tmp 25)), none⟩, none⟩, ⟨⟨(some 27), (.fldA 3 (.tmp 4)), (some (26, false))⟩, none⟩, ⟨⟨(some 28), (.ld false 1 (.tmp 27)), (some (26, false))⟩, (some (.isl .i64))⟩, ⟨⟨(some 29), (.len (.tmp 28)), (some (26, false))⟩, none⟩, ⟨⟨(some 30), (.bin .gtr (.tmp 29) (.c (.int .i64 (20)))), (some (26, false))⟩, none⟩, ⟨⟨(some 31), (.pick (.tmp 26) (.c (.bool true)) (.tmp 30)), none⟩, none⟩, ⟨⟨(some 32), (.mv (.tmp 31)), none⟩, none⟩, ⟨⟨(some 33), (.mv (.tmp 10)), (some (32, false))⟩, none⟩, ⟨⟨(some 34), (.bin .neq (.tmp 33) (.c (.int .i64 (0)))), (some (32, false))⟩, none⟩, ⟨⟨(some 35), (.pick (.tmp 32) (.c (.bool true)) (.tmp 34)), none⟩, none⟩, ⟨⟨(some 36), (.mv (.tmp 35)), none⟩, none⟩, ⟨⟨(some 37), (.mv (.tmp 1)), (some (36, false))⟩, none⟩, ⟨⟨(some 38), (.bin .lss (.tmp 37) (.c (.int .i64 (0)))), (some (36, false))⟩, none⟩, ⟨⟨(some 39), (.pick (.tmp 36) (.c (.bool true)) (.tmp 38)), none⟩, none⟩, ⟨⟨(some 40), (.mv (.tmp 39)), none⟩, none⟩, ⟨⟨(some 41), (.mv (.tmp 1)), (some (40, false))⟩, none⟩, ⟨⟨(some 42), (.mv (.tmp 9)), (some (40, false))⟩, none⟩, ⟨⟨(some 43), (.len (.tmp 42)), (some (40, false))⟩, none⟩, ⟨⟨(some 44), (.bin .geq (.tmp 41) (.tmp 43)), (some (40, false))⟩, none⟩, ⟨⟨(some 45), (.pick (.tmp 40) (.c (.bool true)) (.tmp 44)), none⟩, none⟩, ⟨⟨(some 46), (.mv (.tmp 45)), none⟩, none⟩, ⟨⟨(some 47), (.mv (.tmp 2)), (some (46, false))⟩, none⟩, ⟨⟨(some 48), (.bin .eql (.tmp 47) (.c (.int .u8 (0)))), (some (46, false))⟩, none⟩, ⟨⟨(some 49), (.pick (.tmp 46) (.c (.bool true)) (.tmp 48)), none⟩, none⟩, ⟨⟨(some 50), (.mv (.tmp 49)), none⟩, none⟩, ⟨⟨(some 51), (.mv (.tmp 3)), (some (50, false))⟩, none⟩, ⟨⟨(some 52), (.len (.tmp 51)), (some (50, false))⟩, none⟩, ⟨⟨(some 53), (.bin .lss (.tmp 52) (.c (.int .i64 (1)))), (some (50, false))⟩, none⟩, ⟨⟨(some 54), (.pick (.tmp 50) (.c (.bool true)) (.tmp 53)), none⟩, none⟩, ⟨⟨(some 55), (.mv (.tmp 54)), none⟩, none⟩, ⟨⟨(some 56), (.mv (.tmp 3)), (some (55, false))⟩, none⟩, ⟨⟨(some 57), (.len (.tmp 56)), (some (55, false))⟩, none⟩, ⟨⟨(some 58), (.bin .gtr (.tmp 57) (.c (.int .i64 (20)))), (some (55, false))⟩, none⟩, ⟨⟨(some 59), (.pick (.tmp 55) (.c (.bool true)) (.tmp 58)), none⟩, none⟩]) (.cond (.tmp 59) (.seq (.ops false [⟨⟨(some 60), (.call (.func 31) []), none⟩, none⟩, ⟨⟨(some 8), (.mv (.tmp 60)), none⟩, none⟩]) .ret) .skip)) (.pieceS 0 [1, 2, 3, 9] xa_coupletlaw18_ReportTurned_0 xe_coupletlaw18_ReportTurned_0 (.seq (.ops false [⟨⟨(some 77), (.mv (.tmp 9)), none⟩, none⟩, ⟨⟨(some 78), (.mv (.tmp 1)), none⟩, none⟩, ⟨⟨(some 79), (.ixA 1 (.tmp 77) (.tmp 78)), none⟩, none⟩, ⟨⟨(some 80), (.ld false 1 (.tmp 79)), none⟩, (some (.int .u8))⟩, ⟨⟨(some 81), (.mv (.tmp 2)), none⟩, none⟩, ⟨⟨(some 82), (.bin .xor (.tmp 80) (.tmp 81)), none⟩, none⟩, ⟨⟨(some 83), (.ixA 1 (.tmp 77) (.tmp 78)), none⟩, none⟩, ⟨⟨none, (.st 1 (.tmp 83) (.tmp 82)), none⟩, none⟩]) (.seq (.ops false [⟨⟨(some 85), (.mv (.tmp 9)), none⟩, none⟩, ⟨⟨(some 86), (.call (.func 36) [(.tmp 85)]), none⟩, none⟩, ⟨⟨(some 84), (.mv (.tmp 86)), none⟩, none⟩, ⟨⟨(some 87), (.ext (.tmp 84) 0), none⟩, none⟩, ⟨⟨(some 88), (.ext (.tmp 84) 1), none⟩, none⟩, ⟨⟨(some 15), (.alloc 46 [(.int .i64 (0)), (.int .i64 (0)), (.isl true true .i64 []), (.isl true true .i64 [])]), none⟩, none⟩, ⟨⟨none, (.st 4 (.tmp 15) (.tmp 87)), none⟩, none⟩, ⟨⟨(some 16), (.mv (.tmp 88)), none⟩, none⟩]) (.seq (.ops false [⟨⟨(some 89), (.mv (.tmp 12)), none⟩, none⟩, ⟨⟨(some 90), (.bin .eql (.tmp 89) (.c (.int .i64 (2)))), none⟩, none⟩, ⟨⟨(some 91), (.mv (.tmp 90)), none⟩, none⟩, ⟨⟨(some 92), (.mv (.tmp 14)), (some (91, true))⟩, none⟩, ⟨⟨(some 93), (.bin .eql (.tmp 92) (.c (.int .i64 (5)))), (some (91, true))⟩, none⟩, ⟨⟨(some 94), (.pick (.tmp 91) (.tmp 93) (.c (.bool false))), none⟩, none⟩, ⟨⟨(some 95), (.mv (.tmp 94)), none⟩, none⟩, ⟨⟨(some 96), (.mv (.tmp 16)), (some (95, true))⟩, none⟩, ⟨⟨(some 97), (.bin .neq (.tmp 96) (.c (.int .i64 (0)))), (some (95, true))⟩, none⟩, ⟨⟨(some 98), (.pick (.tmp 95) (.tmp 97) (.c (.bool false))), none⟩, none⟩, ⟨⟨(some 99), (.mv (.tmp 98)), none⟩, none⟩, ⟨⟨(some 100), (.ld true 4 (.tmp 15)), (some (99, true))⟩, (some (.agg [(.int .i64), (.int .i64), (.isl .i64), (.isl .i64)]))⟩, ⟨⟨(some 101), (.build [(.int .i64 (0)), (.int .i64 (0)), (.isl true true .i64 []), (.isl true true .i64 [])] []), (some (99, true))⟩, none⟩, ⟨⟨(some 102), (.call (.func 38) [(.tmp 100), (.tmp 101)]), (some (99, true))⟩, none⟩, ⟨⟨(some 103), (.pick (.tmp 99) (.tmp 102) (.c (.bool false))), none⟩, none⟩, ⟨⟨(some 104), (.mv (.tmp 103)), none⟩, none⟩, ⟨⟨(some 105), (.call (.func 31) []), (some (104, true))⟩, none⟩, ⟨⟨(some 106), (.pick (.tmp 104) (.tmp 105) (.c (.bool false))), none⟩, none⟩, ⟨⟨(some 8), (.mv (.tmp 106)), none⟩, none⟩]) .ret)))))))
def rs_coupletlaw18_ReportTurned : List ResultVar := [(.tmp 8)]
theorem ir_coupletlaw18_ReportTurned : compCode Tryd.prog (Tryd.f12.body.getD .skip) [] = some (xr_coupletlaw18_ReportTurned.erase, []) := by kernel_rfl
def gm_coupletlaw18_ReportTurned : Gam := (Gam.fn 2000032 as_new_report_Encode ga_new_report_Encode em_new_report_Encode (Gam.fn 31 as_coupletlaw18_awake ga_coupletlaw18_awake em_coupletlaw18_awake (Gam.fn 36 as_report_Decode ga_report_Decode em_report_Decode (Gam.fn 38 as_report_Same ga_report_Same em_report_Same Gam.bot))))
theorem gk_coupletlaw18_ReportTurned : GamOk Tryd.prog GG gm_coupletlaw18_ReportTurned := (GamOk.fn at_new_report_Encode (GamOk.fn at_coupletlaw18_awake (GamOk.fn at_report_Decode (GamOk.fn at_report_Same GamOk.bot))))
def st_coupletlaw18_ReportTurned_0 (n22 : Int) (n23 : Int) (b24 : Bool) (b25 : Bool) (l26 : List Int) (b27 : Bool) (b28 : Bool) (l29 : List Int) : Option (((Int × Int × Int × Int × Bool × Bool × List Int))) :=
  bif (decide (0 ≤ n22)) then
   bif (decide (n22 ≤ (((List.length l29) : Nat) : Int))) then
    (go_report_Decode b27 false (List.take (Int.toNat (n22 - 0)) (List.drop 0 l29))).bind fun r30 =>
    bif (decide (((0 + (List.length l29)) * 1) ≤ 140737488355328)) then
     bif (decide ((0 + (List.length l29)) ≤ 4611686018427387904)) then
      bif (decide ((((List.length ([] ++ l29)) + (List.length l26)) * 1) ≤ 140737488355328)) then
       bif (decide (((List.length ([] ++ l29)) + (List.length l26)) ≤ 4611686018427387904)) then
        (go_report_Decode ((false && (List.isEmpty l29)) && (List.isEmpty l26)) false (([] ++ l29) ++ l26)).bind fun r31 =>
        some (n22, n23, r30.2.2.2.2.2.2.2.2, r31.2.2.2.2.2.2.2.2, b27, b28, l29)
       else none
      else none
     else none
    else none
   else none
  else none
def lp_coupletlaw18_ReportTurned_0 (n22 : Int) (n23 : Int) (b24 : Bool) (b25 : Bool) (l26 : List Int) (b27 : Bool) (b28 : Bool) (l29 : List Int) : Option (((Int × Int × Int × Int × Bool × Bool × List Int))) := st_coupletlaw18_ReportTurned_0 n22 n23 b24 b25 l26 b27 b28 l29
def sh_coupletlaw18_ReportTurned_0 : StSh := ⟨107, [(1, (.p (.int .i64))), (2, (.p (.int .u8))), (3, (.p (.isl .u8))), (9, (.row 0))], [(.irow 5 .u8)]⟩
def sx_coupletlaw18_ReportTurned_0 (x : (Int × Int × Bool × Bool × List Int × Bool × Bool × List Int)) : St := ⟨slots 107 0 [(1, (.p (.int .i64 x.1))), (2, (.p (.int .u8 x.2.1))), (3, (.p (.isl x.2.2.1 x.2.2.2.1 .u8 x.2.2.2.2.1))), (9, (.row 0))], [(.irow 5 .u8 x.2.2.2.2.2.1 x.2.2.2.2.2.2.1 x.2.2.2.2.2.2.2)]⟩
def sa_coupletlaw18_ReportTurned_0 (S : St) : (Int × Int × Bool × Bool × List Int × Bool × Bool × List Int) := (((tls 1 S.t).headD .any).pv.num, ((tls 2 S.t).headD .any).pv.num, ((tls 3 S.t).headD .any).pv.nl, ((tls 3 S.t).headD .any).pv.ex, ((tls 3 S.t).headD .any).pv.ints, ((tls 0 S.own).headD .gone).pvD.nl, ((tls 0 S.own).headD .gone).pvD.ex, ((tls 0 S.own).headD .gone).pvD.ints)
def tz_coupletlaw18_ReportTurned_0_0 : StSh := ⟨107, [(1, (.p (.int .i64))), (2, (.p (.int .u8))), (9, (.row 0)), (12, (.p (.int .i64))), (14, (.p (.int .i64)))], [(.irow 5 .u8)]⟩
def tx_coupletlaw18_ReportTurned_0_0 (x : (Int × Int × Int × Int × Bool × Bool × List Int)) : St := ⟨slots 107 0 [(1, (.p (.int .i64 x.1))), (2, (.p (.int .u8 x.2.1))), (9, (.row 0)), (12, (.p (.int .i64 x.2.2.1))), (14, (.p (.int .i64 x.2.2.2.1)))], [(.irow 5 .u8 x.2.2.2.2.1 x.2.2.2.2.2.1 x.2.2.2.2.2.2)]⟩
def ta_coupletlaw18_ReportTurned_0_0 (S : St) : (Int × Int × Int × Int × Bool × Bool × List Int) := (((tls 1 S.t).headD .any).pv.num, ((tls 2 S.t).headD .any).pv.num, ((tls 12 S.t).headD .any).pv.num, ((tls 14 S.t).headD .any).pv.num, ((tls 0 S.own).headD .gone).pvD.nl, ((tls 0 S.own).headD .gone).pvD.ex, ((tls 0 S.own).headD .gone).pvD.ints)
def kb_coupletlaw18_ReportTurned_0 : Exit → St → Tree (((Int × Int × Int × Int × Bool × Bool × List Int))) := (exOne .norm [1, 2, 9, 12, 14] tz_coupletlaw18_ReportTurned_0_0 ta_coupletlaw18_ReportTurned_0_0 (fun y => id (y)) exNil)
def ky_coupletlaw18_ReportTurned_0 : Dec (((Int × Int × Int × Int × Bool × Bool × List Int))) := fun _ y ke => ke (.norm : EK).ex (tx_coupletlaw18_ReportTurned_0_0 y)
theorem kk_coupletlaw18_ReportTurned_0 : ExOk id kb_coupletlaw18_ReportTurned_0 ky_coupletlaw18_ReportTurned_0 := (ExOk.one (acc := ta_coupletlaw18_ReportTurned_0_0) (bY := tx_coupletlaw18_ReportTurned_0_0) (inj1 := fun y => y) (fun S => by kernel_rfl) (fun y _ ke => .inr (by kernel_rfl)) ExOk.nil)
def lm_coupletlaw18_ReportTurned : Lam := fun _ j S kn ke => match j with
  | 0 => .chk (sh_coupletlaw18_ReportTurned_0.ok S) (.bind ((fun x => st_coupletlaw18_ReportTurned_0 x.1 x.2.1 x.2.2.1 x.2.2.2.1 x.2.2.2.2.1 x.2.2.2.2.2.1 x.2.2.2.2.2.2.1 x.2.2.2.2.2.2.2) (sa_coupletlaw18_ReportTurned_0 S)) fun y => ky_coupletlaw18_ReportTurned_0 _ y (joinK kn ke))
  | _ => .fail
theorem sr_coupletlaw18_ReportTurned_0 (x : (Int × Int × Bool × Bool × List Int × Bool × Bool × List Int)) : (ev GG gm_coupletlaw18_ReportTurned lm_coupletlaw18_ReportTurned xb_coupletlaw18_ReportTurned_0 (frz (sx_coupletlaw18_ReportTurned_0 x)) (fun S => thawT [1, 2, 9, 12, 14] (sx_coupletlaw18_ReportTurned_0 x).own S (kb_coupletlaw18_ReportTurned_0 .normal)) (fun _ _ => .fail)).run = st_coupletlaw18_ReportTurned_0 x.1 x.2.1 x.2.2.1 x.2.2.2.1 x.2.2.2.2.1 x.2.2.2.2.2.1 x.2.2.2.2.2.2.1 x.2.2.2.2.2.2.2 := by kernel_rfl
theorem la_coupletlaw18_ReportTurned_0 : LamS Tryd.prog GG lm_coupletlaw18_ReportTurned 0 xa_coupletlaw18_ReportTurned_0.erase xe_coupletlaw18_ReportTurned_0.erase := lam_thaw2 (x1 := xa_coupletlaw18_ReportTurned_0) (x2 := xe_coupletlaw18_ReportTurned_0) (Λ' := lm_coupletlaw18_ReportTurned) gk_coupletlaw18_ReportTurned (by kernel_rfl) (by kernel_rfl) (fun S => (by kernel_rfl : sh_coupletlaw18_ReportTurned_0.build S = sx_coupletlaw18_ReportTurned_0 (sa_coupletlaw18_ReportTurned_0 S))) (fun x => ⟨_, _, _, _, _, rfl⟩) kk_coupletlaw18_ReportTurned_0 sr_coupletlaw18_ReportTurned_0 (fun _ _ _ => rfl)
def go_coupletlaw18_ReportTurned (n0 : Int) (n1 : Int) (b2 : Bool) (b3 : Bool) (l4 : List Int) (b5 : Bool) (b6 : Bool) (l7 : List Int) (n8 : Int) (n9 : Int) (b10 : Bool) (b11 : Bool) (l12 : List Int) : Option Bool :=
  (go_new_report_Encode n0 n1 b2 b3 l4 b5 b6 l7).bind fun r13 =>
  bif (decide ((((List.length l4) : Nat) : Int) > 20)) then
   (go_coupletlaw18_awake).bind fun r14 =>
   some r14
  else
   bif (decide ((((List.length l7) : Nat) : Int) > 20)) then
    (go_coupletlaw18_awake).bind fun r15 =>
    some r15
   else
    bif (r13.2.2.2 != 0) then
     (go_coupletlaw18_awake).bind fun r16 =>
     some r16
    else
     bif (decide (n8 < 0)) then
      (go_coupletlaw18_awake).bind fun r17 =>
      some r17
     else
      bif (decide (n8 ≥ (((List.length r13.2.2.1) : Nat) : Int))) then
       (go_coupletlaw18_awake).bind fun r18 =>
       some r18
      else
       bif (n9 == 0) then
        (go_coupletlaw18_awake).bind fun r19 =>
        some r19
       else
        bif (decide ((((List.length l12) : Nat) : Int) < 1)) then
         (go_coupletlaw18_awake).bind fun r20 =>
         some r20
        else
         bif (decide ((((List.length l12) : Nat) : Int) > 20)) then
          (go_coupletlaw18_awake).bind fun r21 =>
          some r21
         else
          (lp_coupletlaw18_ReportTurned_0 n8 n9 b10 b11 l12 r13.1 false r13.2.2.1).bind fun y32 =>
          bif (decide (0 ≤ y32.1)) then
           bif (decide (y32.1 < (((List.length y32.2.2.2.2.2.2) : Nat) : Int))) then
            bif (decide ((Int.toNat y32.1) < (List.length y32.2.2.2.2.2.2))) then
             bif (decide (0 ≤ y32.1)) then
              bif (decide (y32.1 < (((List.length y32.2.2.2.2.2.2) : Nat) : Int))) then
               bif (decide ((Int.toNat y32.1) < (List.length y32.2.2.2.2.2.2))) then
                (go_report_Decode y32.2.2.2.2.1 y32.2.2.2.2.2.1 (List.set y32.2.2.2.2.2.2 (Int.toNat y32.1) (IntKind.wrap .u8 (bXor .u8 (List.getD y32.2.2.2.2.2.2 (Int.toNat y32.1) 0) y32.2.1)))).bind fun r33 =>
                bif (y32.2.2.1 == 2) then
                 bif (y32.2.2.2.1 == 5) then
                  bif (r33.2.2.2.2.2.2.2.2 != 0) then
                   (go_report_Same r33.1 r33.2.1 r33.2.2.1 r33.2.2.2.1 r33.2.2.2.2.1 r33.2.2.2.2.2.1 r33.2.2.2.2.2.2.1 r33.2.2.2.2.2.2.2.1 0 0 true true [] true true []).bind fun r34 =>
                   bif r34 then
                    (go_coupletlaw18_awake).bind fun r35 =>
                    some r35
                   else
                    some false
                  else
                   some false
                 else
                  some false
                else
                 some false
               else none
              else none
             else none
            else none
           else none
          else none
def em_coupletlaw18_ReportTurned (r : Bool) : PV := (.bool r)
def rh_coupletlaw18_ReportTurned : Shp := .bool
def ra_coupletlaw18_ReportTurned (v : PV) : Bool := v.tru
def kf_coupletlaw18_ReportTurned (v : PV) : Tree Bool := .chk (rh_coupletlaw18_ReportTurned.ok v) (.leaf (ra_coupletlaw18_ReportTurned v))
theorem rn_coupletlaw18_ReportTurned (n0 : Int) (n1 : Int) (b2 : Bool) (b3 : Bool) (l4 : List Int) (b5 : Bool) (b6 : Bool) (l7 : List Int) (n8 : Int) (n9 : Int) (b10 : Bool) (b11 : Bool) (l12 : List Int) : (ev GG gm_coupletlaw18_ReportTurned lm_coupletlaw18_ReportTurned xr_coupletlaw18_ReportTurned ⟨slots 107 0 [(0, .p (.agg [(.int .i64 n0), (.int .i64 n1), (.isl b2 b3 .i64 l4), (.isl b5 b6 .i64 l7)])), (1, .p (.int .i64 n8)), (2, .p (.int .u8 n9)), (3, .p (.isl b10 b11 .u8 l12))], []⟩ (fun S => finT Tryd.prog rs_coupletlaw18_ReportTurned S kf_coupletlaw18_ReportTurned) (retT Tryd.prog rs_coupletlaw18_ReportTurned kf_coupletlaw18_ReportTurned)).run = go_coupletlaw18_ReportTurned n0 n1 b2 b3 l4 b5 b6 l7 n8 n9 b10 b11 l12 := by kernel_rfl
theorem ok_coupletlaw18_ReportTurned (n0 : Int) (n1 : Int) (b2 : Bool) (b3 : Bool) (l4 : List Int) (b5 : Bool) (b6 : Bool) (l7 : List Int) (n8 : Int) (n9 : Int) (b10 : Bool) (b11 : Bool) (l12 : List Int) (r : Bool) (h : go_coupletlaw18_ReportTurned n0 n1 b2 b3 l4 b5 b6 l7 n8 n9 b10 b11 l12 = some r) : FunEq Tryd.prog GG 12 [(.agg [(.int .i64 n0), (.int .i64 n1), (.isl b2 b3 .i64 l4), (.isl b5 b6 .i64 l7)]), (.int .i64 n8), (.int .u8 n9), (.isl b10 b11 .u8 l12)] (em_coupletlaw18_ReportTurned r) :=
  fun_of_ev (x := xr_coupletlaw18_ReportTurned) (Λ := lm_coupletlaw18_ReportTurned) gk_coupletlaw18_ReportTurned [] Tryd.func12 rfl (by kernel_rfl) ir_coupletlaw18_ReportTurned (by kernel_rfl) (congrArg Array.toList Tryd.results12) Tryd.ntmps12 (⟨trivial, ⟨trivial, ⟨⟨trivial, ⟨⟨trivial, trivial⟩, trivial⟩⟩, ⟨la_coupletlaw18_ReportTurned_0, ⟨trivial, ⟨trivial, ⟨trivial, trivial⟩⟩⟩⟩⟩⟩⟩) (leaf_of fun v => (by kernel_rfl : rh_coupletlaw18_ReportTurned.build v = em_coupletlaw18_ReportTurned (ra_coupletlaw18_ReportTurned v))) (by kernel_rfl) ((rn_coupletlaw18_ReportTurned n0 n1 b2 b3 l4 b5 b6 l7 n8 n9 b10 b11 l12).trans h)
end Go.Proofs
end
set_option linter.unusedSimpArgs false
set_option linter.unusedVariables false
set_option maxRecDepth 100000
namespace Go.Proofs
open Go Go.Fx
theorem crc_set {l : List Int} (hl : isB l) {n c : Nat} (hc : c < l.length) {y : Int} (hy : 0 ≤ y ∧ y < 256) (h1 : le 4 (crcV (l.take n)) = l.drop n) (h2 : le 4 (crcV ((l.set c y).take n)) = (l.set c y).drop n) : y = l[c] := by
  have hx := hl _ (List.getElem_mem hc)
  have hs : isB (l.set c y) := fun z hz => by
    rcases List.mem_or_eq_of_mem_set hz with h | h
    · exact hl z h
    · exact h ▸ hy
  by_cases hcn : c < n
  · rw [List.drop_set_of_lt hcn, ← h1] at h2
    have e1 := congrArg val h2
    have k1 := crcV_lt (isB_take hs n)
    have k2 := crcV_lt (isB_take hl n)
    rw [val_le, val_le, Nat.mod_eq_of_lt k1, Nat.mod_eq_of_lt k2, List.take_set] at e1
    have hct : c < (l.take n).length := by rw [List.length_take]; omega
    have e2 : l.take n = (l.take n).take c ++ (l.take n)[c] :: (l.take n).drop (c + 1) := by
      rw [← List.drop_eq_getElem_cons hct, List.take_append_drop]
    rw [List.set_eq_take_append_cons_drop, if_pos hct] at e1
    conv at e1 => rhs; rw [e2]
    have := crc_turned (isB_take (isB_take hl n) c) (isB_drop (isB_take hl n) (c + 1)) hy (by rw [List.getElem_take]; exact hx) e1
    rw [this, List.getElem_take]
  · rw [List.take_set_of_le (by omega), h1] at h2
    have := congrArg (fun z => z[c - n]?) h2
    simp only [List.getElem?_drop] at this
    rw [show n + (c - n) = c by omega, List.getElem?_eq_getElem hc, List.getElem?_set_self hc] at this
    exact (Option.some.inj this).symm
theorem bXor8 {a b : Nat} (ha : a < 256) (hb : b < 256) : IntKind.wrap .u8 (bXor .u8 (a : Int) (b : Int)) = ((a ^^^ b : Nat) : Int) := by
  have e : bXor .u8 (a : Int) (b : Int) = ((a ^^^ b : Nat) : Int) := by
    unfold bXor
    show (((BitVec.ofInt 8 (a : Int) ^^^ BitVec.ofInt 8 (b : Int)).toNat : Nat) : Int) = _
    rw [BitVec.toNat_xor, BitVec.toNat_ofInt, BitVec.toNat_ofInt]
    congr 2 <;> omega
  have h := Nat.xor_lt_two_pow (n := 8) (x := a) (y := b) ha hb
  rw [e, IntKind.wrap_u8]; omega
theorem turned_byte {x b : Int} (hx : 0 ≤ x ∧ x < 256) (hb : 0 ≤ b ∧ b < 256) (h0 : b ≠ 0) : (0 ≤ IntKind.wrap .u8 (bXor .u8 x b) ∧ IntKind.wrap .u8 (bXor .u8 x b) < 256) ∧ IntKind.wrap .u8 (bXor .u8 x b) ≠ x := by
  obtain ⟨a, rfl⟩ : ∃ a : Nat, x = (a : Int) := ⟨x.toNat, by omega⟩
  obtain ⟨c, rfl⟩ : ∃ c : Nat, b = (c : Int) := ⟨b.toNat, by omega⟩
  rw [bXor8 (by omega) (by omega)]
  have h := Nat.xor_lt_two_pow (n := 8) (x := a) (y := c) (by omega) (by omega)
  refine ⟨⟨by omega, by omega⟩, fun e => ?_⟩
  have e : a ^^^ c = a ^^^ 0 := by rw [Nat.xor_zero]; omega
  have := xor_cancel ((Nat.xor_comm c a).trans (e.trans (Nat.xor_comm a 0)))
  omega
theorem why18_hd {l : List Int} (h0 : why18 l = 0) : 12 ≤ l.length ∧ l.take 2 = [78, 82] ∧ cnt l ≤ 4 ∧ (0 < cnt l ↔ hdr l / 32 % 2 = 1) ∧ l.length = 12 + 16 * cnt l ∧ le 4 (crcV (l.take (l.length - 4))) = l.drop (l.length - 4) := by
  unfold why18 at h0
  by_cases c0 : l.length < 12
  · rw [if_pos c0] at h0; exact absurd h0 (by decide)
  rw [if_neg c0] at h0
  split at h0
  · exact absurd h0 (by decide)
  rename_i c1
  split at h0
  · exact absurd h0 (by decide)
  split at h0
  · exact absurd h0 (by decide)
  split at h0
  case isFalse => exact absurd h0 (by decide)
  rename_i c2 c3 c4
  exact ⟨by omega, Classical.byContradiction fun h => c1 (.inl h), Classical.byContradiction fun h => c1 (.inr (.inl (by omega))), Classical.byContradiction fun h => c1 (.inr (.inr h)), by omega, c4⟩
theorem getD_take' {l : List Int} {n i : Nat} (h : i < n) : (l.take n).getD i 0 = l.getD i 0 := by
  rw [List.getD_eq_getElem?_getD, List.getD_eq_getElem?_getD, List.getElem?_take_of_lt h]
theorem getD_app' {l m : List Int} {i : Nat} (h : i < l.length) : (l ++ m).getD i 0 = l.getD i 0 := by
  rw [List.getD_eq_getElem?_getD, List.getD_eq_getElem?_getD, List.getElem?_append_left h]
theorem why18_take {l : List Int} (h0 : why18 l = 0) {c : Nat} (hc : c < l.length) : why18 (l.take c) = 2 := by
  obtain ⟨h1, h2, h3, h4, h5, _⟩ := why18_hd h0
  have hlen : (l.take c).length = c := by rw [List.length_take]; omega
  unfold why18
  by_cases c0 : c < 12
  · rw [if_pos (by omega)]
  have e1 : cnt (l.take c) = cnt l := by unfold cnt; rw [getD_take' (by omega)]
  have e2 : hdr (l.take c) = hdr l := by unfold hdr; rw [getD_take' (by omega)]
  have e3 : (l.take c).take 2 = l.take 2 := by rw [List.take_take, show min 2 c = 2 by omega]
  rw [if_neg (by omega), e1, e2, e3, if_neg (fun h => h.elim (fun h => h h2) fun h => h.elim (fun h => by omega) fun h => h h4), if_pos (by omega)]
theorem why18_more {l m : List Int} (h0 : why18 l = 0) (hm : 0 < m.length) : why18 (l ++ m) = 5 := by
  obtain ⟨h1, h2, h3, h4, h5, _⟩ := why18_hd h0
  have hlen : (l ++ m).length = l.length + m.length := List.length_append
  have e1 : cnt (l ++ m) = cnt l := by unfold cnt; rw [getD_app' (by omega)]
  have e2 : hdr (l ++ m) = hdr l := by unfold hdr; rw [getD_app' (by omega)]
  have e3 : (l ++ m).take 2 = l.take 2 := by rw [List.take_append_of_le_length (by omega)]
  unfold why18
  rw [if_neg (by omega), e1, e2, e3, if_neg (fun h => h.elim (fun h => h h2) fun h => h.elim (fun h => by omega) fun h => h h4), if_neg (by omega), if_pos (by omega)]
theorem dec_why {b0 b1 : Bool} {l : List Int} (hl : isB l) (hn : l.length ≤ 10000) (h : why18 l ≠ 0) : go_report_Decode b0 b1 l = some (0, 0, true, true, [], true, true, [], why18 l) := by
  rcases decode_at b0 b1 l hl hn with ⟨_, h1⟩ | ⟨h1, _⟩
  · exact h1
  · exact absurd h1 h
theorem law_ReportTurned {n0 n1 : Int} {b2 b3 : Bool} {l4 : List Int} {b5 b6 : Bool} {l7 : List Int} {n8 n9 : Int} {b10 b11 : Bool} {l12 : List Int} (w0 : (Lit.int .i64 n0).wf = true) (w1 : (Lit.int .i64 n1).wf = true) (w2 : l4.length ≤ maxLen) (c2 : ∀ x ∈ l4, (Lit.int .i64 x).wf = true) (g2 : b2 = true → l4 = [])
    (w3 : l7.length ≤ maxLen) (c3 : ∀ x ∈ l7, (Lit.int .i64 x).wf = true) (g3 : b5 = true → l7 = []) (w4 : (Lit.int .i64 n8).wf = true) (w5 : (Lit.int .u8 n9).wf = true) (w6 : l12.length ≤ maxLen) (c6 : ∀ x ∈ l12, (Lit.int .u8 x).wf = true) (g6 : b10 = true → l12 = []) :
    go_coupletlaw18_ReportTurned n0 n1 b2 b3 l4 b5 b6 l7 n8 n9 b10 b11 l12 = some true := by
  unfold go_coupletlaw18_ReportTurned
  rw [awake18]
  by_cases hr : R18 n0 n1 l4 l7
  case neg =>
    rw [encode_not _ _ _ _ hr, Option.bind_some]
    cases decide (((l4.length : Nat) : Int) > 20) <;> cases decide (((l7.length : Nat) : Int) > 20) <;> rfl
  have hB := bytes18_isB (q := n1) (X := l4) (D := l7) hr.1 hr.2.1 hr.2.2.2.2.1
  have hl := bytes18_len n0 n1 l4 l7
  have hb := bytes_read hr
  have hX : l4.length ≤ 4 := hr.2.2.2.2.1
  have hD : l4.length = l7.length := hr.2.2.2.2.2.1
  rw [encode_at _ _ _ _ hr, Option.bind_some, decide_eq_false (by omega), decide_eq_false (by omega), cond_false, cond_false]
  dsimp only
  rw [bne_self_eq_false, cond_false]
  generalize hbs : bytes18 n0 n1 l4 l7 = bs at *
  by_cases s2 : n8 < 0
  · rw [decide_eq_true s2]; rfl
  by_cases s3 : n8 ≥ ((bs.length : Nat) : Int)
  · rw [decide_eq_false s2, decide_eq_true s3]; rfl
  rw [decide_eq_false s2, decide_eq_false s3, cond_false, cond_false, ibeq]
  by_cases s4 : n9 = 0
  · rw [decide_eq_true s4]; rfl
  rw [decide_eq_false s4, cond_false]
  by_cases s5 : ((l12.length : Nat) : Int) < 1
  · rw [decide_eq_true s5]; rfl
  by_cases s6 : ((l12.length : Nat) : Int) > 20
  · rw [decide_eq_false s5, decide_eq_true s6]; rfl
  rw [decide_eq_false s5, decide_eq_false s6, cond_false, cond_false]
  obtain ⟨c, rfl⟩ : ∃ c : Nat, n8 = (c : Int) := ⟨n8.toNat, by omega⟩
  have hc : c < bs.length := by omega
  have hx := hB _ (List.getElem_mem hc)
  have hM := isB_wf c6
  have hn9 : 0 ≤ n9 ∧ n9 < 256 := isB_wf (l := [n9]) (fun x hx => by rw [List.mem_singleton.1 hx]; exact w5) n9 (List.mem_singleton.2 rfl)
  obtain ⟨hy, hne⟩ := turned_byte hx hn9 s4
  have hB' : isB (bs.set c (IntKind.wrap .u8 (bXor .u8 bs[c] n9))) := fun z hz => by
    rcases List.mem_or_eq_of_mem_set hz with h | h
    · exact hB z h
    · exact h ▸ hy
  have hl' : (bs.set c (IntKind.wrap .u8 (bXor .u8 bs[c] n9))).length = bs.length := List.length_set ..
  have e1 := why18_take hb.1 hc
  have e2 := why18_more (m := l12) hb.1 (by omega)
  have d1 := dec_why (b0 := false) (b1 := false) (isB_take hB c) (by rw [List.length_take]; omega) (by rw [e1]; decide)
  have d2 := dec_why (b0 := false) (b1 := false) (isB_append.2 ⟨hB, hM⟩) (by rw [List.length_append]; omega) (by rw [e2]; decide)
  rw [e1] at d1
  rw [e2] at d2
  have d3 : why18 (bs.set c (IntKind.wrap .u8 (bXor .u8 bs[c] n9))) ≠ 0 := fun h => by
    have k1 := (why18_hd hb.1).2.2.2.2.2
    have k2 := (why18_hd h).2.2.2.2.2
    rw [hl'] at k2
    exact absurd (crc_set hB hc hy k1 k2) hne
  have d4 := dec_why (b0 := false) (b1 := false) hB' (by omega) d3
  have hp : lp_coupletlaw18_ReportTurned_0 (c : Int) n9 b10 b11 l12 false false bs = some ((c : Int), n9, 2, 5, false, false, bs) := by
    unfold lp_coupletlaw18_ReportTurned_0 st_coupletlaw18_ReportTurned_0
    simp only [Bool.false_and, List.nil_append, List.drop_zero, Int.sub_zero, Int.toNat_natCast, d1, d2, Option.bind_some]
    rw [decide_eq_true (show (0 : Int) ≤ (c : Int) by omega), decide_eq_true (show (c : Int) ≤ ((bs.length : Nat) : Int) by omega), decide_eq_true (show (0 + bs.length) * 1 ≤ 140737488355328 by omega), decide_eq_true (show 0 + bs.length ≤ 4611686018427387904 by omega),
      decide_eq_true (show (bs.length + l12.length) * 1 ≤ 140737488355328 by omega), decide_eq_true (show bs.length + l12.length ≤ 4611686018427387904 by omega)]
    rfl
  rw [hp, Option.bind_some]
  dsimp only
  rw [decide_eq_true (show (0 : Int) ≤ (c : Int) by omega), decide_eq_true (show (c : Int) < ((bs.length : Nat) : Int) by omega), Int.toNat_natCast, decide_eq_true hc, getD_at hc]
  simp only [cond_true]
  rw [d4, Option.bind_some]
  dsimp only
  rw [bne_l, decide_eq_false d3, same_at _ _ _ _ _ _ _ _ _ _ _ _ _ _ _ _ (by decide) (by decide)]
  rfl
end Go.Proofs
