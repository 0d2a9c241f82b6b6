import Derived.Test.YtajphaljpkeecaaDoorWWire
import Derived.Test.YtajphaljpkeecaaDoorWSPb
import Derived.Test.YtajphaljpkeecaaDoorWGC0
import Derived.Test.YtajphaljpkeecaaDoorWGC12
import Derived.Test.YtajphaljpkeecaaDoorWSFp
import Derived.Test.YtajphaljpkeecaaDoorFxRng
import Derived.Test.YtajphaljpkeecaaDoorChecked
set_option linter.unusedVariables false
set_option maxRecDepth 100000
noncomputable section
namespace Go.Proofs
open Go Go.Fx
def xf_scan_All_0 : Opd := (.tmp 11)
def xa_scan_All_0 : XR := (.seq (.ops false [⟨⟨(some 6), (.mv (.tmp 12)), none⟩, none⟩]) (.ops false [⟨⟨(some 7), (.alloc 24 [(.int .i64 (0)), (.int .i64 (0)), (.int .i64 (0)), (.isl true true .i64 [])]), none⟩, none⟩, ⟨⟨none, (.st 4 (.tmp 7) (.tmp 13)), none⟩, none⟩]))
def xb_scan_All_0 : XR := (.block 1 (.seq (.ops false [⟨⟨(some 14), (.ld false 1 (.tmp 4)), none⟩, (some (.sl 4))⟩, ⟨⟨(some 15), (.ld true 4 (.tmp 7)), none⟩, (some (.agg [(.int .i64), (.int .i64), (.int .i64), (.isl .i64)]))⟩, ⟨⟨(some 16), (.bsl 24 none 4 [(.tmp 15)]), none⟩, none⟩, ⟨⟨(some 17), (.app 24 none 4 48 (.tmp 14) (.tmp 16)), none⟩, none⟩, ⟨⟨none, (.st 1 (.tmp 4) (.tmp 17)), none⟩, none⟩]) (.ops true [⟨⟨(some 18), (.ld false 1 (.tmp 5)), none⟩, (some (.int .i64))⟩, ⟨⟨(some 19), (.ld false 1 (.tmp 1)), none⟩, (some (.isl .u8))⟩, ⟨⟨(some 20), (.mv (.tmp 6)), none⟩, none⟩, ⟨⟨(some 21), (.slc 1 (.tmp 19) (some (.tmp 20)) none none), none⟩, none⟩, ⟨⟨(some 22), (.call (.func 45) [(.tmp 21)]), none⟩, none⟩, ⟨⟨(some 23), (.bin .sub (.tmp 18) (.tmp 22)), none⟩, none⟩, ⟨⟨none, (.st 1 (.tmp 5) (.tmp 23)), none⟩, none⟩])))
def xr_scan_All : XR := (.seq (.ops false [⟨⟨(some 1), (.box 26 (.tmp 0)), none⟩, none⟩, ⟨⟨(some 2), (.mv (.c (.sl true true 4 []))), none⟩, none⟩, ⟨⟨(some 3), (.mv (.c (.int .i64 (0)))), none⟩, none⟩]) (.seq (.ops false [⟨⟨(some 4), (.alloc 60 [(.sl true true 4 [])]), none⟩, none⟩]) (.seq (.ops false [⟨⟨(some 8), (.ld false 1 (.tmp 1)), none⟩, (some (.isl .u8))⟩, ⟨⟨(some 9), (.len (.tmp 8)), none⟩, none⟩, ⟨⟨(some 5), (.alloc 3 [(.int .i64 (0))]), none⟩, none⟩, ⟨⟨none, (.st 1 (.tmp 5) (.tmp 9)), none⟩, none⟩]) (.seq (.seq (.ops false [⟨⟨(some 10), (.ld false 1 (.tmp 1)), none⟩, (some (.isl .u8))⟩, ⟨⟨(some 11), (.call (.func 42) [(.tmp 10)]), none⟩, none⟩]) (.block 0 (.range 0 [1, 4, 5, 11] xf_scan_All_0 [12, 13] xa_scan_All_0 xb_scan_All_0))) (.seq (.ops true [⟨⟨(some 24), (.ld false 1 (.tmp 4)), none⟩, (some (.sl 4))⟩, ⟨⟨(some 25), (.ld false 1 (.tmp 5)), none⟩, (some (.int .i64))⟩, ⟨⟨(some 2), (.mv (.tmp 24)), none⟩, none⟩, ⟨⟨(some 3), (.mv (.tmp 25)), none⟩, none⟩]) .ret)))))
def rs_scan_All : List ResultVar := [(.tmp 2), (.tmp 3)]
theorem ir_scan_All : compCode Tryd.prog (Tryd.f44.body.getD .skip) [] = some (xr_scan_All.erase, []) := by kernel_rfl
def gm_scan_All : Gam := (Gam.fn 42 as_scan_Frames ga_scan_Frames em_scan_Frames (Gam.fn 45 as_scan_Size ga_scan_Size em_scan_Size Gam.bot))
theorem gk_scan_All : GamOk Tryd.prog GG gm_scan_All := (GamOk.fn at_scan_Frames (GamOk.fn at_scan_Size GamOk.bot))
def it_scan_All_0 (b4 : Bool) (b5 : Bool) (l6 : List Int) (b7 : Bool) (b8 : Bool) (l9 : List Int) (n10 : Int) (b11 : Bool) (b12 : Bool) (es13 : List PV) : Option (List (Int × Int × Int × Int × Bool × Bool × List Int)) := it_frames b4 b5 l6
def cp_scan_All_0 (b4 : Bool) (b5 : Bool) (l6 : List Int) (b7 : Bool) (b8 : Bool) (l9 : List Int) (n10 : Int) (b11 : Bool) (b12 : Bool) (es13 : List PV) : List PV := [(.ref 0 [(.isl b4 b5 .u8 l6)])]
def st_scan_All_0 (b4 : Bool) (b5 : Bool) (l6 : List Int) (b7 : Bool) (b8 : Bool) (l9 : List Int) (n10 : Int) (b11 : Bool) (b12 : Bool) (es13 : List PV) (u14 : (Int × Int × Int × Int × Bool × Bool × List Int)) : Option (((Bool × Bool × List Int × Bool × Bool × List Int × Int × Bool × Bool × List PV)) ⊕ (Unit)) :=
  bif (decide ((((List.length es13) + 1) * 48) ≤ 140737488355328)) then
   bif (decide (((List.length es13) + 1) ≤ 4611686018427387904)) then
    bif (decide (0 ≤ u14.1)) then
     bif (decide (u14.1 ≤ (((List.length l9) : Nat) : Int))) then
      bif (decide ((((List.length l9) : Nat) : Int) ≤ (((List.length l9) : Nat) : Int))) then
       (go_scan_Size b7 b8 (List.take (Int.toNat ((((List.length l9) : Nat) : Int) - u14.1)) (List.drop (Int.toNat u14.1) l9))).bind fun r15 =>
       some (Sum.inl (b4, b5, l6, b7, b8, l9, (IntKind.wrap .i64 (n10 - r15)), (b11 && false), false, (es13 ++ [(.agg [(.int .i64 u14.2.1), (.int .i64 u14.2.2.1), (.int .i64 u14.2.2.2.1), (.isl u14.2.2.2.2.1 u14.2.2.2.2.2.1 .i64 u14.2.2.2.2.2.2)])])))
      else none
     else none
    else none
   else none
  else none
def lp_scan_All_0 (b4 : Bool) (b5 : Bool) (l6 : List Int) (b7 : Bool) (b8 : Bool) (l9 : List Int) (n10 : Int) (b11 : Bool) (b12 : Bool) (es13 : List PV) : Option (((Bool × Bool × List Int × Bool × Bool × List Int × Int × Bool × Bool × List PV)) ⊕ (Unit)) := (it_scan_All_0 b4 b5 l6 b7 b8 l9 n10 b11 b12 es13).bind fun is => foldS (X := (Bool × Bool × List Int × Bool × Bool × List Int × Int × Bool × Bool × List PV)) (fun x i => st_scan_All_0 x.1 x.2.1 x.2.2.1 x.2.2.2.1 x.2.2.2.2.1 x.2.2.2.2.2.1 x.2.2.2.2.2.2.1 x.2.2.2.2.2.2.2.1 x.2.2.2.2.2.2.2.2.1 x.2.2.2.2.2.2.2.2.2 i) is (b4, b5, l6, b7, b8, l9, n10, b11, b12, es13)
def sh_scan_All_0 : StSh := ⟨26, [(1, (.ptr 0 0)), (4, (.ptr 1 0)), (5, (.ptr 2 0)), (11, (.p (.fn 64 [(.ref 0 [(.isl .u8)])])))], [(.box 26 [(.p (.isl .u8))]), (.box 60 [(.row 3)]), (.box 3 [(.p (.int .i64))]), (.row 24 4)]⟩
def sx_scan_All_0 (x : (Bool × Bool × List Int × Bool × Bool × List Int × Int × Bool × Bool × List PV)) : St := ⟨slots 26 0 [(1, (.ptr 0 0)), (4, (.ptr 1 0)), (5, (.ptr 2 0)), (11, (.p (.fn 64 [(.ref 0 [(.isl x.1 x.2.1 .u8 x.2.2.1)])])))], [(.box 26 [(.p (.isl x.2.2.2.1 x.2.2.2.2.1 .u8 x.2.2.2.2.2.1))]), (.box 60 [(.row 3)]), (.box 3 [(.p (.int .i64 x.2.2.2.2.2.2.1))]), (.row 24 4 x.2.2.2.2.2.2.2.1 x.2.2.2.2.2.2.2.2.1 x.2.2.2.2.2.2.2.2.2)]⟩
def sa_scan_All_0 (S : St) : (Bool × Bool × List Int × Bool × Bool × List Int × Int × Bool × Bool × List PV) := (((((tls 11 S.t).headD .any).pv.subs.headD .nilSl).subs.headD .nilSl).nl, ((((tls 11 S.t).headD .any).pv.subs.headD .nilSl).subs.headD .nilSl).ex, ((((tls 11 S.t).headD .any).pv.subs.headD .nilSl).subs.headD .nilSl).ints, (((tls 0 S.own).headD .gone).subs.headD .any).pv.nl, (((tls 0 S.own).headD .gone).subs.headD .any).pv.ex, (((tls 0 S.own).headD .gone).subs.headD .any).pv.ints, (((tls 2 S.own).headD .gone).subs.headD .any).pv.num, ((tls 3 S.own).headD .gone).pvD.nl, ((tls 3 S.own).headD .gone).pvD.ex, ((tls 3 S.own).headD .gone).pvD.elts)
def kb_scan_All_0 : Exit → St → Tree (((Bool × Bool × List Int × Bool × Bool × List Int × Int × Bool × Bool × List PV)) ⊕ (Unit)) := exNil
def ky_scan_All_0 : Dec (Unit) := fun _ y ke => .fail
theorem kk_scan_All_0 : ExOk Sum.inr kb_scan_All_0 ky_scan_All_0 := ExOk.nil
def lm_scan_All : Lam := fun _ j S kn ke => match j with
  | 0 => prepT [1, 4, 5, 11] [(100400, 24)] S fun S => .chk (sh_scan_All_0.ok S) (.bind ((fun x => (it_scan_All_0 x.1 x.2.1 x.2.2.1 x.2.2.2.1 x.2.2.2.2.1 x.2.2.2.2.2.1 x.2.2.2.2.2.2.1 x.2.2.2.2.2.2.2.1 x.2.2.2.2.2.2.2.2.1 x.2.2.2.2.2.2.2.2.2).bind fun is => foldS (X := (Bool × Bool × List Int × Bool × Bool × List Int × Int × Bool × Bool × List PV)) (fun x i => st_scan_All_0 x.1 x.2.1 x.2.2.1 x.2.2.2.1 x.2.2.2.2.1 x.2.2.2.2.2.1 x.2.2.2.2.2.2.1 x.2.2.2.2.2.2.2.1 x.2.2.2.2.2.2.2.2.1 x.2.2.2.2.2.2.2.2.2 i) is x) (sa_scan_All_0 S)) fun r => .sum r (fun x => kn (sx_scan_All_0 x)) (fun y => ky_scan_All_0 _ y ke))
  | _ => .fail
theorem sr_scan_All_0 (x : (Bool × Bool × List Int × Bool × Bool × List Int × Int × Bool × Bool × List PV)) (i : (Int × Int × Int × Int × Bool × Bool × List Int)) : (ev GG gm_scan_All lm_scan_All xa_scan_All_0 ⟨setL (sx_scan_All_0 x).t [12, 13] (ie_frames i), (sx_scan_All_0 x).own⟩ (fun S1 => ev GG gm_scan_All lm_scan_All xb_scan_All_0 S1 (fun S => forgetT [1, 4, 5, 11] ⟨(sx_scan_All_0 x).t, S.own⟩ fun S => prepT [1, 4, 5, 11] [(100400, 24)] S fun S => .chk (sh_scan_All_0.ok S) (.leaf (.inl (sa_scan_All_0 S)))) (fun e S => kb_scan_All_0 e ⟨(sx_scan_All_0 x).t, S.own⟩)) (fun _ _ => .fail)).run = st_scan_All_0 x.1 x.2.1 x.2.2.1 x.2.2.2.1 x.2.2.2.2.1 x.2.2.2.2.2.1 x.2.2.2.2.2.2.1 x.2.2.2.2.2.2.2.1 x.2.2.2.2.2.2.2.2.1 x.2.2.2.2.2.2.2.2.2 i := by kernel_rfl
theorem la_scan_All_0 : LamAt Tryd.prog GG lm_scan_All 0 (.rangeF xf_scan_All_0 [12, 13] xa_scan_All_0.erase xb_scan_All_0.erase) := lam_range (asg := xa_scan_All_0) (bdy := xb_scan_All_0) (Λ0 := lm_scan_All) gk_scan_All (by kernel_rfl) (by kernel_rfl) (fun S => (by kernel_rfl : sh_scan_All_0.build S = sx_scan_All_0 (sa_scan_All_0 S))) (caps := fun x => cp_scan_All_0 x.1 x.2.1 x.2.2.1 x.2.2.2.1 x.2.2.2.2.1 x.2.2.2.2.2.1 x.2.2.2.2.2.2.1 x.2.2.2.2.2.2.2.1 x.2.2.2.2.2.2.2.2.1 x.2.2.2.2.2.2.2.2.2) (fun x => (by kernel_rfl : evS GG (sx_scan_All_0 x) xf_scan_All_0 = .p (.fn 64 (cp_scan_All_0 x.1 x.2.1 x.2.2.1 x.2.2.2.1 x.2.2.2.2.1 x.2.2.2.2.2.1 x.2.2.2.2.2.2.1 x.2.2.2.2.2.2.2.1 x.2.2.2.2.2.2.2.2.1 x.2.2.2.2.2.2.2.2.2)))) (its := fun x => it_scan_All_0 x.1 x.2.1 x.2.2.1 x.2.2.2.1 x.2.2.2.2.1 x.2.2.2.2.2.1 x.2.2.2.2.2.2.1 x.2.2.2.2.2.2.2.1 x.2.2.2.2.2.2.2.2.1 x.2.2.2.2.2.2.2.2.2) (emb := ie_frames) (fun i => rfl) (fun x is h => sq_frames _ _ _ is h) (step := fun x i => st_scan_All_0 x.1 x.2.1 x.2.2.1 x.2.2.2.1 x.2.2.2.2.1 x.2.2.2.2.2.1 x.2.2.2.2.2.2.1 x.2.2.2.2.2.2.2.1 x.2.2.2.2.2.2.2.2.1 x.2.2.2.2.2.2.2.2.2 i) kk_scan_All_0 sr_scan_All_0 (fun _ _ _ => rfl)
def go_scan_All (b0 : Bool) (b1 : Bool) (l2 : List Int) : Option (Bool × Bool × List PV × Int) :=
  (go_scan_Frames b0 b1 l2).bind fun r3 =>
  (lp_scan_All_0 r3.1 r3.2.1 r3.2.2 b0 b1 l2 (((List.length l2) : Nat) : Int) true true []).bind fun y16 =>
  Sum.elim (fun z17 =>
   some (z17.2.2.2.2.2.2.2.1, z17.2.2.2.2.2.2.2.2.1, z17.2.2.2.2.2.2.2.2.2, z17.2.2.2.2.2.2.1)) (fun u_ =>
   none) y16
def em_scan_All (r : (Bool × Bool × List PV × Int)) : PV := (.tup [(.sl r.1 r.2.1 4 r.2.2.1), (.int .i64 r.2.2.2)])
def rh_scan_All : Shp := (.tup [(.sl 4), (.int .i64)])
def ra_scan_All (v : PV) : (Bool × Bool × List PV × Int) := ((v.subs.headD .nilSl).nl, (v.subs.headD .nilSl).ex, (v.subs.headD .nilSl).elts, (v.subs.tail.headD .nilSl).num)
def kf_scan_All (v : PV) : Tree (Bool × Bool × List PV × Int) := .chk (rh_scan_All.ok v) (.leaf (ra_scan_All v))
theorem rn_scan_All (b0 : Bool) (b1 : Bool) (l2 : List Int) : (ev GG gm_scan_All lm_scan_All xr_scan_All ⟨slots 26 0 [(0, .p (.isl b0 b1 .u8 l2))], []⟩ (fun S => finT Tryd.prog rs_scan_All S kf_scan_All) (retT Tryd.prog rs_scan_All kf_scan_All)).run = go_scan_All b0 b1 l2 := by kernel_rfl
theorem ok_scan_All (b0 : Bool) (b1 : Bool) (l2 : List Int) (r : (Bool × Bool × List PV × Int)) (h : go_scan_All b0 b1 l2 = some r) : FunEq Tryd.prog GG 44 [(.isl b0 b1 .u8 l2)] (em_scan_All r) :=
  fun_of_ev (x := xr_scan_All) (Λ := lm_scan_All) gk_scan_All [] Tryd.func44 rfl (by kernel_rfl) ir_scan_All (by kernel_rfl) (congrArg Array.toList Tryd.results44) Tryd.ntmps44 (⟨trivial, ⟨trivial, ⟨trivial, ⟨⟨trivial, la_scan_All_0⟩, ⟨trivial, trivial⟩⟩⟩⟩⟩) (leaf_of fun v => (by kernel_rfl : rh_scan_All.build v = em_scan_All (ra_scan_All v))) (by kernel_rfl) ((rn_scan_All b0 b1 l2).trans h)
def as_scan_All : List Shp := [(.isl .u8)]
def ga_scan_All (vs : List PV) : Option (Bool × Bool × List PV × Int) := go_scan_All ((tls 0 vs).headD .nilSl).nl ((tls 0 vs).headD .nilSl).ex ((tls 0 vs).headD .nilSl).ints
theorem at_scan_All : FnAt Tryd.prog GG 44 as_scan_All ga_scan_All em_scan_All := fun vs h r hr => by
  have e : Shp.buildL as_scan_All vs = [(.isl ((tls 0 vs).headD .nilSl).nl ((tls 0 vs).headD .nilSl).ex .u8 ((tls 0 vs).headD .nilSl).ints)] := by kernel_rfl
  rw [← Shp.buildL_eq _ h, e]
  exact .inl ⟨by decide, ok_scan_All _ _ _ r hr⟩
def xb_scan_Join_0 : XR := (.seq (.ops false [⟨⟨(some 12), (.bin .lss (.tmp 11) (.tmp 10)), none⟩, none⟩]) (.seq (.cond (.tmp 12) .skip (.exit 0)) (.seq (.block 1 (.seq (.ops false [⟨⟨(some 13), (.ixA 4 (.tmp 9) (.tmp 11)), none⟩, none⟩, ⟨⟨(some 14), (.ld true 4 (.tmp 13)), none⟩, (some (.agg [(.int .i64), (.int .i64), (.int .i64), (.isl .i64)]))⟩, ⟨⟨(some 6), (.alloc 24 [(.int .i64 (0)), (.int .i64 (0)), (.int .i64 (0)), (.isl true true .i64 [])]), none⟩, none⟩, ⟨⟨none, (.st 4 (.tmp 6) (.tmp 14)), none⟩, none⟩]) (.seq (.ops false [⟨⟨(some 16), (.ld true 4 (.tmp 6)), none⟩, (some (.agg [(.int .i64), (.int .i64), (.int .i64), (.isl .i64)]))⟩, ⟨⟨(some 17), (.callN 21 5 [(.tmp 16)]), none⟩, none⟩, ⟨⟨(some 15), (.mv (.tmp 17)), none⟩, none⟩, ⟨⟨(some 18), (.ext (.tmp 15) 0), none⟩, none⟩, ⟨⟨(some 19), (.ext (.tmp 15) 1), none⟩, none⟩, ⟨⟨(some 7), (.mv (.tmp 18)), none⟩, none⟩, ⟨⟨(some 8), (.mv (.tmp 19)), none⟩, none⟩]) (.seq (.seq (.ops false [⟨⟨(some 20), (.mv (.tmp 8)), none⟩, none⟩, ⟨⟨(some 21), (.bin .neq (.tmp 20) (.c (.int .i64 (0)))), none⟩, none⟩]) (.cond (.tmp 21) (.seq (.ops false [⟨⟨(some 22), (.mv (.tmp 8)), none⟩, none⟩, ⟨⟨(some 2), (.mv (.c (.isl true true .u8 []))), none⟩, none⟩, ⟨⟨(some 3), (.mv (.tmp 22)), none⟩, none⟩]) .ret) .skip)) (.ops false [⟨⟨(some 23), (.mv (.tmp 4)), none⟩, none⟩, ⟨⟨(some 24), (.mv (.tmp 7)), none⟩, none⟩, ⟨⟨(some 25), (.app 5 (some .u8) 1 1 (.tmp 23) (.tmp 24)), none⟩, none⟩, ⟨⟨(some 4), (.mv (.tmp 25)), none⟩, none⟩]))))) (.ops false [⟨⟨(some 26), (.bin .add (.tmp 11) (.c (.int .i64 (1)))), none⟩, none⟩, ⟨⟨(some 11), (.mv (.tmp 26)), none⟩, none⟩]))))
def xr_scan_Join : XR := (.seq (.ops false [⟨⟨(some 2), (.mv (.c (.isl true true .u8 []))), none⟩, none⟩, ⟨⟨(some 3), (.mv (.c (.int .i64 (0)))), none⟩, none⟩]) (.seq (.ops false [⟨⟨(some 4), (.mv (.c (.isl true true .u8 []))), none⟩, none⟩]) (.seq (.seq (.ops false [⟨⟨(some 9), (.mv (.tmp 0)), none⟩, none⟩, ⟨⟨(some 10), (.len (.tmp 9)), none⟩, none⟩, ⟨⟨(some 11), (.mv (.c (.int .i64 (0)))), none⟩, none⟩]) (.block 0 (.loop 0 [4, 9, 10, 11] xb_scan_Join_0))) (.seq (.ops false [⟨⟨(some 27), (.mv (.tmp 4)), none⟩, none⟩, ⟨⟨(some 2), (.mv (.tmp 27)), none⟩, none⟩, ⟨⟨(some 3), (.mv (.c (.int .i64 (0)))), none⟩, none⟩]) .ret))))
def rs_scan_Join : List ResultVar := [(.tmp 2), (.tmp 3)]
theorem ir_scan_Join : compCode Tryd.prog (Tryd.f46.body.getD .skip) [[4, 9, 10, 11]] = some (xr_scan_Join.erase, []) := by kernel_rfl
def gm_new_scan_Join : Gam := (Gam.fn 2000021 as_new_frame_Encode ga_new_frame_Encode em_new_frame_Encode Gam.bot)
theorem gk_new_scan_Join : GamOk Tryd.prog GG gm_new_scan_Join := (GamOk.fn at_new_frame_Encode GamOk.bot)
def st_new_scan_Join_0 (b3 : Bool) (b4 : Bool) (es5 : List PV) (n6 : Int) (n7 : Int) (b8 : Bool) (b9 : Bool) (l10 : List Int) : Option (((Bool × Bool × List PV × Int × Int × Bool × Bool × List Int)) ⊕ (((Bool × Bool × List Int)) ⊕ ((Bool × Bool × List Int × Int)))) :=
  bif (decide (n7 < n6)) then
   bif (decide (0 ≤ n7)) then
    bif (decide (n7 < (((List.length es5) : Nat) : Int))) then
     bif (decide ((Int.toNat n7) < (List.length es5))) then
      bif (decide ((List.length (PV.cells (List.getD es5 (Int.toNat n7) .nilSl))) = 4)) then
       bif (Shp.ok (.agg [(.int .i64), (.int .i64), (.int .i64), (.isl .i64)]) (.agg (PV.cells (List.getD es5 (Int.toNat n7) .nilSl)))) then
        (go_new_frame_Encode (PV.num (List.headD (PV.subs (.agg (PV.cells (List.getD es5 (Int.toNat n7) .nilSl)))) .nilSl)) (PV.num (List.headD (List.tail (PV.subs (.agg (PV.cells (List.getD es5 (Int.toNat n7) .nilSl))))) .nilSl)) (PV.num (List.headD (List.tail (List.tail (PV.subs (.agg (PV.cells (List.getD es5 (Int.toNat n7) .nilSl)))))) .nilSl)) (PV.nl (List.headD (List.tail (List.tail (List.tail (PV.subs (.agg (PV.cells (List.getD es5 (Int.toNat n7) .nilSl))))))) .nilSl)) (PV.ex (List.headD (List.tail (List.tail (List.tail (PV.subs (.agg (PV.cells (List.getD es5 (Int.toNat n7) .nilSl))))))) .nilSl)) (PV.ints (List.headD (List.tail (List.tail (List.tail (PV.subs (.agg (PV.cells (List.getD es5 (Int.toNat n7) .nilSl))))))) .nilSl))).bind fun r11 =>
        bif (r11.2.2.2 != 0) then
         some (Sum.inr (Sum.inr (true, true, [], r11.2.2.2)))
        else
         bif (decide ((((List.length l10) + (List.length r11.2.2.1)) * 1) ≤ 140737488355328)) then
          bif (decide (((List.length l10) + (List.length r11.2.2.1)) ≤ 4611686018427387904)) then
           some (Sum.inl (b3, b4, es5, n6, (IntKind.wrap .i64 (n7 + 1)), (b8 && (List.isEmpty r11.2.2.1)), false, (l10 ++ r11.2.2.1)))
          else none
         else none
       else none
      else none
     else none
    else none
   else none
  else
   some (Sum.inr (Sum.inl (b8, b9, l10)))
def lp_new_scan_Join_0 (b3 : Bool) (b4 : Bool) (es5 : List PV) (n6 : Int) (n7 : Int) (b8 : Bool) (b9 : Bool) (l10 : List Int) : Option (((Bool × Bool × List Int)) ⊕ ((Bool × Bool × List Int × Int))) := loopN (X := (Bool × Bool × List PV × Int × Int × Bool × Bool × List Int)) (fun x => st_new_scan_Join_0 x.1 x.2.1 x.2.2.1 x.2.2.2.1 x.2.2.2.2.1 x.2.2.2.2.2.1 x.2.2.2.2.2.2.1 x.2.2.2.2.2.2.2) (b3, b4, es5, n6, n7, b8, b9, l10)
def sh_new_scan_Join_0 : StSh := ⟨28, [(4, (.row 0)), (9, (.p (.sl 4))), (10, (.p (.int .i64))), (11, (.p (.int .i64)))], [(.irow 5 .u8)]⟩
def sx_new_scan_Join_0 (x : (Bool × Bool × List PV × Int × Int × Bool × Bool × List Int)) : St := ⟨slots 28 0 [(4, (.row 0)), (9, (.p (.sl x.1 x.2.1 4 x.2.2.1))), (10, (.p (.int .i64 x.2.2.2.1))), (11, (.p (.int .i64 x.2.2.2.2.1)))], [(.irow 5 .u8 x.2.2.2.2.2.1 x.2.2.2.2.2.2.1 x.2.2.2.2.2.2.2)]⟩
def sa_new_scan_Join_0 (S : St) : (Bool × Bool × List PV × Int × Int × Bool × Bool × List Int) := (((tls 9 S.t).headD .any).pv.nl, ((tls 9 S.t).headD .any).pv.ex, ((tls 9 S.t).headD .any).pv.elts, ((tls 10 S.t).headD .any).pv.num, ((tls 11 S.t).headD .any).pv.num, ((tls 0 S.own).headD .gone).pvD.nl, ((tls 0 S.own).headD .gone).pvD.ex, ((tls 0 S.own).headD .gone).pvD.ints)
def tz_new_scan_Join_0_1 : StSh := ⟨28, [(2, (.p (.isl .u8))), (3, (.p (.int .i64)))], []⟩
def tx_new_scan_Join_0_1 (x : (Bool × Bool × List Int × Int)) : St := ⟨slots 28 0 [(2, (.p (.isl x.1 x.2.1 .u8 x.2.2.1))), (3, (.p (.int .i64 x.2.2.2)))], []⟩
def ta_new_scan_Join_0_1 (S : St) : (Bool × Bool × List Int × Int) := (((tls 2 S.t).headD .any).pv.nl, ((tls 2 S.t).headD .any).pv.ex, ((tls 2 S.t).headD .any).pv.ints, ((tls 3 S.t).headD .any).pv.num)
def tz_new_scan_Join_0_0 : StSh := ⟨28, [(4, (.row 0))], [(.irow 5 .u8)]⟩
def tx_new_scan_Join_0_0 (x : (Bool × Bool × List Int)) : St := ⟨slots 28 0 [(4, (.row 0))], [(.irow 5 .u8 x.1 x.2.1 x.2.2)]⟩
def ta_new_scan_Join_0_0 (S : St) : (Bool × Bool × List Int) := (((tls 0 S.own).headD .gone).pvD.nl, ((tls 0 S.own).headD .gone).pvD.ex, ((tls 0 S.own).headD .gone).pvD.ints)
def kb_new_scan_Join_0 : Exit → St → Tree (((Bool × Bool × List PV × Int × Int × Bool × Bool × List Int)) ⊕ (((Bool × Bool × List Int)) ⊕ ((Bool × Bool × List Int × Int)))) := (exOne (.exit 0) [4] tz_new_scan_Join_0_0 ta_new_scan_Join_0_0 (fun y => Sum.inr ((Sum.inl y))) (exOne .ret [2, 3] tz_new_scan_Join_0_1 ta_new_scan_Join_0_1 (fun y => Sum.inr ((Sum.inr y))) exNil))
def ky_new_scan_Join_0 : Dec (((Bool × Bool × List Int)) ⊕ ((Bool × Bool × List Int × Int))) := fun _ y ke => .sum y (fun a => ke ((.exit 0) : EK).ex (tx_new_scan_Join_0_0 a)) (fun y' => ke (.ret : EK).ex (tx_new_scan_Join_0_1 y'))
theorem kk_new_scan_Join_0 : ExOk Sum.inr kb_new_scan_Join_0 ky_new_scan_Join_0 := (ExOk.one (acc := ta_new_scan_Join_0_0) (bY := tx_new_scan_Join_0_0) (inj1 := fun y => (Sum.inl y)) (fun S => by kernel_rfl) (fun y _ ke => .inr (by kernel_rfl)) (ExOk.one (acc := ta_new_scan_Join_0_1) (bY := tx_new_scan_Join_0_1) (inj1 := fun y => (Sum.inr y)) (fun S => by kernel_rfl) (fun y _ ke => .inr (by kernel_rfl)) ExOk.nil))
def lm_new_scan_Join : Lam := fun _ j S kn ke => match j with
  | 0 => prepT [4, 9, 10, 11] [(4, 5)] S fun S => .chk (sh_new_scan_Join_0.ok S) (.bind (loopN (fun x => st_new_scan_Join_0 x.1 x.2.1 x.2.2.1 x.2.2.2.1 x.2.2.2.2.1 x.2.2.2.2.2.1 x.2.2.2.2.2.2.1 x.2.2.2.2.2.2.2) (sa_new_scan_Join_0 S)) fun y => ky_new_scan_Join_0 _ y ke)
  | _ => .fail
theorem sr_new_scan_Join_0 (x : (Bool × Bool × List PV × Int × Int × Bool × Bool × List Int)) : (ev GG gm_new_scan_Join lm_new_scan_Join xb_scan_Join_0 (sx_new_scan_Join_0 x) (fun S => forgetT [4, 9, 10, 11] S fun S => prepT [4, 9, 10, 11] [(4, 5)] S fun S => .chk (sh_new_scan_Join_0.ok S) (.leaf (.inl (sa_new_scan_Join_0 S)))) kb_new_scan_Join_0).run = st_new_scan_Join_0 x.1 x.2.1 x.2.2.1 x.2.2.2.1 x.2.2.2.2.1 x.2.2.2.2.2.1 x.2.2.2.2.2.2.1 x.2.2.2.2.2.2.2 := by kernel_rfl
theorem la_new_scan_Join_0 : LamAt Tryd.prog GG lm_new_scan_Join 0 (.loop [4, 9, 10, 11] xb_scan_Join_0.erase) := lam_loop (body := xb_scan_Join_0) (Λ' := lm_new_scan_Join) gk_new_scan_Join (⟨trivial, ⟨⟨trivial, trivial⟩, ⟨⟨trivial, ⟨trivial, ⟨⟨trivial, ⟨⟨trivial, trivial⟩, trivial⟩⟩, trivial⟩⟩⟩, trivial⟩⟩⟩) (fun S => (by kernel_rfl : sh_new_scan_Join_0.build S = sx_new_scan_Join_0 (sa_new_scan_Join_0 S))) kk_new_scan_Join_0 sr_new_scan_Join_0 (fun _ _ _ => rfl)
def go_new_scan_Join (b0 : Bool) (b1 : Bool) (es2 : List PV) : Option (Bool × Bool × List Int × Int) :=
  (lp_new_scan_Join_0 b0 b1 es2 (((List.length es2) : Nat) : Int) 0 true true []).bind fun y12 =>
  Sum.elim (fun z13 =>
   some (z13.1, z13.2.1, z13.2.2, 0)) (fun z14 =>
   bif z14.1 then
    some (true, true, [], z14.2.2.2)
   else none) y12
def em_new_scan_Join (r : (Bool × Bool × List Int × Int)) : PV := (.tup [(.isl r.1 r.2.1 .u8 r.2.2.1), (.int .i64 r.2.2.2)])
def rh_new_scan_Join : Shp := (.tup [(.isl .u8), (.int .i64)])
def ra_new_scan_Join (v : PV) : (Bool × Bool × List Int × Int) := ((v.subs.headD .nilSl).nl, (v.subs.headD .nilSl).ex, (v.subs.headD .nilSl).ints, (v.subs.tail.headD .nilSl).num)
def kf_new_scan_Join (v : PV) : Tree (Bool × Bool × List Int × Int) := .chk (rh_new_scan_Join.ok v) (.leaf (ra_new_scan_Join v))
theorem rn_new_scan_Join (b0 : Bool) (b1 : Bool) (es2 : List PV) : (ev GG gm_new_scan_Join lm_new_scan_Join xr_scan_Join ⟨slots 28 0 [(0, .p (.sl b0 b1 4 es2))], []⟩ (fun S => newT Tryd.prog 5 rs_scan_Join S kf_new_scan_Join) (retN Tryd.prog 5 rs_scan_Join kf_new_scan_Join)).run = go_new_scan_Join b0 b1 es2 := by kernel_rfl
theorem ok_new_scan_Join (b0 : Bool) (b1 : Bool) (es2 : List PV) (r : (Bool × Bool × List Int × Int)) (h : go_new_scan_Join b0 b1 es2 = some r) : FunNewT Tryd.prog GG (46 + 2000000) (.ref 5 [] :: [(.sl b0 b1 4 es2)]) (em_new_scan_Join r) :=
  new_of_ev (x := xr_scan_Join) (Λ := lm_new_scan_Join) gk_new_scan_Join [[4, 9, 10, 11]] Tryd.func46 rfl (by kernel_rfl) ir_scan_Join (by kernel_rfl) (congrArg Array.toList Tryd.results46) Tryd.ntmps46 (⟨trivial, ⟨trivial, ⟨⟨trivial, la_new_scan_Join_0⟩, ⟨trivial, trivial⟩⟩⟩⟩) (leaf_of fun v => (by kernel_rfl : rh_new_scan_Join.build v = em_new_scan_Join (ra_new_scan_Join v))) ⟨_, _, _, _, _, rfl⟩ (by kernel_rfl) ((rn_new_scan_Join b0 b1 es2).trans h)
def as_new_scan_Join : List Shp := [(.ref 5 []), (.sl 4)]
def ga_new_scan_Join (vs : List PV) : Option (Bool × Bool × List Int × Int) := go_new_scan_Join ((tls 1 vs).headD .nilSl).nl ((tls 1 vs).headD .nilSl).ex ((tls 1 vs).headD .nilSl).elts
theorem at_new_scan_Join : FnAt Tryd.prog GG 2000046 as_new_scan_Join ga_new_scan_Join em_new_scan_Join := fun vs h r hr => by
  have e : Shp.buildL as_new_scan_Join vs = [(.ref 5 []), (.sl ((tls 1 vs).headD .nilSl).nl ((tls 1 vs).headD .nilSl).ex 4 ((tls 1 vs).headD .nilSl).elts)] := by kernel_rfl
  rw [← Shp.buildL_eq _ h, e]
  exact .inr (.inr (ok_new_scan_Join _ _ _ r hr))
def xr_coupletlaw13_awake : XR := (.seq (.ops false [⟨⟨(some 0), (.mv (.c (.bool false))), none⟩, none⟩]) (.seq (.ops false [⟨⟨(some 6), (.bsl 3 (some .i64) 1 [(.c (.int .i64 (1))), (.c (.int .i64 (2))), (.c (.int .i64 (3)))]), none⟩, none⟩, ⟨⟨(some 7), (.build [(.int .i64 (0)), (.int .i64 (0)), (.int .i64 (0)), (.isl true true .i64 [])] [(0, (1, (.c (.int .i64 (3))))), (2, (1, (.c (.int .i64 (1))))), (3, (1, (.tmp 6)))]), none⟩, none⟩, ⟨⟨(some 1), (.alloc 24 [(.int .i64 (0)), (.int .i64 (0)), (.int .i64 (0)), (.isl true true .i64 [])]), none⟩, none⟩, ⟨⟨none, (.st 4 (.tmp 1) (.tmp 7)), none⟩, none⟩]) (.seq (.ops false [⟨⟨(some 9), (.ld true 4 (.tmp 1)), none⟩, (some (.agg [(.int .i64), (.int .i64), (.int .i64), (.isl .i64)]))⟩, ⟨⟨(some 10), (.bsl 24 none 4 [(.tmp 9)]), none⟩, none⟩, ⟨⟨(some 11), (.callN 46 5 [(.tmp 10)]), none⟩, none⟩, ⟨⟨(some 8), (.mv (.tmp 11)), none⟩, none⟩, ⟨⟨(some 12), (.ext (.tmp 8) 0), none⟩, none⟩, ⟨⟨(some 13), (.ext (.tmp 8) 1), none⟩, none⟩, ⟨⟨(some 2), (.mv (.tmp 12)), none⟩, none⟩, ⟨⟨(some 3), (.mv (.tmp 13)), none⟩, none⟩]) (.seq (.ops false [⟨⟨(some 15), (.bsl 5 (some .u8) 1 [(.c (.int .u8 (120)))]), none⟩, none⟩, ⟨⟨(some 16), (.cvtSB 5 (.tmp 15)), none⟩, none⟩, ⟨⟨(some 17), (.mv (.tmp 2)), none⟩, none⟩, ⟨⟨(some 18), (.app 5 (some .u8) 1 1 (.tmp 16) (.tmp 17)), none⟩, none⟩, ⟨⟨(some 19), (.bsl 5 (some .u8) 1 [(.c (.int .u8 (78))), (.c (.int .u8 (86)))]), none⟩, none⟩, ⟨⟨(some 20), (.app 5 (some .u8) 1 1 (.tmp 18) (.tmp 19)), none⟩, none⟩, ⟨⟨(some 21), (.mv (.tmp 2)), none⟩, none⟩, ⟨⟨(some 22), (.app 5 (some .u8) 1 1 (.tmp 20) (.tmp 21)), none⟩, none⟩, ⟨⟨(some 23), (.call (.func 44) [(.tmp 22)]), none⟩, none⟩, ⟨⟨(some 14), (.mv (.tmp 23)), none⟩, none⟩, ⟨⟨(some 24), (.ext (.tmp 14) 0), none⟩, none⟩, ⟨⟨(some 25), (.ext (.tmp 14) 1), none⟩, none⟩, ⟨⟨(some 4), (.mv (.tmp 24)), none⟩, none⟩, ⟨⟨(some 5), (.mv (.tmp 25)), none⟩, none⟩]) (.seq (.ops true [⟨⟨(some 26), (.mv (.tmp 3)), none⟩, none⟩, ⟨⟨(some 27), (.bin .eql (.tmp 26) (.c (.int .i64 (0)))), none⟩, none⟩, ⟨⟨(some 28), (.mv (.tmp 27)), none⟩, none⟩, ⟨⟨(some 29), (.mv (.tmp 4)), (some (28, true))⟩, none⟩, ⟨⟨(some 30), (.len (.tmp 29)), (some (28, true))⟩, none⟩, ⟨⟨(some 31), (.bin .eql (.tmp 30) (.c (.int .i64 (2)))), (some (28, true))⟩, none⟩, ⟨⟨(some 32), (.pick (.tmp 28) (.tmp 31) (.c (.bool false))), none⟩, none⟩, ⟨⟨(some 33), (.mv (.tmp 32)), none⟩, none⟩, ⟨⟨(some 34), (.mv (.tmp 5)), (some (33, true))⟩, none⟩, ⟨⟨(some 35), (.bin .eql (.tmp 34) (.c (.int .i64 (3)))), (some (33, true))⟩, none⟩, ⟨⟨(some 36), (.pick (.tmp 33) (.tmp 35) (.c (.bool false))), none⟩, none⟩, ⟨⟨(some 37), (.mv (.tmp 36)), none⟩, none⟩, ⟨⟨(some 38), (.mv (.tmp 4)), (some (37, true))⟩, none⟩, ⟨⟨(some 39), (.ixA 4 (.tmp 38) (.c (.int .i64 (1)))), (some (37, true))⟩, none⟩, ⟨⟨(some 40), (.ld true 4 (.tmp 39)), (some (37, true))⟩, (some (.agg [(.int .i64), (.int .i64), (.int .i64), (.isl .i64)]))⟩, ⟨⟨(some 41), (.ld true 4 (.tmp 1)), (some (37, true))⟩, (some (.agg [(.int .i64), (.int .i64), (.int .i64), (.isl .i64)]))⟩, ⟨⟨(some 42), (.call (.func 29) [(.tmp 40), (.tmp 41)]), (some (37, true))⟩, none⟩, ⟨⟨(some 43), (.pick (.tmp 37) (.tmp 42) (.c (.bool false))), none⟩, none⟩, ⟨⟨(some 44), (.mv (.tmp 43)), none⟩, none⟩, ⟨⟨(some 45), (.mv (.tmp 2)), (some (44, true))⟩, none⟩, ⟨⟨(some 46), (.call (.func 45) [(.tmp 45)]), (some (44, true))⟩, none⟩, ⟨⟨(some 47), (.bin .eql (.tmp 46) (.c (.int .i64 (36)))), (some (44, true))⟩, none⟩, ⟨⟨(some 48), (.pick (.tmp 44) (.tmp 47) (.c (.bool false))), none⟩, none⟩, ⟨⟨(some 0), (.mv (.tmp 48)), none⟩, none⟩]) .ret)))))
def rs_coupletlaw13_awake : List ResultVar := [(.tmp 0)]
theorem ir_coupletlaw13_awake : compCode Tryd.prog (Tryd.f40.body.getD .skip) [] = some (xr_coupletlaw13_awake.erase, []) := by kernel_rfl
def gm_coupletlaw13_awake : Gam := (Gam.fn 2000046 as_new_scan_Join ga_new_scan_Join em_new_scan_Join (Gam.fn 44 as_scan_All ga_scan_All em_scan_All (Gam.fn 29 as_frame_Same ga_frame_Same em_frame_Same (Gam.fn 45 as_scan_Size ga_scan_Size em_scan_Size Gam.bot))))
theorem gk_coupletlaw13_awake : GamOk Tryd.prog GG gm_coupletlaw13_awake := (GamOk.fn at_new_scan_Join (GamOk.fn at_scan_All (GamOk.fn at_frame_Same (GamOk.fn at_scan_Size GamOk.bot))))
def lm_coupletlaw13_awake : Lam := fun _ j S kn ke => match j with
  | _ => .fail
def go_coupletlaw13_awake : Option Bool :=
  (go_new_scan_Join false true [(.agg [(.int .i64 3), (.int .i64 0), (.int .i64 1), (.isl false true .i64 [1, 2, 3])])]).bind fun r0 =>
  bif (decide (((1 + (List.length r0.2.2.1)) * 1) ≤ 140737488355328)) then
   bif (decide ((1 + (List.length r0.2.2.1)) ≤ 4611686018427387904)) then
    bif (List.isEmpty r0.2.2.1) then
     bif (decide (((3 + (List.length r0.2.2.1)) * 1) ≤ 140737488355328)) then
      bif (decide ((3 + (List.length r0.2.2.1)) ≤ 4611686018427387904)) then
       (go_scan_All (false && (List.isEmpty r0.2.2.1)) false ([120, 78, 86] ++ r0.2.2.1)).bind fun r1 =>
       bif (r0.2.2.2 == 0) then
        bif ((((List.length r1.2.2.1) : Nat) : Int) == 2) then
         bif (r1.2.2.2 == 3) then
          bif (decide (1 < (((List.length r1.2.2.1) : Nat) : Int))) then
           bif (decide (1 < (List.length r1.2.2.1))) then
            bif (decide ((List.length (PV.cells (List.getD r1.2.2.1 1 .nilSl))) = 4)) then
             bif (Shp.ok (.agg [(.int .i64), (.int .i64), (.int .i64), (.isl .i64)]) (.agg (PV.cells (List.getD r1.2.2.1 1 .nilSl)))) then
              (go_frame_Same (PV.num (List.headD (PV.subs (.agg (PV.cells (List.getD r1.2.2.1 1 .nilSl)))) .nilSl)) (PV.num (List.headD (List.tail (PV.subs (.agg (PV.cells (List.getD r1.2.2.1 1 .nilSl))))) .nilSl)) (PV.num (List.headD (List.tail (List.tail (PV.subs (.agg (PV.cells (List.getD r1.2.2.1 1 .nilSl)))))) .nilSl)) (PV.nl (List.headD (List.tail (List.tail (List.tail (PV.subs (.agg (PV.cells (List.getD r1.2.2.1 1 .nilSl))))))) .nilSl)) (PV.ex (List.headD (List.tail (List.tail (List.tail (PV.subs (.agg (PV.cells (List.getD r1.2.2.1 1 .nilSl))))))) .nilSl)) (PV.ints (List.headD (List.tail (List.tail (List.tail (PV.subs (.agg (PV.cells (List.getD r1.2.2.1 1 .nilSl))))))) .nilSl)) 3 0 1 false true [1, 2, 3]).bind fun r2 =>
              bif r2 then
               (go_scan_Size r0.1 false r0.2.2.1).bind fun r3 =>
               some (r3 == 36)
              else
               some false
             else none
            else none
           else none
          else none
         else
          some false
        else
         some false
       else
        some false
      else none
     else none
    else
     bif (decide ((((List.length ([120] ++ r0.2.2.1)) + 2) * 1) ≤ 140737488355328)) then
      bif (decide (((List.length ([120] ++ r0.2.2.1)) + 2) ≤ 4611686018427387904)) then
       bif (decide ((((List.length (([120] ++ r0.2.2.1) ++ [78, 86])) + (List.length r0.2.2.1)) * 1) ≤ 140737488355328)) then
        bif (decide (((List.length (([120] ++ r0.2.2.1) ++ [78, 86])) + (List.length r0.2.2.1)) ≤ 4611686018427387904)) then
         (go_scan_All ((false && false) && (List.isEmpty r0.2.2.1)) false ((([120] ++ r0.2.2.1) ++ [78, 86]) ++ r0.2.2.1)).bind fun r4 =>
         bif (r0.2.2.2 == 0) then
          bif ((((List.length r4.2.2.1) : Nat) : Int) == 2) then
           bif (r4.2.2.2 == 3) then
            bif (decide (1 < (((List.length r4.2.2.1) : Nat) : Int))) then
             bif (decide (1 < (List.length r4.2.2.1))) then
              bif (decide ((List.length (PV.cells (List.getD r4.2.2.1 1 .nilSl))) = 4)) then
               bif (Shp.ok (.agg [(.int .i64), (.int .i64), (.int .i64), (.isl .i64)]) (.agg (PV.cells (List.getD r4.2.2.1 1 .nilSl)))) then
                (go_frame_Same (PV.num (List.headD (PV.subs (.agg (PV.cells (List.getD r4.2.2.1 1 .nilSl)))) .nilSl)) (PV.num (List.headD (List.tail (PV.subs (.agg (PV.cells (List.getD r4.2.2.1 1 .nilSl))))) .nilSl)) (PV.num (List.headD (List.tail (List.tail (PV.subs (.agg (PV.cells (List.getD r4.2.2.1 1 .nilSl)))))) .nilSl)) (PV.nl (List.headD (List.tail (List.tail (List.tail (PV.subs (.agg (PV.cells (List.getD r4.2.2.1 1 .nilSl))))))) .nilSl)) (PV.ex (List.headD (List.tail (List.tail (List.tail (PV.subs (.agg (PV.cells (List.getD r4.2.2.1 1 .nilSl))))))) .nilSl)) (PV.ints (List.headD (List.tail (List.tail (List.tail (PV.subs (.agg (PV.cells (List.getD r4.2.2.1 1 .nilSl))))))) .nilSl)) 3 0 1 false true [1, 2, 3]).bind fun r5 =>
                bif r5 then
                 (go_scan_Size r0.1 false r0.2.2.1).bind fun r6 =>
                 some (r6 == 36)
                else
                 some false
               else none
              else none
             else none
            else none
           else
            some false
          else
           some false
         else
          some false
        else none
       else none
      else none
     else none
   else none
  else none
def em_coupletlaw13_awake (r : Bool) : PV := (.bool r)
def rh_coupletlaw13_awake : Shp := .bool
def ra_coupletlaw13_awake (v : PV) : Bool := v.tru
def kf_coupletlaw13_awake (v : PV) : Tree Bool := .chk (rh_coupletlaw13_awake.ok v) (.leaf (ra_coupletlaw13_awake v))
theorem rn_coupletlaw13_awake : (ev GG gm_coupletlaw13_awake lm_coupletlaw13_awake xr_coupletlaw13_awake ⟨slots 49 0 [], []⟩ (fun S => finT Tryd.prog rs_coupletlaw13_awake S kf_coupletlaw13_awake) (retT Tryd.prog rs_coupletlaw13_awake kf_coupletlaw13_awake)).run = go_coupletlaw13_awake := by kernel_rfl
theorem ok_coupletlaw13_awake (r : Bool) (h : go_coupletlaw13_awake = some r) : FunEq Tryd.prog GG 40 [] (em_coupletlaw13_awake r) :=
  fun_of_ev (x := xr_coupletlaw13_awake) (Λ := lm_coupletlaw13_awake) gk_coupletlaw13_awake [] Tryd.func40 rfl (by kernel_rfl) ir_coupletlaw13_awake (by kernel_rfl) (congrArg Array.toList Tryd.results40) Tryd.ntmps40 (⟨trivial, ⟨trivial, ⟨trivial, ⟨trivial, ⟨trivial, trivial⟩⟩⟩⟩⟩) (leaf_of fun v => (by kernel_rfl : rh_coupletlaw13_awake.build v = em_coupletlaw13_awake (ra_coupletlaw13_awake v))) (by kernel_rfl) ((rn_coupletlaw13_awake).trans h)
def as_coupletlaw13_awake : List Shp := []
def ga_coupletlaw13_awake (vs : List PV) : Option Bool := go_coupletlaw13_awake
theorem at_coupletlaw13_awake : FnAt Tryd.prog GG 40 as_coupletlaw13_awake ga_coupletlaw13_awake em_coupletlaw13_awake := fun vs h r hr => by
  have e : Shp.buildL as_coupletlaw13_awake vs = [] := by kernel_rfl
  rw [← Shp.buildL_eq _ h, e]
  exact .inl ⟨by decide, ok_coupletlaw13_awake  r hr⟩
def xr_coupletref13_Size : XR := (.seq (.ops false [⟨⟨(some 2), (.mv (.c (.int .i64 (0)))), none⟩, none⟩]) (.seq (.seq (.ops false [⟨⟨(some 4), (.mv (.tmp 0)), none⟩, none⟩, ⟨⟨(some 5), (.len (.tmp 4)), none⟩, none⟩, ⟨⟨(some 6), (.bin .lss (.tmp 5) (.c (.int .i64 (4)))), none⟩, none⟩, ⟨⟨(some 7), (.mv (.tmp 6)), none⟩, none⟩, ⟨⟨(some 8), (.mv (.tmp 0)), (some (7, false))⟩, none⟩, ⟨⟨(some 9), (.ixA 1 (.tmp 8) (.c (.int .i64 (0)))), (some (7, false))⟩, none⟩, ⟨⟨(some 10), (.ld false 1 (.tmp 9)), (some (7, false))⟩, (some (.int .u8))⟩, ⟨⟨(some 11), (.bin .neq (.tmp 10) (.c (.int .u8 (78)))), (some (7, false))⟩, none⟩, ⟨⟨(some 12), (.pick (.tmp 7) (.c (.bool true)) (.tmp 11)), none⟩, none⟩, ⟨⟨(some 13), (.mv (.tmp 12)), none⟩, none⟩, ⟨⟨(some 14), (.mv (.tmp 0)), (some (13, false))⟩, none⟩, ⟨⟨(some 15), (.ixA 1 (.tmp 14) (.c (.int .i64 (1)))), (some (13, false))⟩, none⟩, ⟨⟨(some 16), (.ld false 1 (.tmp 15)), (some (13, false))⟩, (some (.int .u8))⟩, ⟨⟨(some 17), (.bin .neq (.tmp 16) (.c (.int .u8 (86)))), (some (13, false))⟩, none⟩, ⟨⟨(some 18), (.pick (.tmp 13) (.c (.bool true)) (.tmp 17)), none⟩, none⟩]) (.cond (.tmp 18) (.seq (.ops false [⟨⟨(some 2), (.mv (.c (.int .i64 (0)))), none⟩, none⟩]) .ret) .skip)) (.seq (.ops true [⟨⟨(some 19), (.mv (.tmp 0)), none⟩, none⟩, ⟨⟨(some 20), (.ixA 1 (.tmp 19) (.c (.int .i64 (2)))), none⟩, none⟩, ⟨⟨(some 21), (.ld false 1 (.tmp 20)), none⟩, (some (.int .u8))⟩, ⟨⟨(some 22), (.cvtI .i64 (.tmp 21)), none⟩, none⟩, ⟨⟨(some 23), (.mv (.tmp 0)), none⟩, none⟩, ⟨⟨(some 24), (.ixA 1 (.tmp 23) (.c (.int .i64 (3)))), none⟩, none⟩, ⟨⟨(some 25), (.ld false 1 (.tmp 24)), none⟩, (some (.int .u8))⟩, ⟨⟨(some 26), (.cvtI .i64 (.tmp 25)), none⟩, none⟩, ⟨⟨(some 27), (.call (.func 23) [(.tmp 22), (.tmp 26)]), none⟩, none⟩, ⟨⟨(some 3), (.mv (.tmp 27)), none⟩, none⟩]) (.seq (.seq (.ops false [⟨⟨(some 28), (.mv (.tmp 3)), none⟩, none⟩, ⟨⟨(some 29), (.bin .eql (.tmp 28) (.c (.int .i64 (0)))), none⟩, none⟩]) (.cond (.tmp 29) (.seq (.ops false [⟨⟨(some 2), (.mv (.c (.int .i64 (0)))), none⟩, none⟩]) .ret) .skip)) (.seq (.ops false [⟨⟨(some 30), (.mv (.tmp 3)), none⟩, none⟩, ⟨⟨(some 31), (.bin .mul (.c (.int .i64 (8))) (.tmp 30)), none⟩, none⟩, ⟨⟨(some 32), (.bin .add (.c (.int .i64 (12))) (.tmp 31)), none⟩, none⟩, ⟨⟨(some 2), (.mv (.tmp 32)), none⟩, none⟩]) .ret)))))
def rs_coupletref13_Size : List ResultVar := [(.tmp 2)]
theorem ir_coupletref13_Size : compCode Tryd.prog (Tryd.f43.body.getD .skip) [] = some (xr_coupletref13_Size.erase, []) := by kernel_rfl
def gm_coupletref13_Size : Gam := (Gam.fn 23 as_coupletref12_Many ga_coupletref12_Many em_coupletref12_Many Gam.bot)
theorem gk_coupletref13_Size : GamOk Tryd.prog GG gm_coupletref13_Size := (GamOk.fn at_coupletref12_Many GamOk.bot)
def lm_coupletref13_Size : Lam := fun _ j S kn ke => match j with
  | _ => .fail
def go_coupletref13_Size (b0 : Bool) (b1 : Bool) (l2 : List Int) : Option Int :=
  bif (decide ((((List.length l2) : Nat) : Int) < 4)) then
   some 0
  else
   bif (decide (0 < (((List.length l2) : Nat) : Int))) then
    bif (decide (0 < (List.length l2))) then
     bif ((List.getD l2 0 0) != 78) then
      some 0
     else
      bif (decide (1 < (((List.length l2) : Nat) : Int))) then
       bif (decide (1 < (List.length l2))) then
        bif ((List.getD l2 1 0) != 86) then
         some 0
        else
         bif (decide (2 < (((List.length l2) : Nat) : Int))) then
          bif (decide (2 < (List.length l2))) then
           bif (decide (3 < (((List.length l2) : Nat) : Int))) then
            bif (decide (3 < (List.length l2))) then
             (go_coupletref12_Many (IntKind.wrap .i64 (List.getD l2 2 0)) (IntKind.wrap .i64 (List.getD l2 3 0))).bind fun r3 =>
             bif (r3 == 0) then
              some 0
             else
              some (IntKind.wrap .i64 (12 + (IntKind.wrap .i64 (8 * r3))))
            else none
           else none
          else none
         else none
       else none
      else none
    else none
   else none
def em_coupletref13_Size (r : Int) : PV := (.int .i64 r)
def rh_coupletref13_Size : Shp := (.int .i64)
def ra_coupletref13_Size (v : PV) : Int := v.num
def kf_coupletref13_Size (v : PV) : Tree Int := .chk (rh_coupletref13_Size.ok v) (.leaf (ra_coupletref13_Size v))
theorem rn_coupletref13_Size (b0 : Bool) (b1 : Bool) (l2 : List Int) : (ev GG gm_coupletref13_Size lm_coupletref13_Size xr_coupletref13_Size ⟨slots 33 0 [(0, .p (.isl b0 b1 .u8 l2))], []⟩ (fun S => finT Tryd.prog rs_coupletref13_Size S kf_coupletref13_Size) (retT Tryd.prog rs_coupletref13_Size kf_coupletref13_Size)).run = go_coupletref13_Size b0 b1 l2 := by kernel_rfl
theorem ok_coupletref13_Size (b0 : Bool) (b1 : Bool) (l2 : List Int) (r : Int) (h : go_coupletref13_Size b0 b1 l2 = some r) : FunEq Tryd.prog GG 43 [(.isl b0 b1 .u8 l2)] (em_coupletref13_Size r) :=
  fun_of_ev (x := xr_coupletref13_Size) (Λ := lm_coupletref13_Size) gk_coupletref13_Size [] Tryd.func43 rfl (by kernel_rfl) ir_coupletref13_Size (by kernel_rfl) (congrArg Array.toList Tryd.results43) Tryd.ntmps43 (⟨trivial, ⟨⟨trivial, ⟨⟨trivial, trivial⟩, trivial⟩⟩, ⟨trivial, ⟨⟨trivial, ⟨⟨trivial, trivial⟩, trivial⟩⟩, ⟨trivial, trivial⟩⟩⟩⟩⟩) (leaf_of fun v => (by kernel_rfl : rh_coupletref13_Size.build v = em_coupletref13_Size (ra_coupletref13_Size v))) (by kernel_rfl) ((rn_coupletref13_Size b0 b1 l2).trans h)
def as_coupletref13_Size : List Shp := [(.isl .u8)]
def ga_coupletref13_Size (vs : List PV) : Option Int := go_coupletref13_Size ((tls 0 vs).headD .nilSl).nl ((tls 0 vs).headD .nilSl).ex ((tls 0 vs).headD .nilSl).ints
theorem at_coupletref13_Size : FnAt Tryd.prog GG 43 as_coupletref13_Size ga_coupletref13_Size em_coupletref13_Size := fun vs h r hr => by
  have e : Shp.buildL as_coupletref13_Size vs = [(.isl ((tls 0 vs).headD .nilSl).nl ((tls 0 vs).headD .nilSl).ex .u8 ((tls 0 vs).headD .nilSl).ints)] := by kernel_rfl
  rw [← Shp.buildL_eq _ h, e]
  exact .inl ⟨by decide, ok_coupletref13_Size _ _ _ r hr⟩
def xb_coupletref13_number_0 : XR := (.seq (.seq (.ops false [⟨⟨(some 5), (.mv (.tmp 4)), none⟩, none⟩, ⟨⟨(some 6), (.bin .geq (.tmp 5) (.c (.int .i64 (0)))), none⟩, none⟩]) (.cond (.tmp 6) .skip (.exit 0))) (.seq (.block 1 (.ops false [⟨⟨(some 9), (.mv (.tmp 3)), none⟩, none⟩, ⟨⟨(some 10), (.bin .mul (.tmp 9) (.c (.int .u64 (256)))), none⟩, none⟩, ⟨⟨(some 11), (.mv (.tmp 0)), none⟩, none⟩, ⟨⟨(some 12), (.mv (.tmp 4)), none⟩, none⟩, ⟨⟨(some 13), (.ixA 1 (.tmp 11) (.tmp 12)), none⟩, none⟩, ⟨⟨(some 14), (.ld false 1 (.tmp 13)), none⟩, (some (.int .u8))⟩, ⟨⟨(some 15), (.cvtI .u64 (.tmp 14)), none⟩, none⟩, ⟨⟨(some 16), (.bin .add (.tmp 10) (.tmp 15)), none⟩, none⟩, ⟨⟨(some 3), (.mv (.tmp 16)), none⟩, none⟩])) (.ops false [⟨⟨(some 7), (.mv (.tmp 4)), none⟩, none⟩, ⟨⟨(some 8), (.bin .sub (.tmp 7) (.c (.int .i64 (1)))), none⟩, none⟩, ⟨⟨(some 4), (.mv (.tmp 8)), none⟩, none⟩])))
def xr_coupletref13_number : XR := (.seq (.ops false [⟨⟨(some 2), (.mv (.c (.bool false))), none⟩, none⟩]) (.seq (.ops false [⟨⟨(some 3), (.mv (.c (.int .u64 (0)))), none⟩, none⟩]) (.seq (.seq (.ops false [⟨⟨(some 4), (.mv (.c (.int .i64 (7)))), none⟩, none⟩]) (.block 0 (.loop 0 [0, 3, 4] xb_coupletref13_number_0))) (.seq (.ops false [⟨⟨(some 17), (.mv (.tmp 3)), none⟩, none⟩, ⟨⟨(some 18), (.bin .leq (.tmp 17) (.c (.int .u64 (1125899906842624)))), none⟩, none⟩, ⟨⟨(some 19), (.mv (.tmp 18)), none⟩, none⟩, ⟨⟨(some 20), (.mv (.tmp 3)), (some (19, false))⟩, none⟩, ⟨⟨(some 21), (.bin .geq (.tmp 20) (.c (.int .u64 (18445618173802708992)))), (some (19, false))⟩, none⟩, ⟨⟨(some 22), (.pick (.tmp 19) (.c (.bool true)) (.tmp 21)), none⟩, none⟩, ⟨⟨(some 2), (.mv (.tmp 22)), none⟩, none⟩]) .ret))))
def rs_coupletref13_number : List ResultVar := [(.tmp 2)]
theorem ir_coupletref13_number : compCode Tryd.prog (Tryd.f63.body.getD .skip) [[0, 3, 4]] = some (xr_coupletref13_number.erase, []) := by kernel_rfl
def gm_coupletref13_number : Gam := Gam.bot
theorem gk_coupletref13_number : GamOk Tryd.prog GG gm_coupletref13_number := GamOk.bot
def st_coupletref13_number_0 (b3 : Bool) (b4 : Bool) (l5 : List Int) (n6 : Int) (n7 : Int) : Option (((Bool × Bool × List Int × Int × Int)) ⊕ ((Int))) :=
  bif (decide (n7 ≥ 0)) then
   bif (decide (0 ≤ n7)) then
    bif (decide (n7 < (((List.length l5) : Nat) : Int))) then
     bif (decide ((Int.toNat n7) < (List.length l5))) then
      some (Sum.inl (b3, b4, l5, (IntKind.wrap .u64 ((IntKind.wrap .u64 (n6 * 256)) + (IntKind.wrap .u64 (List.getD l5 (Int.toNat n7) 0)))), (IntKind.wrap .i64 (n7 - 1))))
     else none
    else none
   else none
  else
   some (Sum.inr n6)
def lp_coupletref13_number_0 (b3 : Bool) (b4 : Bool) (l5 : List Int) (n6 : Int) (n7 : Int) : Option ((Int)) := loopN (X := (Bool × Bool × List Int × Int × Int)) (fun x => st_coupletref13_number_0 x.1 x.2.1 x.2.2.1 x.2.2.2.1 x.2.2.2.2) (b3, b4, l5, n6, n7)
def sh_coupletref13_number_0 : StSh := ⟨23, [(0, (.p (.isl .u8))), (3, (.p (.int .u64))), (4, (.p (.int .i64)))], []⟩
def sx_coupletref13_number_0 (x : (Bool × Bool × List Int × Int × Int)) : St := ⟨slots 23 0 [(0, (.p (.isl x.1 x.2.1 .u8 x.2.2.1))), (3, (.p (.int .u64 x.2.2.2.1))), (4, (.p (.int .i64 x.2.2.2.2)))], []⟩
def sa_coupletref13_number_0 (S : St) : (Bool × Bool × List Int × Int × Int) := (((tls 0 S.t).headD .any).pv.nl, ((tls 0 S.t).headD .any).pv.ex, ((tls 0 S.t).headD .any).pv.ints, ((tls 3 S.t).headD .any).pv.num, ((tls 4 S.t).headD .any).pv.num)
def tz_coupletref13_number_0_0 : StSh := ⟨23, [(3, (.p (.int .u64)))], []⟩
def tx_coupletref13_number_0_0 (x : Int) : St := ⟨slots 23 0 [(3, (.p (.int .u64 x)))], []⟩
def ta_coupletref13_number_0_0 (S : St) : Int := ((tls 3 S.t).headD .any).pv.num
def kb_coupletref13_number_0 : Exit → St → Tree (((Bool × Bool × List Int × Int × Int)) ⊕ ((Int))) := (exOne (.exit 0) [3] tz_coupletref13_number_0_0 ta_coupletref13_number_0_0 (fun y => Sum.inr (y)) exNil)
def ky_coupletref13_number_0 : Dec ((Int)) := fun _ y ke => ke ((.exit 0) : EK).ex (tx_coupletref13_number_0_0 y)
theorem kk_coupletref13_number_0 : ExOk Sum.inr kb_coupletref13_number_0 ky_coupletref13_number_0 := (ExOk.one (acc := ta_coupletref13_number_0_0) (bY := tx_coupletref13_number_0_0) (inj1 := fun y => y) (fun S => by kernel_rfl) (fun y _ ke => .inr (by kernel_rfl)) ExOk.nil)
def lm_coupletref13_number : Lam := fun _ j S kn ke => match j with
  | 0 => prepT [0, 3, 4] [] S fun S => .chk (sh_coupletref13_number_0.ok S) (.bind (loopN (fun x => st_coupletref13_number_0 x.1 x.2.1 x.2.2.1 x.2.2.2.1 x.2.2.2.2) (sa_coupletref13_number_0 S)) fun y => ky_coupletref13_number_0 _ y ke)
  | _ => .fail
theorem sr_coupletref13_number_0 (x : (Bool × Bool × List Int × Int × Int)) : (ev GG gm_coupletref13_number lm_coupletref13_number xb_coupletref13_number_0 (sx_coupletref13_number_0 x) (fun S => forgetT [0, 3, 4] S fun S => prepT [0, 3, 4] [] S fun S => .chk (sh_coupletref13_number_0.ok S) (.leaf (.inl (sa_coupletref13_number_0 S)))) kb_coupletref13_number_0).run = st_coupletref13_number_0 x.1 x.2.1 x.2.2.1 x.2.2.2.1 x.2.2.2.2 := by kernel_rfl
theorem la_coupletref13_number_0 : LamAt Tryd.prog GG lm_coupletref13_number 0 (.loop [0, 3, 4] xb_coupletref13_number_0.erase) := lam_loop (body := xb_coupletref13_number_0) (Λ' := lm_coupletref13_number) gk_coupletref13_number (⟨⟨trivial, ⟨trivial, trivial⟩⟩, ⟨trivial, trivial⟩⟩) (fun S => (by kernel_rfl : sh_coupletref13_number_0.build S = sx_coupletref13_number_0 (sa_coupletref13_number_0 S))) kk_coupletref13_number_0 sr_coupletref13_number_0 (fun _ _ _ => rfl)
def go_coupletref13_number (b0 : Bool) (b1 : Bool) (l2 : List Int) : Option Bool :=
  (lp_coupletref13_number_0 b0 b1 l2 0 7).bind fun y8 =>
  bif (decide (y8 ≤ 1125899906842624)) then
   some true
  else
   some (decide (y8 ≥ 18445618173802708992))
def em_coupletref13_number (r : Bool) : PV := (.bool r)
def rh_coupletref13_number : Shp := .bool
def ra_coupletref13_number (v : PV) : Bool := v.tru
def kf_coupletref13_number (v : PV) : Tree Bool := .chk (rh_coupletref13_number.ok v) (.leaf (ra_coupletref13_number v))
theorem rn_coupletref13_number (b0 : Bool) (b1 : Bool) (l2 : List Int) : (ev GG gm_coupletref13_number lm_coupletref13_number xr_coupletref13_number ⟨slots 23 0 [(0, .p (.isl b0 b1 .u8 l2))], []⟩ (fun S => finT Tryd.prog rs_coupletref13_number S kf_coupletref13_number) (retT Tryd.prog rs_coupletref13_number kf_coupletref13_number)).run = go_coupletref13_number b0 b1 l2 := by kernel_rfl
theorem ok_coupletref13_number (b0 : Bool) (b1 : Bool) (l2 : List Int) (r : Bool) (h : go_coupletref13_number b0 b1 l2 = some r) : FunEq Tryd.prog GG 63 [(.isl b0 b1 .u8 l2)] (em_coupletref13_number r) :=
  fun_of_ev (x := xr_coupletref13_number) (Λ := lm_coupletref13_number) gk_coupletref13_number [[0, 3, 4]] Tryd.func63 rfl (by kernel_rfl) ir_coupletref13_number (by kernel_rfl) (congrArg Array.toList Tryd.results63) Tryd.ntmps63 (⟨trivial, ⟨trivial, ⟨⟨trivial, la_coupletref13_number_0⟩, ⟨trivial, trivial⟩⟩⟩⟩) (leaf_of fun v => (by kernel_rfl : rh_coupletref13_number.build v = em_coupletref13_number (ra_coupletref13_number v))) (by kernel_rfl) ((rn_coupletref13_number b0 b1 l2).trans h)
def as_coupletref13_number : List Shp := [(.isl .u8)]
def ga_coupletref13_number (vs : List PV) : Option Bool := go_coupletref13_number ((tls 0 vs).headD .nilSl).nl ((tls 0 vs).headD .nilSl).ex ((tls 0 vs).headD .nilSl).ints
theorem at_coupletref13_number : FnAt Tryd.prog GG 63 as_coupletref13_number ga_coupletref13_number em_coupletref13_number := fun vs h r hr => by
  have e : Shp.buildL as_coupletref13_number vs = [(.isl ((tls 0 vs).headD .nilSl).nl ((tls 0 vs).headD .nilSl).ex .u8 ((tls 0 vs).headD .nilSl).ints)] := by kernel_rfl
  rw [← Shp.buildL_eq _ h, e]
  exact .inl ⟨by decide, ok_coupletref13_number _ _ _ r hr⟩
def xb_coupletref13_Found_1 : XR := (.seq (.seq (.ops false [⟨⟨(some 37), (.mv (.tmp 6)), none⟩, none⟩, ⟨⟨(some 38), (.mv (.tmp 37)), none⟩, none⟩, ⟨⟨(some 39), (.mv (.tmp 7)), (some (38, true))⟩, none⟩, ⟨⟨(some 40), (.mv (.tmp 4)), (some (38, true))⟩, none⟩, ⟨⟨(some 41), (.mv (.tmp 5)), (some (38, true))⟩, none⟩, ⟨⟨(some 42), (.bin .add (.tmp 40) (.tmp 41)), (some (38, true))⟩, none⟩, ⟨⟨(some 43), (.bin .sub (.tmp 42) (.c (.int .i64 (4)))), (some (38, true))⟩, none⟩, ⟨⟨(some 44), (.bin .lss (.tmp 39) (.tmp 43)), (some (38, true))⟩, none⟩, ⟨⟨(some 45), (.pick (.tmp 38) (.tmp 44) (.c (.bool false))), none⟩, none⟩]) (.cond (.tmp 45) .skip (.exit 2))) (.seq (.block 3 (.ops false [⟨⟨(some 48), (.mv (.tmp 0)), none⟩, none⟩, ⟨⟨(some 49), (.mv (.tmp 7)), none⟩, none⟩, ⟨⟨(some 50), (.mv (.tmp 7)), none⟩, none⟩, ⟨⟨(some 51), (.bin .add (.tmp 50) (.c (.int .i64 (8)))), none⟩, none⟩, ⟨⟨(some 52), (.slc 1 (.tmp 48) (some (.tmp 49)) (some (.tmp 51)) none), none⟩, none⟩, ⟨⟨(some 53), (.call (.func 63) [(.tmp 52)]), none⟩, none⟩, ⟨⟨(some 6), (.mv (.tmp 53)), none⟩, none⟩])) (.ops false [⟨⟨(some 46), (.mv (.tmp 7)), none⟩, none⟩, ⟨⟨(some 47), (.bin .add (.tmp 46) (.c (.int .i64 (8)))), none⟩, none⟩, ⟨⟨(some 7), (.mv (.tmp 47)), none⟩, none⟩])))
def xb_coupletref13_Found_0 : XR := (.seq (.seq (.ops false [⟨⟨(some 8), (.mv (.tmp 4)), none⟩, none⟩, ⟨⟨(some 9), (.mv (.tmp 0)), none⟩, none⟩, ⟨⟨(some 10), (.len (.tmp 9)), none⟩, none⟩, ⟨⟨(some 11), (.bin .lss (.tmp 8) (.tmp 10)), none⟩, none⟩]) (.cond (.tmp 11) .skip (.exit 0))) (.block 1 (.seq (.ops false [⟨⟨(some 12), (.mv (.tmp 0)), none⟩, none⟩, ⟨⟨(some 13), (.mv (.tmp 4)), none⟩, none⟩, ⟨⟨(some 14), (.slc 1 (.tmp 12) (some (.tmp 13)) none none), none⟩, none⟩, ⟨⟨(some 15), (.call (.func 43) [(.tmp 14)]), none⟩, none⟩, ⟨⟨(some 5), (.mv (.tmp 15)), none⟩, none⟩]) (.seq (.ops false [⟨⟨(some 16), (.mv (.tmp 5)), none⟩, none⟩, ⟨⟨(some 17), (.bin .gtr (.tmp 16) (.c (.int .i64 (0)))), none⟩, none⟩, ⟨⟨(some 18), (.mv (.tmp 17)), none⟩, none⟩, ⟨⟨(some 19), (.mv (.tmp 5)), (some (18, true))⟩, none⟩, ⟨⟨(some 20), (.mv (.tmp 0)), (some (18, true))⟩, none⟩, ⟨⟨(some 21), (.len (.tmp 20)), (some (18, true))⟩, none⟩, ⟨⟨(some 22), (.mv (.tmp 4)), (some (18, true))⟩, none⟩, ⟨⟨(some 23), (.bin .sub (.tmp 21) (.tmp 22)), (some (18, true))⟩, none⟩, ⟨⟨(some 24), (.bin .leq (.tmp 19) (.tmp 23)), (some (18, true))⟩, none⟩, ⟨⟨(some 25), (.pick (.tmp 18) (.tmp 24) (.c (.bool false))), none⟩, none⟩, ⟨⟨(some 6), (.mv (.tmp 25)), none⟩, none⟩]) (.seq (.seq (.ops false [⟨⟨(some 26), (.mv (.tmp 6)), none⟩, none⟩]) (.cond (.tmp 26) (.ops false [⟨⟨(some 27), (.mv (.tmp 0)), none⟩, none⟩, ⟨⟨(some 28), (.mv (.tmp 4)), none⟩, none⟩, ⟨⟨(some 29), (.mv (.tmp 4)), none⟩, none⟩, ⟨⟨(some 30), (.mv (.tmp 5)), none⟩, none⟩, ⟨⟨(some 31), (.bin .add (.tmp 29) (.tmp 30)), none⟩, none⟩, ⟨⟨(some 32), (.slc 1 (.tmp 27) (some (.tmp 28)) (some (.tmp 31)) none), none⟩, none⟩, ⟨⟨(some 33), (.call (.func 30) [(.tmp 32)]), none⟩, none⟩, ⟨⟨(some 34), (.bin .eql (.tmp 33) (.c (.int .i64 (0)))), none⟩, none⟩, ⟨⟨(some 6), (.mv (.tmp 34)), none⟩, none⟩]) .skip)) (.seq (.seq (.ops false [⟨⟨(some 35), (.mv (.tmp 4)), none⟩, none⟩, ⟨⟨(some 36), (.bin .add (.tmp 35) (.c (.int .i64 (8)))), none⟩, none⟩, ⟨⟨(some 7), (.mv (.tmp 36)), none⟩, none⟩]) (.block 2 (.loop 1 [0, 3, 4, 5, 6, 7] xb_coupletref13_Found_1))) (.seq (.ops false [⟨⟨(some 54), (.mv (.tmp 6)), none⟩, none⟩]) (.cond (.tmp 54) (.seq (.ops false [⟨⟨(some 55), (.mv (.tmp 3)), none⟩, none⟩, ⟨⟨(some 56), (.mv (.tmp 4)), none⟩, none⟩, ⟨⟨(some 57), (.bsl 3 (some .i64) 1 [(.tmp 56)]), none⟩, none⟩, ⟨⟨(some 58), (.app 3 (some .i64) 1 8 (.tmp 55) (.tmp 57)), none⟩, none⟩, ⟨⟨(some 3), (.mv (.tmp 58)), none⟩, none⟩]) (.ops false [⟨⟨(some 59), (.mv (.tmp 4)), none⟩, none⟩, ⟨⟨(some 60), (.mv (.tmp 5)), none⟩, none⟩, ⟨⟨(some 61), (.bin .add (.tmp 59) (.tmp 60)), none⟩, none⟩, ⟨⟨(some 4), (.mv (.tmp 61)), none⟩, none⟩])) (.ops false [⟨⟨(some 62), (.mv (.tmp 4)), none⟩, none⟩, ⟨⟨(some 63), (.bin .add (.tmp 62) (.c (.int .i64 (1)))), none⟩, none⟩, ⟨⟨(some 4), (.mv (.tmp 63)), none⟩, none⟩])))))))))
def xr_coupletref13_Found : XR := (.seq (.ops false [⟨⟨(some 2), (.mv (.c (.isl true true .i64 []))), none⟩, none⟩]) (.seq (.ops false [⟨⟨(some 3), (.mv (.c (.isl true true .i64 []))), none⟩, none⟩]) (.seq (.ops false [⟨⟨(some 4), (.mv (.c (.int .i64 (0)))), none⟩, none⟩]) (.seq (.block 0 (.loop 0 [0, 3, 4] xb_coupletref13_Found_0)) (.seq (.ops false [⟨⟨(some 64), (.mv (.tmp 3)), none⟩, none⟩, ⟨⟨(some 2), (.mv (.tmp 64)), none⟩, none⟩]) .ret)))))
def rs_coupletref13_Found : List ResultVar := [(.tmp 2)]
theorem ir_coupletref13_Found : compCode Tryd.prog (Tryd.f41.body.getD .skip) [[0, 3, 4], [0, 3, 4, 5, 6, 7]] = some (xr_coupletref13_Found.erase, []) := by kernel_rfl
def gm_coupletref13_Found : Gam := (Gam.fn 43 as_coupletref13_Size ga_coupletref13_Size em_coupletref13_Size (Gam.fn 30 as_coupletref12_Why ga_coupletref12_Why em_coupletref12_Why (Gam.fn 63 as_coupletref13_number ga_coupletref13_number em_coupletref13_number Gam.bot)))
theorem gk_coupletref13_Found : GamOk Tryd.prog GG gm_coupletref13_Found := (GamOk.fn at_coupletref13_Size (GamOk.fn at_coupletref12_Why (GamOk.fn at_coupletref13_number GamOk.bot)))
def st_coupletref13_Found_1 (b12 : Bool) (b13 : Bool) (l14 : List Int) (n15 : Int) (n16 : Int) (b17 : Bool) (n18 : Int) (b19 : Bool) (b20 : Bool) (l21 : List Int) : Option (((Bool × Bool × List Int × Int × Int × Bool × Int × Bool × Bool × List Int)) ⊕ (((Bool × Bool × List Int × Int × Int × Bool × Bool × Bool × List Int)))) :=
  bif b17 then
   bif (decide (n18 < (IntKind.wrap .i64 ((IntKind.wrap .i64 (n15 + n16)) - 4)))) then
    bif (decide (0 ≤ n18)) then
     bif (decide (n18 ≤ (IntKind.wrap .i64 (n18 + 8)))) then
      bif (decide ((IntKind.wrap .i64 (n18 + 8)) ≤ (((List.length l14) : Nat) : Int))) then
       (go_coupletref13_number b12 false (List.take (Int.toNat ((IntKind.wrap .i64 (n18 + 8)) - n18)) (List.drop (Int.toNat n18) l14))).bind fun r22 =>
       some (Sum.inl (b12, b13, l14, n15, n16, r22, (IntKind.wrap .i64 (n18 + 8)), b19, b20, l21))
      else none
     else none
    else none
   else
    some (Sum.inr (b12, b13, l14, n15, n16, b17, b19, b20, l21))
  else
   some (Sum.inr (b12, b13, l14, n15, n16, b17, b19, b20, l21))
def lp_coupletref13_Found_1 (b12 : Bool) (b13 : Bool) (l14 : List Int) (n15 : Int) (n16 : Int) (b17 : Bool) (n18 : Int) (b19 : Bool) (b20 : Bool) (l21 : List Int) : Option (((Bool × Bool × List Int × Int × Int × Bool × Bool × Bool × List Int))) := loopN (X := (Bool × Bool × List Int × Int × Int × Bool × Int × Bool × Bool × List Int)) (fun x => st_coupletref13_Found_1 x.1 x.2.1 x.2.2.1 x.2.2.2.1 x.2.2.2.2.1 x.2.2.2.2.2.1 x.2.2.2.2.2.2.1 x.2.2.2.2.2.2.2.1 x.2.2.2.2.2.2.2.2.1 x.2.2.2.2.2.2.2.2.2) (b12, b13, l14, n15, n16, b17, n18, b19, b20, l21)
def sh_coupletref13_Found_1 : StSh := ⟨65, [(0, (.p (.isl .u8))), (3, (.row 0)), (4, (.p (.int .i64))), (5, (.p (.int .i64))), (6, (.p .bool)), (7, (.p (.int .i64)))], [(.irow 3 .i64)]⟩
def sx_coupletref13_Found_1 (x : (Bool × Bool × List Int × Int × Int × Bool × Int × Bool × Bool × List Int)) : St := ⟨slots 65 0 [(0, (.p (.isl x.1 x.2.1 .u8 x.2.2.1))), (3, (.row 0)), (4, (.p (.int .i64 x.2.2.2.1))), (5, (.p (.int .i64 x.2.2.2.2.1))), (6, (.p (.bool x.2.2.2.2.2.1))), (7, (.p (.int .i64 x.2.2.2.2.2.2.1)))], [(.irow 3 .i64 x.2.2.2.2.2.2.2.1 x.2.2.2.2.2.2.2.2.1 x.2.2.2.2.2.2.2.2.2)]⟩
def sa_coupletref13_Found_1 (S : St) : (Bool × Bool × List Int × Int × Int × Bool × Int × Bool × Bool × List Int) := (((tls 0 S.t).headD .any).pv.nl, ((tls 0 S.t).headD .any).pv.ex, ((tls 0 S.t).headD .any).pv.ints, ((tls 4 S.t).headD .any).pv.num, ((tls 5 S.t).headD .any).pv.num, ((tls 6 S.t).headD .any).pv.tru, ((tls 7 S.t).headD .any).pv.num, ((tls 0 S.own).headD .gone).pvD.nl, ((tls 0 S.own).headD .gone).pvD.ex, ((tls 0 S.own).headD .gone).pvD.ints)
def tz_coupletref13_Found_1_0 : StSh := ⟨65, [(0, (.p (.isl .u8))), (3, (.row 0)), (4, (.p (.int .i64))), (5, (.p (.int .i64))), (6, (.p .bool))], [(.irow 3 .i64)]⟩
def tx_coupletref13_Found_1_0 (x : (Bool × Bool × List Int × Int × Int × Bool × Bool × Bool × List Int)) : St := ⟨slots 65 0 [(0, (.p (.isl x.1 x.2.1 .u8 x.2.2.1))), (3, (.row 0)), (4, (.p (.int .i64 x.2.2.2.1))), (5, (.p (.int .i64 x.2.2.2.2.1))), (6, (.p (.bool x.2.2.2.2.2.1)))], [(.irow 3 .i64 x.2.2.2.2.2.2.1 x.2.2.2.2.2.2.2.1 x.2.2.2.2.2.2.2.2)]⟩
def ta_coupletref13_Found_1_0 (S : St) : (Bool × Bool × List Int × Int × Int × Bool × Bool × Bool × List Int) := (((tls 0 S.t).headD .any).pv.nl, ((tls 0 S.t).headD .any).pv.ex, ((tls 0 S.t).headD .any).pv.ints, ((tls 4 S.t).headD .any).pv.num, ((tls 5 S.t).headD .any).pv.num, ((tls 6 S.t).headD .any).pv.tru, ((tls 0 S.own).headD .gone).pvD.nl, ((tls 0 S.own).headD .gone).pvD.ex, ((tls 0 S.own).headD .gone).pvD.ints)
def kb_coupletref13_Found_1 : Exit → St → Tree (((Bool × Bool × List Int × Int × Int × Bool × Int × Bool × Bool × List Int)) ⊕ (((Bool × Bool × List Int × Int × Int × Bool × Bool × Bool × List Int)))) := (exOne (.exit 2) [0, 3, 4, 5, 6] tz_coupletref13_Found_1_0 ta_coupletref13_Found_1_0 (fun y => Sum.inr (y)) exNil)
def ky_coupletref13_Found_1 : Dec (((Bool × Bool × List Int × Int × Int × Bool × Bool × Bool × List Int))) := fun _ y ke => ke ((.exit 2) : EK).ex (tx_coupletref13_Found_1_0 y)
theorem kk_coupletref13_Found_1 : ExOk Sum.inr kb_coupletref13_Found_1 ky_coupletref13_Found_1 := (ExOk.one (acc := ta_coupletref13_Found_1_0) (bY := tx_coupletref13_Found_1_0) (inj1 := fun y => y) (fun S => by kernel_rfl) (fun y _ ke => .inr (by kernel_rfl)) ExOk.nil)
def st_coupletref13_Found_0 (b3 : Bool) (b4 : Bool) (l5 : List Int) (n6 : Int) (b7 : Bool) (b8 : Bool) (l9 : List Int) : Option (((Bool × Bool × List Int × Int × Bool × Bool × List Int)) ⊕ (((Bool × Bool × List Int)))) :=
  bif (decide (n6 < (((List.length l5) : Nat) : Int))) then
   bif (decide (0 ≤ n6)) then
    bif (decide (n6 ≤ (((List.length l5) : Nat) : Int))) then
     bif (decide ((((List.length l5) : Nat) : Int) ≤ (((List.length l5) : Nat) : Int))) then
      (go_coupletref13_Size b3 b4 (List.take (Int.toNat ((((List.length l5) : Nat) : Int) - n6)) (List.drop (Int.toNat n6) l5))).bind fun r10 =>
      bif (decide (r10 > 0)) then
       bif (decide (r10 ≤ (IntKind.wrap .i64 ((((List.length l5) : Nat) : Int) - n6)))) then
        bif (decide (0 ≤ n6)) then
         bif (decide (n6 ≤ (IntKind.wrap .i64 (n6 + r10)))) then
          bif (decide ((IntKind.wrap .i64 (n6 + r10)) ≤ (((List.length l5) : Nat) : Int))) then
           (go_coupletref12_Why b3 false (List.take (Int.toNat ((IntKind.wrap .i64 (n6 + r10)) - n6)) (List.drop (Int.toNat n6) l5))).bind fun r11 =>
           (lp_coupletref13_Found_1 b3 b4 l5 n6 r10 (r11 == 0) (IntKind.wrap .i64 (n6 + 8)) b7 b8 l9).bind fun y23 =>
           bif y23.2.2.2.2.2.1 then
            bif (decide ((((List.length y23.2.2.2.2.2.2.2.2) + 1) * 8) ≤ 140737488355328)) then
             bif (decide (((List.length y23.2.2.2.2.2.2.2.2) + 1) ≤ 4611686018427387904)) then
              some (Sum.inl (y23.1, y23.2.1, y23.2.2.1, (IntKind.wrap .i64 (y23.2.2.2.1 + y23.2.2.2.2.1)), (y23.2.2.2.2.2.2.1 && false), false, (y23.2.2.2.2.2.2.2.2 ++ [y23.2.2.2.1])))
             else none
            else none
           else
            some (Sum.inl (y23.1, y23.2.1, y23.2.2.1, (IntKind.wrap .i64 (y23.2.2.2.1 + 1)), y23.2.2.2.2.2.2.1, y23.2.2.2.2.2.2.2.1, y23.2.2.2.2.2.2.2.2))
          else none
         else none
        else none
       else
        (lp_coupletref13_Found_1 b3 b4 l5 n6 r10 (decide (r10 ≤ (IntKind.wrap .i64 ((((List.length l5) : Nat) : Int) - n6)))) (IntKind.wrap .i64 (n6 + 8)) b7 b8 l9).bind fun y24 =>
        bif y24.2.2.2.2.2.1 then
         bif (decide ((((List.length y24.2.2.2.2.2.2.2.2) + 1) * 8) ≤ 140737488355328)) then
          bif (decide (((List.length y24.2.2.2.2.2.2.2.2) + 1) ≤ 4611686018427387904)) then
           some (Sum.inl (y24.1, y24.2.1, y24.2.2.1, (IntKind.wrap .i64 (y24.2.2.2.1 + y24.2.2.2.2.1)), (y24.2.2.2.2.2.2.1 && false), false, (y24.2.2.2.2.2.2.2.2 ++ [y24.2.2.2.1])))
          else none
         else none
        else
         some (Sum.inl (y24.1, y24.2.1, y24.2.2.1, (IntKind.wrap .i64 (y24.2.2.2.1 + 1)), y24.2.2.2.2.2.2.1, y24.2.2.2.2.2.2.2.1, y24.2.2.2.2.2.2.2.2))
      else
       (lp_coupletref13_Found_1 b3 b4 l5 n6 r10 false (IntKind.wrap .i64 (n6 + 8)) b7 b8 l9).bind fun y25 =>
       bif y25.2.2.2.2.2.1 then
        bif (decide ((((List.length y25.2.2.2.2.2.2.2.2) + 1) * 8) ≤ 140737488355328)) then
         bif (decide (((List.length y25.2.2.2.2.2.2.2.2) + 1) ≤ 4611686018427387904)) then
          some (Sum.inl (y25.1, y25.2.1, y25.2.2.1, (IntKind.wrap .i64 (y25.2.2.2.1 + y25.2.2.2.2.1)), (y25.2.2.2.2.2.2.1 && false), false, (y25.2.2.2.2.2.2.2.2 ++ [y25.2.2.2.1])))
         else none
        else none
       else
        some (Sum.inl (y25.1, y25.2.1, y25.2.2.1, (IntKind.wrap .i64 (y25.2.2.2.1 + 1)), y25.2.2.2.2.2.2.1, y25.2.2.2.2.2.2.2.1, y25.2.2.2.2.2.2.2.2))
     else none
    else none
   else none
  else
   some (Sum.inr (b7, b8, l9))
def lp_coupletref13_Found_0 (b3 : Bool) (b4 : Bool) (l5 : List Int) (n6 : Int) (b7 : Bool) (b8 : Bool) (l9 : List Int) : Option (((Bool × Bool × List Int))) := loopN (X := (Bool × Bool × List Int × Int × Bool × Bool × List Int)) (fun x => st_coupletref13_Found_0 x.1 x.2.1 x.2.2.1 x.2.2.2.1 x.2.2.2.2.1 x.2.2.2.2.2.1 x.2.2.2.2.2.2) (b3, b4, l5, n6, b7, b8, l9)
def sh_coupletref13_Found_0 : StSh := ⟨65, [(0, (.p (.isl .u8))), (3, (.row 0)), (4, (.p (.int .i64)))], [(.irow 3 .i64)]⟩
def sx_coupletref13_Found_0 (x : (Bool × Bool × List Int × Int × Bool × Bool × List Int)) : St := ⟨slots 65 0 [(0, (.p (.isl x.1 x.2.1 .u8 x.2.2.1))), (3, (.row 0)), (4, (.p (.int .i64 x.2.2.2.1)))], [(.irow 3 .i64 x.2.2.2.2.1 x.2.2.2.2.2.1 x.2.2.2.2.2.2)]⟩
def sa_coupletref13_Found_0 (S : St) : (Bool × Bool × List Int × Int × Bool × Bool × List Int) := (((tls 0 S.t).headD .any).pv.nl, ((tls 0 S.t).headD .any).pv.ex, ((tls 0 S.t).headD .any).pv.ints, ((tls 4 S.t).headD .any).pv.num, ((tls 0 S.own).headD .gone).pvD.nl, ((tls 0 S.own).headD .gone).pvD.ex, ((tls 0 S.own).headD .gone).pvD.ints)
def tz_coupletref13_Found_0_0 : StSh := ⟨65, [(3, (.row 0))], [(.irow 3 .i64)]⟩
def tx_coupletref13_Found_0_0 (x : (Bool × Bool × List Int)) : St := ⟨slots 65 0 [(3, (.row 0))], [(.irow 3 .i64 x.1 x.2.1 x.2.2)]⟩
def ta_coupletref13_Found_0_0 (S : St) : (Bool × Bool × List Int) := (((tls 0 S.own).headD .gone).pvD.nl, ((tls 0 S.own).headD .gone).pvD.ex, ((tls 0 S.own).headD .gone).pvD.ints)
def kb_coupletref13_Found_0 : Exit → St → Tree (((Bool × Bool × List Int × Int × Bool × Bool × List Int)) ⊕ (((Bool × Bool × List Int)))) := (exOne (.exit 0) [3] tz_coupletref13_Found_0_0 ta_coupletref13_Found_0_0 (fun y => Sum.inr (y)) exNil)
def ky_coupletref13_Found_0 : Dec (((Bool × Bool × List Int))) := fun _ y ke => ke ((.exit 0) : EK).ex (tx_coupletref13_Found_0_0 y)
theorem kk_coupletref13_Found_0 : ExOk Sum.inr kb_coupletref13_Found_0 ky_coupletref13_Found_0 := (ExOk.one (acc := ta_coupletref13_Found_0_0) (bY := tx_coupletref13_Found_0_0) (inj1 := fun y => y) (fun S => by kernel_rfl) (fun y _ ke => .inr (by kernel_rfl)) ExOk.nil)
def lm_coupletref13_Found : Lam := fun _ j S kn ke => match j with
  | 0 => prepT [0, 3, 4] [(3, 3)] S fun S => .chk (sh_coupletref13_Found_0.ok S) (.bind (loopN (fun x => st_coupletref13_Found_0 x.1 x.2.1 x.2.2.1 x.2.2.2.1 x.2.2.2.2.1 x.2.2.2.2.2.1 x.2.2.2.2.2.2) (sa_coupletref13_Found_0 S)) fun y => ky_coupletref13_Found_0 _ y ke)
  | 1 => prepT [0, 3, 4, 5, 6, 7] [(3, 3)] S fun S => .chk (sh_coupletref13_Found_1.ok S) (.bind (loopN (fun x => st_coupletref13_Found_1 x.1 x.2.1 x.2.2.1 x.2.2.2.1 x.2.2.2.2.1 x.2.2.2.2.2.1 x.2.2.2.2.2.2.1 x.2.2.2.2.2.2.2.1 x.2.2.2.2.2.2.2.2.1 x.2.2.2.2.2.2.2.2.2) (sa_coupletref13_Found_1 S)) fun y => ky_coupletref13_Found_1 _ y ke)
  | _ => .fail
theorem sr_coupletref13_Found_1 (x : (Bool × Bool × List Int × Int × Int × Bool × Int × Bool × Bool × List Int)) : (ev GG gm_coupletref13_Found lm_coupletref13_Found xb_coupletref13_Found_1 (sx_coupletref13_Found_1 x) (fun S => forgetT [0, 3, 4, 5, 6, 7] S fun S => prepT [0, 3, 4, 5, 6, 7] [(3, 3)] S fun S => .chk (sh_coupletref13_Found_1.ok S) (.leaf (.inl (sa_coupletref13_Found_1 S)))) kb_coupletref13_Found_1).run = st_coupletref13_Found_1 x.1 x.2.1 x.2.2.1 x.2.2.2.1 x.2.2.2.2.1 x.2.2.2.2.2.1 x.2.2.2.2.2.2.1 x.2.2.2.2.2.2.2.1 x.2.2.2.2.2.2.2.2.1 x.2.2.2.2.2.2.2.2.2 := by kernel_rfl
theorem la_coupletref13_Found_1 : LamAt Tryd.prog GG lm_coupletref13_Found 1 (.loop [0, 3, 4, 5, 6, 7] xb_coupletref13_Found_1.erase) := lam_loop (body := xb_coupletref13_Found_1) (Λ' := lm_coupletref13_Found) gk_coupletref13_Found (⟨⟨trivial, ⟨trivial, trivial⟩⟩, ⟨trivial, trivial⟩⟩) (fun S => (by kernel_rfl : sh_coupletref13_Found_1.build S = sx_coupletref13_Found_1 (sa_coupletref13_Found_1 S))) kk_coupletref13_Found_1 sr_coupletref13_Found_1 (fun _ _ _ => rfl)
theorem sr_coupletref13_Found_0 (x : (Bool × Bool × List Int × Int × Bool × Bool × List Int)) : (ev GG gm_coupletref13_Found lm_coupletref13_Found xb_coupletref13_Found_0 (sx_coupletref13_Found_0 x) (fun S => forgetT [0, 3, 4] S fun S => prepT [0, 3, 4] [(3, 3)] S fun S => .chk (sh_coupletref13_Found_0.ok S) (.leaf (.inl (sa_coupletref13_Found_0 S)))) kb_coupletref13_Found_0).run = st_coupletref13_Found_0 x.1 x.2.1 x.2.2.1 x.2.2.2.1 x.2.2.2.2.1 x.2.2.2.2.2.1 x.2.2.2.2.2.2 := by kernel_rfl
theorem la_coupletref13_Found_0 : LamAt Tryd.prog GG lm_coupletref13_Found 0 (.loop [0, 3, 4] xb_coupletref13_Found_0.erase) := lam_loop (body := xb_coupletref13_Found_0) (Λ' := lm_coupletref13_Found) gk_coupletref13_Found (⟨⟨trivial, ⟨trivial, trivial⟩⟩, ⟨trivial, ⟨trivial, ⟨⟨trivial, ⟨trivial, trivial⟩⟩, ⟨⟨trivial, la_coupletref13_Found_1⟩, ⟨trivial, ⟨⟨trivial, trivial⟩, trivial⟩⟩⟩⟩⟩⟩⟩) (fun S => (by kernel_rfl : sh_coupletref13_Found_0.build S = sx_coupletref13_Found_0 (sa_coupletref13_Found_0 S))) kk_coupletref13_Found_0 sr_coupletref13_Found_0 (fun _ _ _ => rfl)
def go_coupletref13_Found (b0 : Bool) (b1 : Bool) (l2 : List Int) : Option (Bool × Bool × List Int) :=
  (lp_coupletref13_Found_0 b0 b1 l2 0 true true []).bind fun y26 =>
  some (y26.1, y26.2.1, y26.2.2)
def em_coupletref13_Found (r : (Bool × Bool × List Int)) : PV := (.isl r.1 r.2.1 .i64 r.2.2)
def rh_coupletref13_Found : Shp := (.isl .i64)
def ra_coupletref13_Found (v : PV) : (Bool × Bool × List Int) := (v.nl, v.ex, v.ints)
def kf_coupletref13_Found (v : PV) : Tree (Bool × Bool × List Int) := .chk (rh_coupletref13_Found.ok v) (.leaf (ra_coupletref13_Found v))
theorem rn_coupletref13_Found (b0 : Bool) (b1 : Bool) (l2 : List Int) : (ev GG gm_coupletref13_Found lm_coupletref13_Found xr_coupletref13_Found ⟨slots 65 0 [(0, .p (.isl b0 b1 .u8 l2))], []⟩ (fun S => finT Tryd.prog rs_coupletref13_Found S kf_coupletref13_Found) (retT Tryd.prog rs_coupletref13_Found kf_coupletref13_Found)).run = go_coupletref13_Found b0 b1 l2 := by kernel_rfl
theorem ok_coupletref13_Found (b0 : Bool) (b1 : Bool) (l2 : List Int) (r : (Bool × Bool × List Int)) (h : go_coupletref13_Found b0 b1 l2 = some r) : FunEq Tryd.prog GG 41 [(.isl b0 b1 .u8 l2)] (em_coupletref13_Found r) :=
  fun_of_ev (x := xr_coupletref13_Found) (Λ := lm_coupletref13_Found) gk_coupletref13_Found [[0, 3, 4], [0, 3, 4, 5, 6, 7]] Tryd.func41 rfl (by kernel_rfl) ir_coupletref13_Found (by kernel_rfl) (congrArg Array.toList Tryd.results41) Tryd.ntmps41 (⟨trivial, ⟨trivial, ⟨trivial, ⟨la_coupletref13_Found_0, ⟨trivial, trivial⟩⟩⟩⟩⟩) (leaf_of fun v => (by kernel_rfl : rh_coupletref13_Found.build v = em_coupletref13_Found (ra_coupletref13_Found v))) (by kernel_rfl) ((rn_coupletref13_Found b0 b1 l2).trans h)
def as_coupletref13_Found : List Shp := [(.isl .u8)]
def ga_coupletref13_Found (vs : List PV) : Option (Bool × Bool × List Int) := go_coupletref13_Found ((tls 0 vs).headD .nilSl).nl ((tls 0 vs).headD .nilSl).ex ((tls 0 vs).headD .nilSl).ints
theorem at_coupletref13_Found : FnAt Tryd.prog GG 41 as_coupletref13_Found ga_coupletref13_Found em_coupletref13_Found := fun vs h r hr => by
  have e : Shp.buildL as_coupletref13_Found vs = [(.isl ((tls 0 vs).headD .nilSl).nl ((tls 0 vs).headD .nilSl).ex .u8 ((tls 0 vs).headD .nilSl).ints)] := by kernel_rfl
  rw [← Shp.buildL_eq _ h, e]
  exact .inl ⟨by decide, ok_coupletref13_Found _ _ _ r hr⟩
end Go.Proofs
end
