import Derived.Test.YtajphaljpkeecaaDoorWSPa
import Derived.Test.YtajphaljpkeecaaDoorWSPb
import Derived.Test.YtajphaljpkeecaaDoorWGC0
import Derived.Test.YtajphaljpkeecaaDoorWGC12
import Derived.Test.YtajphaljpkeecaaDoorFxRng
import Derived.Test.YtajphaljpkeecaaDoorChecked
set_option linter.unusedVariables false
set_option maxRecDepth 100000
noncomputable section
namespace Go.Proofs
open Go Go.Fx

def xr_scan_Size : XR := (.seq (.ops false [⟨⟨(some 2), (.mv (.c (.int .i64 (0)))), none⟩, none⟩]) (.seq (.seq (.ops false [⟨⟨(some 4), (.mv (.tmp 0)), none⟩, none⟩, ⟨⟨(some 5), (.len (.tmp 4)), none⟩, none⟩, ⟨⟨(some 6), (.bin .lss (.tmp 5) (.c (.int .i64 (4)))), none⟩, none⟩, ⟨⟨(some 7), (.mv (.tmp 6)), none⟩, none⟩, ⟨⟨(some 8), (.mv (.tmp 0)), (some (7, false))⟩, none⟩, ⟨⟨(some 9), (.slc 1 (.tmp 8) none (some (.c (.int .i64 (2)))) none), (some (7, false))⟩, none⟩, ⟨⟨(some 10), (.cvtBS (.tmp 9)), (some (7, false))⟩, none⟩, ⟨⟨(some 11), (.binS .neq (.tmp 10) (.c (.str [(78), (86)]))), (some (7, false))⟩, none⟩, ⟨⟨(some 12), (.pick (.tmp 7) (.c (.bool true)) (.tmp 11)), none⟩, none⟩]) (.cond (.tmp 12) (.seq (.ops false [⟨⟨(some 2), (.mv (.c (.int .i64 (0)))), none⟩, none⟩]) .ret) .skip)) (.seq (.ops true [⟨⟨(some 13), (.mv (.tmp 0)), none⟩, none⟩, ⟨⟨(some 14), (.ixA 1 (.tmp 13) (.c (.int .i64 (2)))), none⟩, none⟩, ⟨⟨(some 15), (.ld false 1 (.tmp 14)), none⟩, (some (.int .u8))⟩, ⟨⟨(some 16), (.cvtI .i64 (.tmp 15)), none⟩, none⟩, ⟨⟨(some 17), (.mv (.tmp 0)), none⟩, none⟩, ⟨⟨(some 18), (.ixA 1 (.tmp 17) (.c (.int .i64 (3)))), none⟩, none⟩, ⟨⟨(some 19), (.ld false 1 (.tmp 18)), none⟩, (some (.int .u8))⟩, ⟨⟨(some 20), (.cvtI .i64 (.tmp 19)), none⟩, none⟩, ⟨⟨(some 21), (.call (.func 22) [(.tmp 16), (.tmp 20)]), none⟩, none⟩, ⟨⟨(some 3), (.mv (.tmp 21)), none⟩, none⟩]) (.seq (.seq (.ops false [⟨⟨(some 22), (.mv (.tmp 3)), none⟩, none⟩, ⟨⟨(some 23), (.bin .eql (.tmp 22) (.c (.int .i64 (0)))), none⟩, none⟩]) (.cond (.tmp 23) (.seq (.ops false [⟨⟨(some 2), (.mv (.c (.int .i64 (0)))), none⟩, none⟩]) .ret) .skip)) (.seq (.ops false [⟨⟨(some 24), (.mv (.tmp 3)), none⟩, none⟩, ⟨⟨(some 25), (.bin .mul (.c (.int .i64 (8))) (.tmp 24)), none⟩, none⟩, ⟨⟨(some 26), (.bin .add (.c (.int .i64 (12))) (.tmp 25)), none⟩, none⟩, ⟨⟨(some 2), (.mv (.tmp 26)), none⟩, none⟩]) .ret)))))
def rs_scan_Size : List ResultVar := [(.tmp 2)]
theorem ir_scan_Size : compCode Tryd.prog (Tryd.f45.body.getD .skip) [] = some (xr_scan_Size.erase, []) := by kernel_rfl
/-! scan_Size -/
def gm_scan_Size : Gam := (Gam.fn 22 as_frame_Many ga_frame_Many em_frame_Many Gam.bot)
theorem gk_scan_Size : GamOk Tryd.prog GG gm_scan_Size := (GamOk.fn at_frame_Many GamOk.bot)
def lm_scan_Size : Lam := fun _ j S kn ke => match j with
  | _ => .fail
/-- scan_Size -/
def go_scan_Size (b0 : Bool) (b1 : Bool) (l2 : List Int) : Option Int :=
  bif (decide ((((List.length l2) : Nat) : Int) < 4)) then
   some 0
  else
   bif (decide (2 ≤ (((List.length l2) : Nat) : Int))) then
    bif (List.all (List.take 2 (List.drop 0 l2)) (fun x4 => (decide ((0 ≤ x4) ∧ (x4 < 256))))) then
     bif (!((List.take 2 (List.drop 0 l2)) == [78, 86])) then
      some 0
     else
      bif (decide (2 < (((List.length l2) : Nat) : Int))) then
       bif (decide (2 < (List.length l2))) then
        bif (decide (3 < (((List.length l2) : Nat) : Int))) then
         bif (decide (3 < (List.length l2))) then
          (go_frame_Many (IntKind.wrap .i64 (List.getD l2 2 0)) (IntKind.wrap .i64 (List.getD l2 3 0))).bind fun r3 =>
          bif (r3 == 0) then
           some 0
          else
           some (IntKind.wrap .i64 (12 + (IntKind.wrap .i64 (8 * r3))))
         else none
        else none
       else none
      else none
    else none
   else none
def em_scan_Size (r : Int) : PV := (.int .i64 r)
def rh_scan_Size : Shp := (.int .i64)
def ra_scan_Size (v : PV) : Int := v.num
def kf_scan_Size (v : PV) : Tree Int := .chk (rh_scan_Size.ok v) (.leaf (ra_scan_Size v))
theorem rn_scan_Size (b0 : Bool) (b1 : Bool) (l2 : List Int) : (ev GG gm_scan_Size lm_scan_Size xr_scan_Size ⟨slots 27 0 [(0, .p (.isl b0 b1 .u8 l2))], []⟩ (fun S => finT Tryd.prog rs_scan_Size S kf_scan_Size) (retT Tryd.prog rs_scan_Size kf_scan_Size)).run = go_scan_Size b0 b1 l2 := by kernel_rfl
theorem ok_scan_Size (b0 : Bool) (b1 : Bool) (l2 : List Int) (r : Int) (h : go_scan_Size b0 b1 l2 = some r) : FunEq Tryd.prog GG 45 [(.isl b0 b1 .u8 l2)] (em_scan_Size r) :=
  fun_of_ev (x := xr_scan_Size) (Λ := lm_scan_Size) gk_scan_Size [] Tryd.func45 rfl (by kernel_rfl) ir_scan_Size (by kernel_rfl) (congrArg Array.toList Tryd.results45) Tryd.ntmps45 (⟨trivial, ⟨⟨trivial, ⟨⟨trivial, trivial⟩, trivial⟩⟩, ⟨trivial, ⟨⟨trivial, ⟨⟨trivial, trivial⟩, trivial⟩⟩, ⟨trivial, trivial⟩⟩⟩⟩⟩) (leaf_of fun v => (by kernel_rfl : rh_scan_Size.build v = em_scan_Size (ra_scan_Size v))) (by kernel_rfl) ((rn_scan_Size b0 b1 l2).trans h)
def as_scan_Size : List Shp := [(.isl .u8)]
def ga_scan_Size (vs : List PV) : Option Int := go_scan_Size ((tls 0 vs).headD .nilSl).nl ((tls 0 vs).headD .nilSl).ex ((tls 0 vs).headD .nilSl).ints
theorem at_scan_Size : FnAt Tryd.prog GG 45 as_scan_Size ga_scan_Size em_scan_Size := fun vs h r hr => by
  have e : Shp.buildL as_scan_Size vs = [(.isl ((tls 0 vs).headD .nilSl).nl ((tls 0 vs).headD .nilSl).ex .u8 ((tls 0 vs).headD .nilSl).ints)] := by kernel_rfl
  rw [← Shp.buildL_eq _ h, e]
  exact .inl ⟨by decide, ok_scan_Size _ _ _ r hr⟩

def xr_scan_Frames : XR := (.seq (.ops false [⟨⟨(some 1), (.box 26 (.tmp 0)), none⟩, none⟩, ⟨⟨(some 2), (.mv (.c .nilFn)), none⟩, none⟩]) (.seq (.ops false [⟨⟨(some 3), (.mkFn 64 [(.tmp 1)]), none⟩, none⟩, ⟨⟨(some 2), (.mv (.tmp 3)), none⟩, none⟩]) .ret))
def rs_scan_Frames : List ResultVar := [(.tmp 2)]
theorem ir_scan_Frames : compCode Tryd.prog (Tryd.f42.body.getD .skip) [] = some (xr_scan_Frames.erase, []) := by kernel_rfl
/-! scan_Frames -/
def gm_scan_Frames : Gam := Gam.bot
theorem gk_scan_Frames : GamOk Tryd.prog GG gm_scan_Frames := GamOk.bot
def lm_scan_Frames : Lam := fun _ j S kn ke => match j with
  | _ => .fail
/-- scan_Frames -/
def go_scan_Frames (b0 : Bool) (b1 : Bool) (l2 : List Int) : Option (Bool × Bool × List Int) :=
  some (b0, b1, l2)
def em_scan_Frames (r : (Bool × Bool × List Int)) : PV := (.fn 64 [(.ref 0 [(.isl r.1 r.2.1 .u8 r.2.2)])])
def rh_scan_Frames : Shp := (.fn 64 [(.ref 0 [(.isl .u8)])])
def ra_scan_Frames (v : PV) : (Bool × Bool × List Int) := (((v.subs.headD .nilSl).subs.headD .nilSl).nl, ((v.subs.headD .nilSl).subs.headD .nilSl).ex, ((v.subs.headD .nilSl).subs.headD .nilSl).ints)
def kf_scan_Frames (v : PV) : Tree (Bool × Bool × List Int) := .chk (rh_scan_Frames.ok v) (.leaf (ra_scan_Frames v))
theorem rn_scan_Frames (b0 : Bool) (b1 : Bool) (l2 : List Int) : (ev GG gm_scan_Frames lm_scan_Frames xr_scan_Frames ⟨slots 4 0 [(0, .p (.isl b0 b1 .u8 l2))], []⟩ (fun S => finT Tryd.prog rs_scan_Frames S kf_scan_Frames) (retT Tryd.prog rs_scan_Frames kf_scan_Frames)).run = go_scan_Frames b0 b1 l2 := by kernel_rfl
theorem ok_scan_Frames (b0 : Bool) (b1 : Bool) (l2 : List Int) (r : (Bool × Bool × List Int)) (h : go_scan_Frames b0 b1 l2 = some r) : FunEq Tryd.prog GG 42 [(.isl b0 b1 .u8 l2)] (em_scan_Frames r) :=
  fun_of_ev (x := xr_scan_Frames) (Λ := lm_scan_Frames) gk_scan_Frames [] Tryd.func42 rfl (by kernel_rfl) ir_scan_Frames (by kernel_rfl) (congrArg Array.toList Tryd.results42) Tryd.ntmps42 (⟨trivial, ⟨trivial, trivial⟩⟩) (leaf_of fun v => (by kernel_rfl : rh_scan_Frames.build v = em_scan_Frames (ra_scan_Frames v))) (by kernel_rfl) ((rn_scan_Frames b0 b1 l2).trans h)
def as_scan_Frames : List Shp := [(.isl .u8)]
def ga_scan_Frames (vs : List PV) : Option (Bool × Bool × List Int) := go_scan_Frames ((tls 0 vs).headD .nilSl).nl ((tls 0 vs).headD .nilSl).ex ((tls 0 vs).headD .nilSl).ints
theorem at_scan_Frames : FnAt Tryd.prog GG 42 as_scan_Frames ga_scan_Frames em_scan_Frames := fun vs h r hr => by
  have e : Shp.buildL as_scan_Frames vs = [(.isl ((tls 0 vs).headD .nilSl).nl ((tls 0 vs).headD .nilSl).ex .u8 ((tls 0 vs).headD .nilSl).ints)] := by kernel_rfl
  rw [← Shp.buildL_eq _ h, e]
  exact .inl ⟨by decide, ok_scan_Frames _ _ _ r hr⟩
end Go.Proofs
