/-
  strings.Split at one sign; the program's lines.
-/
import Derived.Test.YtlfffpkfipdboaaDoorWGF1
import Derived.Test.YtlfffpkfipdboaaDoorWSFs
import Derived.Test.YtlfffpkfipdboaaDoorWSFm
import Derived.Test.YtlfffpkfipdboaaDoorWLFn
import Derived.Test.YtlfffpkfipdboaaDoorFxRng
import Derived.Test.YtlfffpkfipdboaaDoorChecked
set_option linter.unusedVariables false
set_option maxRecDepth 100000
noncomputable section
namespace Go.Proofs
open Go Go.Fx
def xr_coupletlaw20_awake : XR := (.seq (.ops false [⟨⟨(some 0), (.mv (.c (.bool false))), none⟩, none⟩]) (.seq (.ops false [⟨⟨(some 7), (.call (.func 8) [(.c (.str [(114), (101), (115), (101), (116), (10), (102), (97), (117), (108), (116), (32), (48), (32), (49), (32), (45), (53), (10)]))]), none⟩, none⟩, ⟨⟨(some 6), (.mv (.tmp 7)), none⟩, none⟩, ⟨⟨(some 8), (.ext (.tmp 6) 0), none⟩, none⟩, ⟨⟨(some 9), (.ext (.tmp 6) 1), none⟩, none⟩, ⟨⟨(some 10), (.ext (.tmp 6) 2), none⟩, none⟩, ⟨⟨(some 1), (.mv (.tmp 8)), none⟩, none⟩, ⟨⟨(some 2), (.mv (.tmp 9)), none⟩, none⟩, ⟨⟨(some 3), (.mv (.tmp 10)), none⟩, none⟩]) (.seq (.ops false [⟨⟨(some 12), (.mv (.tmp 1)), none⟩, none⟩, ⟨⟨(some 13), (.call (.func 15) [(.tmp 12)]), none⟩, none⟩, ⟨⟨(some 11), (.mv (.tmp 13)), none⟩, none⟩, ⟨⟨(some 14), (.ext (.tmp 11) 0), none⟩, none⟩, ⟨⟨(some 15), (.ext (.tmp 11) 1), none⟩, none⟩, ⟨⟨(some 4), (.mv (.tmp 14)), none⟩, none⟩, ⟨⟨(some 5), (.mv (.tmp 15)), none⟩, none⟩]) (.seq (.ops false [⟨⟨(some 16), (.mv (.tmp 3)), none⟩, none⟩, ⟨⟨(some 17), (.bin .eql (.tmp 16) (.c (.int .i64 (0)))), none⟩, none⟩, ⟨⟨(some 18), (.mv (.tmp 17)), none⟩, none⟩, ⟨⟨(some 19), (.mv (.tmp 5)), (some (18, true))⟩, none⟩, ⟨⟨(some 20), (.bin .eql (.tmp 19) (.c (.int .i64 (0)))), (some (18, true))⟩, none⟩, ⟨⟨(some 21), (.pick (.tmp 18) (.tmp 20) (.c (.bool false))), none⟩, none⟩, ⟨⟨(some 22), (.mv (.tmp 21)), none⟩, none⟩, ⟨⟨(some 23), (.mv (.tmp 2)), (some (22, true))⟩, none⟩, ⟨⟨(some 24), (.bin .eql (.tmp 23) (.c (.int .i64 (2)))), (some (22, true))⟩, none⟩, ⟨⟨(some 25), (.pick (.tmp 22) (.tmp 24) (.c (.bool false))), none⟩, none⟩, ⟨⟨(some 26), (.mv (.tmp 25)), none⟩, none⟩, ⟨⟨(some 27), (.mv (.tmp 1)), (some (26, true))⟩, none⟩, ⟨⟨(some 28), (.len (.tmp 27)), (some (26, true))⟩, none⟩, ⟨⟨(some 29), (.bin .eql (.tmp 28) (.c (.int .i64 (2)))), (some (26, true))⟩, none⟩, ⟨⟨(some 30), (.pick (.tmp 26) (.tmp 29) (.c (.bool false))), none⟩, none⟩, ⟨⟨(some 31), (.mv (.tmp 30)), none⟩, none⟩, ⟨⟨(some 32), (.mv (.tmp 1)), (some (31, true))⟩, none⟩, ⟨⟨(some 33), (.ixA 5 (.tmp 32) (.c (.int .i64 (1)))), (some (31, true))⟩, none⟩, ⟨⟨(some 34), (.fldA 4 (.tmp 33)), (some (31, true))⟩, none⟩, ⟨⟨(some 35), (.ld false 1 (.tmp 34)), (some (31, true))⟩, (some (.int .i64))⟩, ⟨⟨(some 36), (.bin .eql (.tmp 35) (.c (.int .i64 (-5)))), (some (31, true))⟩, none⟩, ⟨⟨(some 37), (.pick (.tmp 31) (.tmp 36) (.c (.bool false))), none⟩, none⟩, ⟨⟨(some 38), (.mv (.tmp 37)), none⟩, none⟩, ⟨⟨(some 39), (.mv (.tmp 4)), (some (38, true))⟩, none⟩, ⟨⟨(some 40), (.binS .eql (.tmp 39) (.c (.str [(114), (101), (115), (101), (116), (10), (102), (97), (117), (108), (116), (32), (48), (32), (49), (32), (45), (53), (10)]))), (some (38, true))⟩, none⟩, ⟨⟨(some 41), (.pick (.tmp 38) (.tmp 40) (.c (.bool false))), none⟩, none⟩, ⟨⟨(some 42), (.mv (.tmp 41)), none⟩, none⟩, ⟨⟨(some 43), (.mv (.tmp 1)), (some (42, true))⟩, none⟩, ⟨⟨(some 44), (.ixA 5 (.tmp 43) (.c (.int .i64 (0)))), (some (42, true))⟩, none⟩, ⟨⟨(some 45), (.ld true 5 (.tmp 44)), (some (42, true))⟩, (some (.agg [.str, (.isl .u8), (.int .i64), (.int .i64), (.int .i64)]))⟩, ⟨⟨(some 46), (.call (.func 14) [(.tmp 45)]), (some (42, true))⟩, none⟩, ⟨⟨(some 47), (.pick (.tmp 42) (.tmp 46) (.c (.bool false))), none⟩, none⟩, ⟨⟨(some 0), (.mv (.tmp 47)), none⟩, none⟩]) .ret))))
def rs_coupletlaw20_awake : List ResultVar := [(.tmp 0)]
theorem ir_coupletlaw20_awake : compCode Tryd.prog (Tryd.f7.body.getD .skip) [] = some (xr_coupletlaw20_awake.erase, []) := by kernel_rfl
def gm_coupletlaw20_awake : Gam := (Gam.fn 8 as_flight_Parse ga_flight_Parse em_flight_Parse (Gam.fn 15 as_flight_Print ga_flight_Print em_flight_Print (Gam.fn 14 as_flight_Right ga_flight_Right em_flight_Right Gam.bot)))
theorem gk_coupletlaw20_awake : GamOk Tryd.prog GG gm_coupletlaw20_awake := (GamOk.fn at_flight_Parse (GamOk.fn at_flight_Print (GamOk.fn at_flight_Right GamOk.bot)))
def lm_coupletlaw20_awake : Lam := fun _ j S kn ke => match j with
  | _ => .fail
def go_coupletlaw20_awake : Option Bool :=
  (go_flight_Parse [114, 101, 115, 101, 116, 10, 102, 97, 117, 108, 116, 32, 48, 32, 49, 32, 45, 53, 10]).bind fun r0 =>
  (go_flight_Print r0.1 r0.2.1 r0.2.2.1).bind fun r1 =>
  bif (r0.2.2.2.2 == 0) then
   bif (r1.2 == 0) then
    bif (r0.2.2.2.1 == 2) then
     bif ((((List.length r0.2.2.1) : Nat) : Int) == 2) then
      bif (decide (1 < (((List.length r0.2.2.1) : Nat) : Int))) then
       bif (decide (1 < (List.length r0.2.2.1))) then
        bif (Shp.ok (.int .i64) (List.getD (PV.cells (List.getD r0.2.2.1 1 .nilSl)) 4 .nilSl)) then
         bif ((PV.num (List.getD (PV.cells (List.getD r0.2.2.1 1 .nilSl)) 4 .nilSl)) == (-5)) then
          bif (r1.1 == [114, 101, 115, 101, 116, 10, 102, 97, 117, 108, 116, 32, 48, 32, 49, 32, 45, 53, 10]) then
           bif (decide (0 < (((List.length r0.2.2.1) : Nat) : Int))) then
            bif (decide (0 < (List.length r0.2.2.1))) then
             bif (decide ((List.length (PV.cells (List.getD r0.2.2.1 0 .nilSl))) = 5)) then
              bif (Shp.ok (.agg [.str, (.isl .u8), (.int .i64), (.int .i64), (.int .i64)]) (.agg (PV.cells (List.getD r0.2.2.1 0 .nilSl)))) then
               (go_flight_Right (PV.chars (List.headD (PV.subs (.agg (PV.cells (List.getD r0.2.2.1 0 .nilSl)))) .nilSl)) (PV.nl (List.headD (List.tail (PV.subs (.agg (PV.cells (List.getD r0.2.2.1 0 .nilSl))))) .nilSl)) (PV.ex (List.headD (List.tail (PV.subs (.agg (PV.cells (List.getD r0.2.2.1 0 .nilSl))))) .nilSl)) (PV.ints (List.headD (List.tail (PV.subs (.agg (PV.cells (List.getD r0.2.2.1 0 .nilSl))))) .nilSl)) (PV.num (List.headD (List.tail (List.tail (PV.subs (.agg (PV.cells (List.getD r0.2.2.1 0 .nilSl)))))) .nilSl)) (PV.num (List.headD (List.tail (List.tail (List.tail (PV.subs (.agg (PV.cells (List.getD r0.2.2.1 0 .nilSl))))))) .nilSl)) (PV.num (List.headD (List.tail (List.tail (List.tail (List.tail (PV.subs (.agg (PV.cells (List.getD r0.2.2.1 0 .nilSl)))))))) .nilSl))).bind fun r2 =>
               some r2
              else none
             else none
            else none
           else none
          else
           some false
         else
          some false
        else none
       else none
      else none
     else
      some false
    else
     some false
   else
    some false
  else
   some false
def em_coupletlaw20_awake (r : Bool) : PV := (.bool r)
def rh_coupletlaw20_awake : Shp := .bool
def ra_coupletlaw20_awake (v : PV) : Bool := v.tru
def kf_coupletlaw20_awake (v : PV) : Tree Bool := .chk (rh_coupletlaw20_awake.ok v) (.leaf (ra_coupletlaw20_awake v))
theorem rn_coupletlaw20_awake : (ev GG gm_coupletlaw20_awake lm_coupletlaw20_awake xr_coupletlaw20_awake ⟨slots 48 0 [], []⟩ (fun S => finT Tryd.prog rs_coupletlaw20_awake S kf_coupletlaw20_awake) (retT Tryd.prog rs_coupletlaw20_awake kf_coupletlaw20_awake)).run = go_coupletlaw20_awake := by kernel_rfl
theorem ok_coupletlaw20_awake (r : Bool) (h : go_coupletlaw20_awake = some r) : FunEq Tryd.prog GG 7 [] (em_coupletlaw20_awake r) :=
  fun_of_ev (x := xr_coupletlaw20_awake) (Λ := lm_coupletlaw20_awake) gk_coupletlaw20_awake [] Tryd.func7 rfl (by kernel_rfl) ir_coupletlaw20_awake (by kernel_rfl) (congrArg Array.toList Tryd.results7) Tryd.ntmps7 (⟨trivial, ⟨trivial, ⟨trivial, ⟨trivial, trivial⟩⟩⟩⟩) (leaf_of fun v => (by kernel_rfl : rh_coupletlaw20_awake.build v = em_coupletlaw20_awake (ra_coupletlaw20_awake v))) (by kernel_rfl) ((rn_coupletlaw20_awake).trans h)
def as_coupletlaw20_awake : List Shp := []
def ga_coupletlaw20_awake (vs : List PV) : Option Bool := go_coupletlaw20_awake
theorem at_coupletlaw20_awake : FnAt Tryd.prog GG 7 as_coupletlaw20_awake ga_coupletlaw20_awake em_coupletlaw20_awake := fun vs h r hr => by
  have e : Shp.buildL as_coupletlaw20_awake vs = [] := by kernel_rfl
  rw [← Shp.buildL_eq _ h, e]
  exact .inl ⟨by decide, ok_coupletlaw20_awake  r hr⟩
def xr_coupletlaw20_same : XR := (.seq (.ops false [⟨⟨(some 2), (.box 35 (.tmp 0)), none⟩, none⟩, ⟨⟨(some 3), (.box 31 (.tmp 1)), none⟩, none⟩, ⟨⟨(some 4), (.mv (.c (.bool false))), none⟩, none⟩]) (.seq (.ops false [⟨⟨(some 5), (.fldA 0 (.tmp 2)), none⟩, none⟩, ⟨⟨(some 6), (.ld false 1 (.tmp 5)), none⟩, (some .str)⟩, ⟨⟨(some 7), (.fldA 0 (.tmp 3)), none⟩, none⟩, ⟨⟨(some 8), (.ld false 1 (.tmp 7)), none⟩, (some .str)⟩, ⟨⟨(some 9), (.binS .eql (.tmp 6) (.tmp 8)), none⟩, none⟩, ⟨⟨(some 10), (.mv (.tmp 9)), none⟩, none⟩, ⟨⟨(some 11), (.fldA 1 (.tmp 2)), (some (10, true))⟩, none⟩, ⟨⟨(some 12), (.ld false 1 (.tmp 11)), (some (10, true))⟩, (some (.isl .u8))⟩, ⟨⟨(some 13), (.cvtBS (.tmp 12)), (some (10, true))⟩, none⟩, ⟨⟨(some 14), (.fldA 1 (.tmp 3)), (some (10, true))⟩, none⟩, ⟨⟨(some 15), (.ld false 1 (.tmp 14)), (some (10, true))⟩, (some (.isl .u8))⟩, ⟨⟨(some 16), (.cvtBS (.tmp 15)), (some (10, true))⟩, none⟩, ⟨⟨(some 17), (.binS .eql (.tmp 13) (.tmp 16)), (some (10, true))⟩, none⟩, ⟨⟨(some 18), (.pick (.tmp 10) (.tmp 17) (.c (.bool false))), none⟩, none⟩, ⟨⟨(some 19), (.mv (.tmp 18)), none⟩, none⟩, ⟨⟨(some 20), (.fldA 2 (.tmp 2)), (some (19, true))⟩, none⟩, ⟨⟨(some 21), (.ld false 1 (.tmp 20)), (some (19, true))⟩, (some (.int .i64))⟩, ⟨⟨(some 22), (.fldA 2 (.tmp 3)), (some (19, true))⟩, none⟩, ⟨⟨(some 23), (.ld false 1 (.tmp 22)), (some (19, true))⟩, (some (.int .i64))⟩, ⟨⟨(some 24), (.bin .eql (.tmp 21) (.tmp 23)), (some (19, true))⟩, none⟩, ⟨⟨(some 25), (.pick (.tmp 19) (.tmp 24) (.c (.bool false))), none⟩, none⟩, ⟨⟨(some 26), (.mv (.tmp 25)), none⟩, none⟩, ⟨⟨(some 27), (.fldA 3 (.tmp 2)), (some (26, true))⟩, none⟩, ⟨⟨(some 28), (.ld false 1 (.tmp 27)), (some (26, true))⟩, (some (.int .i64))⟩, ⟨⟨(some 29), (.fldA 3 (.tmp 3)), (some (26, true))⟩, none⟩, ⟨⟨(some 30), (.ld false 1 (.tmp 29)), (some (26, true))⟩, (some (.int .i64))⟩, ⟨⟨(some 31), (.bin .eql (.tmp 28) (.tmp 30)), (some (26, true))⟩, none⟩, ⟨⟨(some 32), (.pick (.tmp 26) (.tmp 31) (.c (.bool false))), none⟩, none⟩, ⟨⟨(some 33), (.mv (.tmp 32)), none⟩, none⟩, ⟨⟨(some 34), (.fldA 4 (.tmp 2)), (some (33, true))⟩, none⟩, ⟨⟨(some 35), (.ld false 1 (.tmp 34)), (some (33, true))⟩, (some (.int .i64))⟩, ⟨⟨(some 36), (.fldA 4 (.tmp 3)), (some (33, true))⟩, none⟩, ⟨⟨(some 37), (.ld false 1 (.tmp 36)), (some (33, true))⟩, (some (.int .i64))⟩, ⟨⟨(some 38), (.bin .eql (.tmp 35) (.tmp 37)), (some (33, true))⟩, none⟩, ⟨⟨(some 39), (.pick (.tmp 33) (.tmp 38) (.c (.bool false))), none⟩, none⟩, ⟨⟨(some 4), (.mv (.tmp 39)), none⟩, none⟩]) .ret))
def rs_coupletlaw20_same : List ResultVar := [(.tmp 4)]
theorem ir_coupletlaw20_same : compCode Tryd.prog (Tryd.f11.body.getD .skip) [] = some (xr_coupletlaw20_same.erase, []) := by kernel_rfl
def gm_coupletlaw20_same : Gam := Gam.bot
theorem gk_coupletlaw20_same : GamOk Tryd.prog GG gm_coupletlaw20_same := GamOk.bot
def lm_coupletlaw20_same : Lam := fun _ j S kn ke => match j with
  | _ => .fail
def go_coupletlaw20_same (l0 : List Int) (b1 : Bool) (b2 : Bool) (l3 : List Int) (n4 : Int) (n5 : Int) (n6 : Int) (l7 : List Int) (b8 : Bool) (b9 : Bool) (l10 : List Int) (n11 : Int) (n12 : Int) (n13 : Int) : Option Bool :=
  bif (l0 == l7) then
   bif (List.all l3 (fun x14 => (decide ((0 ≤ x14) ∧ (x14 < 256))))) then
    bif (List.all l10 (fun x15 => (decide ((0 ≤ x15) ∧ (x15 < 256))))) then
     bif (l3 == l10) then
      bif (n4 == n11) then
       bif (n5 == n12) then
        some (n6 == n13)
       else
        some false
      else
       some false
     else
      some false
    else none
   else none
  else
   some false
def em_coupletlaw20_same (r : Bool) : PV := (.bool r)
def rh_coupletlaw20_same : Shp := .bool
def ra_coupletlaw20_same (v : PV) : Bool := v.tru
def kf_coupletlaw20_same (v : PV) : Tree Bool := .chk (rh_coupletlaw20_same.ok v) (.leaf (ra_coupletlaw20_same v))
theorem rn_coupletlaw20_same (l0 : List Int) (b1 : Bool) (b2 : Bool) (l3 : List Int) (n4 : Int) (n5 : Int) (n6 : Int) (l7 : List Int) (b8 : Bool) (b9 : Bool) (l10 : List Int) (n11 : Int) (n12 : Int) (n13 : Int) : (ev GG gm_coupletlaw20_same lm_coupletlaw20_same xr_coupletlaw20_same ⟨slots 40 0 [(0, .p (.agg [(.str l0), (.isl b1 b2 .u8 l3), (.int .i64 n4), (.int .i64 n5), (.int .i64 n6)])), (1, .p (.agg [(.str l7), (.isl b8 b9 .u8 l10), (.int .i64 n11), (.int .i64 n12), (.int .i64 n13)]))], []⟩ (fun S => finT Tryd.prog rs_coupletlaw20_same S kf_coupletlaw20_same) (retT Tryd.prog rs_coupletlaw20_same kf_coupletlaw20_same)).run = go_coupletlaw20_same l0 b1 b2 l3 n4 n5 n6 l7 b8 b9 l10 n11 n12 n13 := by kernel_rfl
theorem ok_coupletlaw20_same (l0 : List Int) (b1 : Bool) (b2 : Bool) (l3 : List Int) (n4 : Int) (n5 : Int) (n6 : Int) (l7 : List Int) (b8 : Bool) (b9 : Bool) (l10 : List Int) (n11 : Int) (n12 : Int) (n13 : Int) (r : Bool) (h : go_coupletlaw20_same l0 b1 b2 l3 n4 n5 n6 l7 b8 b9 l10 n11 n12 n13 = some r) : FunEq Tryd.prog GG 11 [(.agg [(.str l0), (.isl b1 b2 .u8 l3), (.int .i64 n4), (.int .i64 n5), (.int .i64 n6)]), (.agg [(.str l7), (.isl b8 b9 .u8 l10), (.int .i64 n11), (.int .i64 n12), (.int .i64 n13)])] (em_coupletlaw20_same r) :=
  fun_of_ev (x := xr_coupletlaw20_same) (Λ := lm_coupletlaw20_same) gk_coupletlaw20_same [] Tryd.func11 rfl (by kernel_rfl) ir_coupletlaw20_same (by kernel_rfl) (congrArg Array.toList Tryd.results11) Tryd.ntmps11 (⟨trivial, ⟨trivial, trivial⟩⟩) (leaf_of fun v => (by kernel_rfl : rh_coupletlaw20_same.build v = em_coupletlaw20_same (ra_coupletlaw20_same v))) (by kernel_rfl) ((rn_coupletlaw20_same l0 b1 b2 l3 n4 n5 n6 l7 b8 b9 l10 n11 n12 n13).trans h)
def as_coupletlaw20_same : List Shp := [(.agg [.str, (.isl .u8), (.int .i64), (.int .i64), (.int .i64)]), (.agg [.str, (.isl .u8), (.int .i64), (.int .i64), (.int .i64)])]
def ga_coupletlaw20_same (vs : List PV) : Option Bool := go_coupletlaw20_same (((tls 0 vs).headD .nilSl).subs.headD .nilSl).chars (((tls 0 vs).headD .nilSl).subs.tail.headD .nilSl).nl (((tls 0 vs).headD .nilSl).subs.tail.headD .nilSl).ex (((tls 0 vs).headD .nilSl).subs.tail.headD .nilSl).ints (((tls 0 vs).headD .nilSl).subs.tail.tail.headD .nilSl).num (((tls 0 vs).headD .nilSl).subs.tail.tail.tail.headD .nilSl).num (((tls 0 vs).headD .nilSl).subs.tail.tail.tail.tail.headD .nilSl).num (((tls 1 vs).headD .nilSl).subs.headD .nilSl).chars (((tls 1 vs).headD .nilSl).subs.tail.headD .nilSl).nl (((tls 1 vs).headD .nilSl).subs.tail.headD .nilSl).ex (((tls 1 vs).headD .nilSl).subs.tail.headD .nilSl).ints (((tls 1 vs).headD .nilSl).subs.tail.tail.headD .nilSl).num (((tls 1 vs).headD .nilSl).subs.tail.tail.tail.headD .nilSl).num (((tls 1 vs).headD .nilSl).subs.tail.tail.tail.tail.headD .nilSl).num
theorem at_coupletlaw20_same : FnAt Tryd.prog GG 11 as_coupletlaw20_same ga_coupletlaw20_same em_coupletlaw20_same := fun vs h r hr => by
  have e : Shp.buildL as_coupletlaw20_same vs = [(.agg [(.str (((tls 0 vs).headD .nilSl).subs.headD .nilSl).chars), (.isl (((tls 0 vs).headD .nilSl).subs.tail.headD .nilSl).nl (((tls 0 vs).headD .nilSl).subs.tail.headD .nilSl).ex .u8 (((tls 0 vs).headD .nilSl).subs.tail.headD .nilSl).ints), (.int .i64 (((tls 0 vs).headD .nilSl).subs.tail.tail.headD .nilSl).num), (.int .i64 (((tls 0 vs).headD .nilSl).subs.tail.tail.tail.headD .nilSl).num), (.int .i64 (((tls 0 vs).headD .nilSl).subs.tail.tail.tail.tail.headD .nilSl).num)]), (.agg [(.str (((tls 1 vs).headD .nilSl).subs.headD .nilSl).chars), (.isl (((tls 1 vs).headD .nilSl).subs.tail.headD .nilSl).nl (((tls 1 vs).headD .nilSl).subs.tail.headD .nilSl).ex .u8 (((tls 1 vs).headD .nilSl).subs.tail.headD .nilSl).ints), (.int .i64 (((tls 1 vs).headD .nilSl).subs.tail.tail.headD .nilSl).num), (.int .i64 (((tls 1 vs).headD .nilSl).subs.tail.tail.tail.headD .nilSl).num), (.int .i64 (((tls 1 vs).headD .nilSl).subs.tail.tail.tail.tail.headD .nilSl).num)])] := by kernel_rfl
  rw [← Shp.buildL_eq _ h, e]
  exact .inl ⟨by decide, ok_coupletlaw20_same _ _ _ _ _ _ _ _ _ _ _ _ _ _ r hr⟩
end Go.Proofs
end
set_option linter.unusedVariables false
set_option linter.unusedSimpArgs false
noncomputable section
namespace Go.Proofs
open Go Go.Fx
theorem dt {p : Prop} [Decidable p] (h : p) : decide p = true := decide_eq_true h
theorem df {p : Prop} [Decidable p] (h : ¬ p) : decide p = false := decide_eq_false h
theorem drop_get {l : List Int} {k : Nat} (hk : k < l.length) : l.drop k = l.getD k 0 :: l.drop (k + 1) := by
  rw [List.drop_eq_getElem_cons hk, List.getD_eq_getElem?_getD, List.getElem?_eq_getElem hk]; rfl
theorem trimNL_cons {x : Int} {r : List Int} (h : x ≠ 10 ∨ r ≠ []) : trimNL (x :: r) = x :: trimNL r := by
  cases r with
  | nil =>
    have hx : x ≠ 10 := h.resolve_right (fun h => h rfl)
    have : (x == 10) = false := by simpa using hx
    simp [trimNL, this]
  | cons y r => rfl
end Go.Proofs
end
set_option linter.unusedVariables false
set_option linter.unusedSimpArgs false
noncomputable section
namespace Go.Proofs
open Go Go.Fx
def byt (c : Int) : UInt8 := UInt8.ofNat c.toNat
theorem byt_beq {x c : Int} (hx : 0 ≤ x ∧ x < 256) (hc : 0 ≤ c ∧ c < 256) : (byt x == byt c) = (x == c) := by
  by_cases h : x = c
  · subst h; simp
  · have h1 : (x == c) = false := by simpa using h
    rw [h1]
    rw [beq_eq_false_iff_ne]
    intro e
    have := congrArg UInt8.toNat e
    simp only [byt, UInt8.toNat_ofNat'] at this
    omega
theorem strBytes_cons (x : Int) (r : List Int) : strBytes (x :: r) = byt x :: strBytes r := rfl
theorem headD_one (c : Int) : (strBytes [c]).headD 0 = byt c := rfl
theorem idx_cases {c : Int} (hc : 0 ≤ c ∧ c < 256) : ∀ l : List Int, isB l → (Lib.indexByte (strBytes l) (byt c) = -1 ∧ cutC c l = [l] ∧ Lib.countByte (strBytes l) (byt c) = 0) ∨
    ∃ m : Nat, Lib.indexByte (strBytes l) (byt c) = m ∧ m < l.length ∧ cutC c l = l.take m :: cutC c (l.drop (m + 1)) ∧ Lib.countByte (strBytes l) (byt c) = Lib.countByte (strBytes (l.drop (m + 1))) (byt c) + 1
  | [], _ => .inl ⟨rfl, rfl, rfl⟩
  | x :: r, h => by
    obtain ⟨hx, hr⟩ := isB_cons.1 h
    have hb := byt_beq hx hc
    rw [strBytes_cons, Lib.indexByte, hb, cutC, Lib.countByte, List.count_cons, hb]
    cases e : x == c with
    | true =>
      right
      exact ⟨0, rfl, by simp, by rw [cond_true]; rfl, rfl⟩
    | false =>
      rw [cond_false]
      rcases idx_cases hc r hr with ⟨h1, h2, h3⟩ | ⟨m, h1, h2, h3, h4⟩
      · left
        rw [h1, h2]
        exact ⟨rfl, rfl, by simpa [Lib.countByte] using h3⟩
      · right
        refine ⟨m + 1, ?_, by simp only [List.length_cons]; omega, ?_, ?_⟩
        · rw [h1]
          have : ((m : Int) == -1) = false := by rw [beq_eq_false_iff_ne]; omega
          simp only [this, Bool.false_eq_true, if_false]
          rfl
        · rw [h3]; rfl
        · simpa [Lib.countByte] using h4
theorem strs_replicate (n : Nat) : List.replicate (α := PV) n (.str []) = strs (List.replicate n []) := by simp [strs]
theorem split_law {c : Int} (hc : 0 ≤ c ∧ c < 256) {l : List Int} (hb : isB l) (hl : l.length ≤ 100000) : ∃ ex, go_strings_Split l [c] = some (false, ex, strs (cutC c l)) := by
  obtain ⟨N, hN⟩ : ∃ N, Lib.countByte (strBytes l) (byt c) = N := ⟨_, rfl⟩
  have hNl : N ≤ l.length := by
    rw [← hN, Lib.countByte]
    refine Nat.le_trans List.count_le_length ?_
    simp [strBytes]
  obtain ⟨y, h1, h2⟩ := loop_rule (step := fun x : List Int × List Int × Int × Int × Int × Bool × Bool × List PV => st_strings_genSplit_0 x.1 x.2.1 x.2.2.1 x.2.2.2.1 x.2.2.2.2.1 x.2.2.2.2.2.1 x.2.2.2.2.2.2.1 x.2.2.2.2.2.2.2)
    (fun x => ∃ (i : Nat) (ws : List (List Int)), x.2.1 = [c] ∧ x.2.2.1 = 0 ∧ x.2.2.2.1 = (N : Int) ∧ x.2.2.2.2.1 = (i : Int) ∧ x.2.2.2.2.2.1 = false ∧ x.2.2.2.2.2.2.2 = strs ws ∧ ws.length = N + 1 ∧ i ≤ N ∧ isB x.1 ∧ x.1.length ≤ l.length ∧ Lib.countByte (strBytes x.1) (byt c) = N - i ∧ ws.take i ++ cutC c x.1 = cutC c l)
    (fun x => N - x.2.2.2.2.1.toNat) (fun y => ∃ ws, y.2.1 = (N : Int) ∧ y.2.2.1 = false ∧ y.2.2.2.2 = strs ws ∧ ws.length = N + 1 ∧ ws.take N ++ [y.1] = cutC c l) (fun x ⟨i, ws, q1, q2, q3, q4, q5, q6, q7, q8, q9, q10, q11, q12⟩ => by
      obtain ⟨rest, sp, n8, n9, n10, b11, b12, es⟩ := x
      dsimp only at q1 q2 q3 q4 q5 q6 q9 q10 q11 q12 ⊢
      subst q1 q2 q3 q4 q5 q6
      unfold st_strings_genSplit_0
      have hidx : go_strings_Index rest [c] = some (Lib.indexByte (strBytes rest) (byt c)) := by
        unfold go_strings_Index
        rw [if_pos (show ([c] : List Int).length = 1 from rfl), headD_one]
      rw [strs_len, hidx, Int.toNat_natCast]
      by_cases hi : i < N
      · right
        rcases idx_cases hc rest q9 with ⟨g1, g2, g3⟩ | ⟨m, g1, g2, g3, g4⟩
        · rw [g3] at q11; omega
        · have e1 : IntKind.wrap .i64 ((m : Int) + 0) = (m : Int) := by rw [Int.add_zero, w64 (by omega) (by omega)]
          have e2 : IntKind.wrap .i64 ((m : Int) + (([c] : List Int).length : Int)) = ((m + 1 : Nat) : Int) := by rw [List.length_singleton, w64 (by omega) (by omega)]; rfl
          have e3 : IntKind.wrap .i64 ((i : Int) + 1) = ((i + 1 : Nat) : Int) := by rw [w64 (by omega) (by omega)]; rfl
          have c1 : decide ((i : Int) < (N : Int)) = true := dt (by omega)
          have c2 : decide ((m : Int) < 0) = false := df (by omega)
          have c3 : decide ((0 : Int) ≤ (m : Int)) = true := dt (by omega)
          have c4 : decide ((m : Int) ≤ ((rest.length : Nat) : Int)) = true := dt (by omega)
          have c5 : decide ((0 : Int) ≤ (i : Int)) = true := dt (by omega)
          have c6 : decide ((i : Int) < ((ws.length : Nat) : Int)) = true := dt (by omega)
          have c7 : decide (i < ws.length) = true := dt (by omega)
          have c8 : decide ((0 : Int) ≤ ((m + 1 : Nat) : Int)) = true := dt (by omega)
          have c9 : decide (((m + 1 : Nat) : Int) ≤ ((rest.length : Nat) : Int)) = true := dt (by omega)
          have c10 : decide (((rest.length : Nat) : Int) ≤ ((rest.length : Nat) : Int)) = true := dt (by omega)
          have t1 : List.take (Int.toNat (((rest.length : Nat) : Int) - ((m + 1 : Nat) : Int))) (List.drop (m + 1) rest) = rest.drop (m + 1) := by
            rw [List.take_of_length_le]; rw [List.length_drop]; omega
          have t2 : List.take (Int.toNat ((m : Int) - 0)) (List.drop 0 rest) = rest.take m := by rw [Int.sub_zero, Int.toNat_natCast, List.drop_zero]
          simp only [g1, e1, e2, e3, Option.bind_some, c1, c2, c3, c4, c5, c6, c7, c8, c9, c10, Int.toNat_natCast, t1, t2, strs_set, cond_true, cond_false]
          refine ⟨_, rfl, ⟨i + 1, _, rfl, rfl, rfl, rfl, rfl, rfl, by rw [List.length_set]; exact q7, hi, isB_drop q9 _, by dsimp only; rw [List.length_drop]; omega, ?_, ?_⟩, ?_⟩
          · dsimp only; omega
          · dsimp only
            rw [← q12, g3, List.take_succ_eq_append_getElem (by rw [List.length_set]; omega), List.getElem_set_self, List.take_set_of_le (Nat.le_refl _), List.append_assoc]
            rfl
          · dsimp only; omega
      · left
        have hiN : i = N := by omega
        subst hiN
        have c1 : decide ((i : Int) < (i : Int)) = false := df (by omega)
        rw [c1, cond_false]
        refine ⟨_, rfl, ws, rfl, rfl, rfl, q7, ?_⟩
        rw [Nat.sub_self] at q11
        rcases idx_cases hc rest q9 with ⟨g1, g2, g3⟩ | ⟨m, g1, g2, g3, g4⟩
        · rw [g2] at q12; exact q12
        · omega) (x := (l, [c], 0, (N : Int), 0, false, true, strs (List.replicate (N + 1) []))) ⟨0, _, rfl, rfl, rfl, rfl, rfl, rfl, by simp, Nat.zero_le _, hb, Nat.le_refl _, hN, by simp⟩ (by dsimp only; omega)
  obtain ⟨ws, y1, y2, y3, y4, y5⟩ := h2
  obtain ⟨rest, i', b11, b12, es'⟩ := y
  dsimp only at y1 y2 y3 y5
  subst y1 y2 y3
  refine ⟨false, ?_⟩
  have hcnt : go_strings_Count l [c] = some (N : Int) := by
    unfold go_strings_Count
    rw [if_pos (show ([c] : List Int).length = 1 from rfl), headD_one, hN]
  have e1 : min (IntKind.wrap .i64 ((N : Int) + 1)) (IntKind.wrap .i64 (((l.length : Nat) : Int) + 1)) = ((N + 1 : Nat) : Int) := by
    rw [w64 (by omega) (by omega), w64 (by omega) (by omega)]; omega
  have e2 : IntKind.wrap .i64 (((N + 1 : Nat) : Int) - 1) = (N : Int) := by rw [w64 (by omega) (by omega)]; omega
  have e3 : IntKind.wrap .i64 ((N : Int) + 1) = ((N + 1 : Nat) : Int) := by rw [w64 (by omega) (by omega)]; rfl
  have c0 : ((-1 : Int) == 0) = false := rfl
  have c00 : (([c] : List Int) == []) = false := rfl
  have c1 : decide ((-1 : Int) < 0) = true := rfl
  have c2 : decide ((0 : Int) ≤ ((N + 1 : Nat) : Int)) = true := dt (by omega)
  have c3 : decide ((N + 1) * 16 ≤ 140737488355328) = true := dt (by omega)
  have c4 : decide (N + 1 ≤ 4611686018427387904) = true := dt (by omega)
  have c5 : decide ((0 : Int) ≤ (N : Int)) = true := dt (by omega)
  have c6 : decide ((N : Int) < ((ws.length : Nat) : Int)) = true := dt (by omega)
  have c7 : decide (N < ws.length) = true := dt (by omega)
  have c8 : decide (((N + 1 : Nat) : Int) ≤ ((ws.length : Nat) : Int)) = true := dt (by omega)
  have t1 : List.take (Int.toNat (((N + 1 : Nat) : Int) - 0)) (List.drop 0 (strs (ws.set N rest))) = strs (cutC c l) := by
    rw [Int.sub_zero, Int.toNat_natCast, List.drop_zero, ← y5, strs, ← List.map_take, List.take_succ_eq_append_getElem (by rw [List.length_set]; omega), List.getElem_set_self, List.take_set_of_le (Nat.le_refl _)]
    rfl
  unfold go_strings_Split go_strings_genSplit lp_strings_genSplit_0
  simp only [c0, c00, c1, c2, c3, c4, hcnt, Option.bind_some, e1, e2, Int.toNat_natCast, strs_replicate, cond_true, cond_false]
  rw [h1]
  simp only [Option.bind_some, strs_len, strs_set, List.length_set, c5, c6, c7, e3, c2, c8, Int.toNat_natCast, t1, cond_true, cond_false]
theorem suffix_law {l : List Int} (hl : l.length ≤ 100000) : go_strings_TrimSuffix l [10] = some (trimNL l) := by
  have key : ∀ l : List Int, l.length ≤ 100000 → go_internal_stringslite_TrimSuffix l [10] = some (trimNL l) := fun l hl => by
    unfold go_internal_stringslite_TrimSuffix go_internal_stringslite_HasSuffix
    by_cases h0 : l = []
    · subst h0; rfl
    · obtain ⟨r, x, rfl⟩ : ∃ r x, l = r ++ [x] := ⟨l.dropLast, l.getLast h0, (List.dropLast_concat_getLast h0).symm⟩
      have htrim : ∀ r : List Int, trimNL (r ++ [x]) = bif x == 10 then r else r ++ [x] := by
        intro r
        induction r with
        | nil => rfl
        | cons y r ih =>
          rw [List.cons_append, trimNL_cons (.inr (by simp)), ih]
          cases x == 10 <;> rfl
      simp only [List.length_append, List.length_singleton] at hl ⊢
      have e1 : IntKind.wrap .i64 ((((r.length + 1 : Nat)) : Int) - ((1 : Nat) : Int)) = (r.length : Int) := by rw [w64 (by omega) (by omega)]; omega
      have c1 : decide ((((r.length + 1 : Nat)) : Int) ≥ ((1 : Nat) : Int)) = true := dt (by omega)
      have c2 : decide ((0 : Int) ≤ (r.length : Int)) = true := dt (by omega)
      have c3 : decide ((r.length : Int) ≤ (((r.length + 1 : Nat)) : Int)) = true := dt (by omega)
      have c4 : decide ((((r.length + 1 : Nat)) : Int) ≤ (((r.length + 1 : Nat)) : Int)) = true := dt (by omega)
      have t1 : List.take (Int.toNat ((((r.length + 1 : Nat)) : Int) - (r.length : Int))) (List.drop r.length (r ++ [x])) = [x] := by
        rw [List.drop_left, show ((((r.length + 1 : Nat)) : Int) - (r.length : Int)).toNat = 1 by omega]; rfl
      have t2 : List.take (Int.toNat ((r.length : Int) - 0)) (List.drop 0 (r ++ [x])) = r := by
        rw [Int.sub_zero, Int.toNat_natCast, List.drop_zero, List.take_left]
      simp only [e1, c1, c2, c3, c4, Int.toNat_natCast, t1, t2, Option.bind_some, cond_true]
      rw [htrim]
      have : (([x] : List Int) == [10]) = (x == 10) := by
        show (x == 10 && true) = _
        rw [Bool.and_true]
      rw [this]
      cases x == 10 <;> rfl
  unfold go_strings_TrimSuffix
  rw [key l hl]; rfl
theorem trimNL_isB : ∀ {l : List Int}, isB l → isB (trimNL l)
  | [], h => isB_nil
  | [x], h => by
    rw [trimNL]
    cases x == 10 <;> first | exact isB_nil | exact h
  | x :: y :: r, h => isB_cons.2 ⟨(isB_cons.1 h).1, trimNL_isB (isB_cons.1 h).2⟩
theorem trimNL_len : ∀ l : List Int, (trimNL l).length ≤ l.length
  | [] => by simp [trimNL]
  | [x] => by rw [trimNL]; cases x == 10 <;> simp
  | x :: y :: r => by have := trimNL_len (y :: r); simp only [trimNL, List.length_cons] at this ⊢; omega
theorem flines_law {l : List Int} (hb : isB l) (hl : l.length ≤ 100000) : ∃ ex, go_flight_lines l = some (false, ex, strs (cutC 10 (trimNL l))) := by
  obtain ⟨ex, h⟩ := split_law (c := 10) (by decide) (trimNL_isB hb) (by have := trimNL_len l; omega)
  refine ⟨ex, ?_⟩
  unfold go_flight_lines
  rw [suffix_law hl, Option.bind_some, h]
  rfl
end Go.Proofs
end
