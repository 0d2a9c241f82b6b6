import Derived.Test.YtajphaljpkeecaaDoorWCTab
import Derived.Test.YtajphaljpkeecaaDoorFxFin
import Derived.Test.YtajphaljpkeecaaDoorChecked
set_option linter.unusedVariables false
set_option maxRecDepth 100000
noncomputable section
namespace Go.Proofs
open Go Go.Fx
def xb_sum_Update_0 : XR := (.seq (.ops false [⟨⟨(some 12), (.bin .lss (.tmp 11) (.tmp 10)), none⟩, none⟩]) (.seq (.cond (.tmp 12) .skip (.exit 0)) (.seq (.block 1 (.seq (.ops false [⟨⟨(some 13), (.ixA 1 (.tmp 9) (.tmp 11)), none⟩, none⟩, ⟨⟨(some 14), (.ld false 1 (.tmp 13)), none⟩, (some (.int .u8))⟩, ⟨⟨(some 6), (.mv (.tmp 14)), none⟩, none⟩]) (.seq (.ops false [⟨⟨(some 15), (.mv (.tmp 0)), none⟩, none⟩, ⟨⟨(some 16), (.mv (.tmp 6)), none⟩, none⟩, ⟨⟨(some 17), (.cvtI .u32 (.tmp 16)), none⟩, none⟩, ⟨⟨(some 18), (.bin .xor (.tmp 15) (.tmp 17)), none⟩, none⟩, ⟨⟨(some 0), (.mv (.tmp 18)), none⟩, none⟩]) (.seq (.ops false [⟨⟨(some 19), (.mv (.tmp 0)), none⟩, none⟩, ⟨⟨(some 20), (.bin .and (.tmp 19) (.c (.int .u32 (15)))), none⟩, none⟩, ⟨⟨(some 21), (.ixArr 1 16 (.glob 0) (.tmp 20)), none⟩, none⟩, ⟨⟨(some 22), (.ld false 1 (.tmp 21)), none⟩, (some (.int .u32))⟩, ⟨⟨(some 23), (.mv (.tmp 0)), none⟩, none⟩, ⟨⟨(some 24), (.bin .shr (.tmp 23) (.c (.int .u64 (4)))), none⟩, none⟩, ⟨⟨(some 25), (.bin .xor (.tmp 22) (.tmp 24)), none⟩, none⟩, ⟨⟨(some 0), (.mv (.tmp 25)), none⟩, none⟩]) (.ops false [⟨⟨(some 26), (.mv (.tmp 0)), none⟩, none⟩, ⟨⟨(some 27), (.bin .and (.tmp 26) (.c (.int .u32 (15)))), none⟩, none⟩, ⟨⟨(some 28), (.ixArr 1 16 (.glob 0) (.tmp 27)), none⟩, none⟩, ⟨⟨(some 29), (.ld false 1 (.tmp 28)), none⟩, (some (.int .u32))⟩, ⟨⟨(some 30), (.mv (.tmp 0)), none⟩, none⟩, ⟨⟨(some 31), (.bin .shr (.tmp 30) (.c (.int .u64 (4)))), none⟩, none⟩, ⟨⟨(some 32), (.bin .xor (.tmp 29) (.tmp 31)), none⟩, none⟩, ⟨⟨(some 0), (.mv (.tmp 32)), none⟩, none⟩]))))) (.ops false [⟨⟨(some 33), (.bin .add (.tmp 11) (.c (.int .i64 (1)))), none⟩, none⟩, ⟨⟨(some 11), (.mv (.tmp 33)), none⟩, none⟩]))))
def xr_sum_Update : XR := (.seq (.ops false [⟨⟨(some 4), (.mv (.c (.int .u32 (0)))), none⟩, none⟩]) (.seq (.ops false [⟨⟨(some 7), (.mv (.tmp 0)), none⟩, none⟩, ⟨⟨(some 8), (.un .xor (.tmp 7)), none⟩, none⟩, ⟨⟨(some 0), (.mv (.tmp 8)), none⟩, none⟩]) (.seq (.seq (.ops false [⟨⟨(some 9), (.mv (.tmp 1)), none⟩, none⟩, ⟨⟨(some 10), (.len (.tmp 9)), none⟩, none⟩, ⟨⟨(some 11), (.mv (.c (.int .i64 (0)))), none⟩, none⟩]) (.block 0 (.loop 0 [0, 9, 10, 11] xb_sum_Update_0))) (.seq (.ops false [⟨⟨(some 34), (.mv (.tmp 0)), none⟩, none⟩, ⟨⟨(some 35), (.un .xor (.tmp 34)), none⟩, none⟩, ⟨⟨(some 4), (.mv (.tmp 35)), none⟩, none⟩]) .ret))))
def rs_sum_Update : List ResultVar := [(.tmp 4)]
theorem ir_sum_Update : compCode Tryd.prog (Tryd.f65.body.getD .skip) [[0, 9, 10, 11]] = some (xr_sum_Update.erase, []) := by kernel_rfl
def gm_sum_Update : Gam := Gam.bot
theorem gk_sum_Update : GamOk Tryd.prog GG gm_sum_Update := GamOk.bot
def st_sum_Update_0 (n4 : Int) (b5 : Bool) (b6 : Bool) (l7 : List Int) (n8 : Int) (n9 : Int) : Option (((Int × Bool × Bool × List Int × Int × Int)) ⊕ ((Int))) :=
  bif (decide (n9 < n8)) then
   bif (decide (0 ≤ n9)) then
    bif (decide (n9 < (((List.length l7) : Nat) : Int))) then
     bif (decide ((Int.toNat n9) < (List.length l7))) then
      bif (decide ((IntKind.wrap .u32 (bAnd .u32 (IntKind.wrap .u32 (bXor .u32 n4 (IntKind.wrap .u32 (List.getD l7 (Int.toNat n9) 0)))) 15)) < ((16 : Nat) : Int))) then
       bif (decide ((0 + (Int.toNat (IntKind.wrap .u32 (bAnd .u32 (IntKind.wrap .u32 (bXor .u32 n4 (IntKind.wrap .u32 (List.getD l7 (Int.toNat n9) 0)))) 15)))) < 16)) then
        bif (decide ((IntKind.wrap .u32 (bAnd .u32 (IntKind.wrap .u32 (bXor .u32 (List.getD [0, 498536548, 997073096, 651767980, 1994146192, 1802195444, 1303535960, 1342533948, 3988292384, 4027552580, 3604390888, 3412177804, 2607071920, 2262029012, 2685067896, 3183342108] (0 + (Int.toNat (IntKind.wrap .u32 (bAnd .u32 (IntKind.wrap .u32 (bXor .u32 n4 (IntKind.wrap .u32 (List.getD l7 (Int.toNat n9) 0)))) 15)))) 0) ((IntKind.wrap .u32 (bXor .u32 n4 (IntKind.wrap .u32 (List.getD l7 (Int.toNat n9) 0)))) / 16))) 15)) < ((16 : Nat) : Int))) then
         bif (decide ((0 + (Int.toNat (IntKind.wrap .u32 (bAnd .u32 (IntKind.wrap .u32 (bXor .u32 (List.getD [0, 498536548, 997073096, 651767980, 1994146192, 1802195444, 1303535960, 1342533948, 3988292384, 4027552580, 3604390888, 3412177804, 2607071920, 2262029012, 2685067896, 3183342108] (0 + (Int.toNat (IntKind.wrap .u32 (bAnd .u32 (IntKind.wrap .u32 (bXor .u32 n4 (IntKind.wrap .u32 (List.getD l7 (Int.toNat n9) 0)))) 15)))) 0) ((IntKind.wrap .u32 (bXor .u32 n4 (IntKind.wrap .u32 (List.getD l7 (Int.toNat n9) 0)))) / 16))) 15)))) < 16)) then
          some (Sum.inl ((IntKind.wrap .u32 (bXor .u32 (List.getD [0, 498536548, 997073096, 651767980, 1994146192, 1802195444, 1303535960, 1342533948, 3988292384, 4027552580, 3604390888, 3412177804, 2607071920, 2262029012, 2685067896, 3183342108] (0 + (Int.toNat (IntKind.wrap .u32 (bAnd .u32 (IntKind.wrap .u32 (bXor .u32 (List.getD [0, 498536548, 997073096, 651767980, 1994146192, 1802195444, 1303535960, 1342533948, 3988292384, 4027552580, 3604390888, 3412177804, 2607071920, 2262029012, 2685067896, 3183342108] (0 + (Int.toNat (IntKind.wrap .u32 (bAnd .u32 (IntKind.wrap .u32 (bXor .u32 n4 (IntKind.wrap .u32 (List.getD l7 (Int.toNat n9) 0)))) 15)))) 0) ((IntKind.wrap .u32 (bXor .u32 n4 (IntKind.wrap .u32 (List.getD l7 (Int.toNat n9) 0)))) / 16))) 15)))) 0) ((IntKind.wrap .u32 (bXor .u32 (List.getD [0, 498536548, 997073096, 651767980, 1994146192, 1802195444, 1303535960, 1342533948, 3988292384, 4027552580, 3604390888, 3412177804, 2607071920, 2262029012, 2685067896, 3183342108] (0 + (Int.toNat (IntKind.wrap .u32 (bAnd .u32 (IntKind.wrap .u32 (bXor .u32 n4 (IntKind.wrap .u32 (List.getD l7 (Int.toNat n9) 0)))) 15)))) 0) ((IntKind.wrap .u32 (bXor .u32 n4 (IntKind.wrap .u32 (List.getD l7 (Int.toNat n9) 0)))) / 16))) / 16))), b5, b6, l7, n8, (IntKind.wrap .i64 (n9 + 1))))
         else none
        else none
       else none
      else none
     else none
    else none
   else none
  else
   some (Sum.inr n4)
def lp_sum_Update_0 (n4 : Int) (b5 : Bool) (b6 : Bool) (l7 : List Int) (n8 : Int) (n9 : Int) : Option ((Int)) := loopN (X := (Int × Bool × Bool × List Int × Int × Int)) (fun x => st_sum_Update_0 x.1 x.2.1 x.2.2.1 x.2.2.2.1 x.2.2.2.2.1 x.2.2.2.2.2) (n4, b5, b6, l7, n8, n9)
def sh_sum_Update_0 : StSh := ⟨36, [(0, (.p (.int .u32))), (9, (.p (.isl .u8))), (10, (.p (.int .i64))), (11, (.p (.int .i64)))], []⟩
def sx_sum_Update_0 (x : (Int × Bool × Bool × List Int × Int × Int)) : St := ⟨slots 36 0 [(0, (.p (.int .u32 x.1))), (9, (.p (.isl x.2.1 x.2.2.1 .u8 x.2.2.2.1))), (10, (.p (.int .i64 x.2.2.2.2.1))), (11, (.p (.int .i64 x.2.2.2.2.2)))], []⟩
def sa_sum_Update_0 (S : St) : (Int × Bool × Bool × List Int × Int × Int) := (((tls 0 S.t).headD .any).pv.num, ((tls 9 S.t).headD .any).pv.nl, ((tls 9 S.t).headD .any).pv.ex, ((tls 9 S.t).headD .any).pv.ints, ((tls 10 S.t).headD .any).pv.num, ((tls 11 S.t).headD .any).pv.num)
def tz_sum_Update_0_0 : StSh := ⟨36, [(0, (.p (.int .u32)))], []⟩
def tx_sum_Update_0_0 (x : Int) : St := ⟨slots 36 0 [(0, (.p (.int .u32 x)))], []⟩
def ta_sum_Update_0_0 (S : St) : Int := ((tls 0 S.t).headD .any).pv.num
def kb_sum_Update_0 : Exit → St → Tree (((Int × Bool × Bool × List Int × Int × Int)) ⊕ ((Int))) := (exOne (.exit 0) [0] tz_sum_Update_0_0 ta_sum_Update_0_0 (fun y => Sum.inr (y)) exNil)
def ky_sum_Update_0 : Dec ((Int)) := fun _ y ke => ke ((.exit 0) : EK).ex (tx_sum_Update_0_0 y)
theorem kk_sum_Update_0 : ExOk Sum.inr kb_sum_Update_0 ky_sum_Update_0 := (ExOk.one (acc := ta_sum_Update_0_0) (bY := tx_sum_Update_0_0) (inj1 := fun y => y) (fun S => by kernel_rfl) (fun y _ ke => .inr (by kernel_rfl)) ExOk.nil)
def lm_sum_Update : Lam := fun _ j S kn ke => match j with
  | 0 => prepT [0, 9, 10, 11] [] S fun S => .chk (sh_sum_Update_0.ok S) (.bind (loopN (fun x => st_sum_Update_0 x.1 x.2.1 x.2.2.1 x.2.2.2.1 x.2.2.2.2.1 x.2.2.2.2.2) (sa_sum_Update_0 S)) fun y => ky_sum_Update_0 _ y ke)
  | _ => .fail
theorem sr_sum_Update_0 (x : (Int × Bool × Bool × List Int × Int × Int)) : (ev GG gm_sum_Update lm_sum_Update xb_sum_Update_0 (sx_sum_Update_0 x) (fun S => forgetT [0, 9, 10, 11] S fun S => prepT [0, 9, 10, 11] [] S fun S => .chk (sh_sum_Update_0.ok S) (.leaf (.inl (sa_sum_Update_0 S)))) kb_sum_Update_0).run = st_sum_Update_0 x.1 x.2.1 x.2.2.1 x.2.2.2.1 x.2.2.2.2.1 x.2.2.2.2.2 := by kernel_rfl
theorem la_sum_Update_0 : LamAt Tryd.prog GG lm_sum_Update 0 (.loop [0, 9, 10, 11] xb_sum_Update_0.erase) := lam_loop (body := xb_sum_Update_0) (Λ' := lm_sum_Update) gk_sum_Update (⟨trivial, ⟨⟨trivial, trivial⟩, ⟨⟨trivial, ⟨trivial, ⟨trivial, trivial⟩⟩⟩, trivial⟩⟩⟩) (fun S => (by kernel_rfl : sh_sum_Update_0.build S = sx_sum_Update_0 (sa_sum_Update_0 S))) kk_sum_Update_0 sr_sum_Update_0 (fun _ _ _ => rfl)
def go_sum_Update (n0 : Int) (b1 : Bool) (b2 : Bool) (l3 : List Int) : Option Int :=
  (lp_sum_Update_0 (IntKind.wrap .u32 (bXor .u32 4294967295 n0)) b1 b2 l3 (((List.length l3) : Nat) : Int) 0).bind fun y10 =>
  some (IntKind.wrap .u32 (bXor .u32 4294967295 y10))
def em_sum_Update (r : Int) : PV := (.int .u32 r)
def rh_sum_Update : Shp := (.int .u32)
def ra_sum_Update (v : PV) : Int := v.num
def kf_sum_Update (v : PV) : Tree Int := .chk (rh_sum_Update.ok v) (.leaf (ra_sum_Update v))
theorem rn_sum_Update (n0 : Int) (b1 : Bool) (b2 : Bool) (l3 : List Int) : (ev GG gm_sum_Update lm_sum_Update xr_sum_Update ⟨slots 36 0 [(0, .p (.int .u32 n0)), (1, .p (.isl b1 b2 .u8 l3))], []⟩ (fun S => finT Tryd.prog rs_sum_Update S kf_sum_Update) (retT Tryd.prog rs_sum_Update kf_sum_Update)).run = go_sum_Update n0 b1 b2 l3 := by kernel_rfl
theorem ok_sum_Update (n0 : Int) (b1 : Bool) (b2 : Bool) (l3 : List Int) (r : Int) (h : go_sum_Update n0 b1 b2 l3 = some r) : FunEq Tryd.prog GG 65 [(.int .u32 n0), (.isl b1 b2 .u8 l3)] (em_sum_Update r) :=
  fun_of_ev (x := xr_sum_Update) (Λ := lm_sum_Update) gk_sum_Update [[0, 9, 10, 11]] Tryd.func65 rfl (by kernel_rfl) ir_sum_Update (by kernel_rfl) (congrArg Array.toList Tryd.results65) Tryd.ntmps65 (⟨trivial, ⟨trivial, ⟨⟨trivial, la_sum_Update_0⟩, ⟨trivial, trivial⟩⟩⟩⟩) (leaf_of fun v => (by kernel_rfl : rh_sum_Update.build v = em_sum_Update (ra_sum_Update v))) (by kernel_rfl) ((rn_sum_Update n0 b1 b2 l3).trans h)
def as_sum_Update : List Shp := [(.int .u32), (.isl .u8)]
def ga_sum_Update (vs : List PV) : Option Int := go_sum_Update ((tls 0 vs).headD .nilSl).num ((tls 1 vs).headD .nilSl).nl ((tls 1 vs).headD .nilSl).ex ((tls 1 vs).headD .nilSl).ints
theorem at_sum_Update : FnAt Tryd.prog GG 65 as_sum_Update ga_sum_Update em_sum_Update := fun vs h r hr => by
  have e : Shp.buildL as_sum_Update vs = [(.int .u32 ((tls 0 vs).headD .nilSl).num), (.isl ((tls 1 vs).headD .nilSl).nl ((tls 1 vs).headD .nilSl).ex .u8 ((tls 1 vs).headD .nilSl).ints)] := by kernel_rfl
  rw [← Shp.buildL_eq _ h, e]
  exact .inl ⟨by decide, ok_sum_Update _ _ _ _ r hr⟩
def xr_sum_Of : XR := (.seq (.ops false [⟨⟨(some 2), (.mv (.c (.int .u32 (0)))), none⟩, none⟩]) (.seq (.ops false [⟨⟨(some 3), (.mv (.tmp 0)), none⟩, none⟩, ⟨⟨(some 4), (.call (.func 65) [(.c (.int .u32 (0))), (.tmp 3)]), none⟩, none⟩, ⟨⟨(some 2), (.mv (.tmp 4)), none⟩, none⟩]) .ret))
def rs_sum_Of : List ResultVar := [(.tmp 2)]
theorem ir_sum_Of : compCode Tryd.prog (Tryd.f48.body.getD .skip) [] = some (xr_sum_Of.erase, []) := by kernel_rfl
def gm_sum_Of : Gam := (Gam.fn 65 as_sum_Update ga_sum_Update em_sum_Update Gam.bot)
theorem gk_sum_Of : GamOk Tryd.prog GG gm_sum_Of := (GamOk.fn at_sum_Update GamOk.bot)
def lm_sum_Of : Lam := fun _ j S kn ke => match j with
  | _ => .fail
def go_sum_Of (b0 : Bool) (b1 : Bool) (l2 : List Int) : Option Int :=
  (go_sum_Update 0 b0 b1 l2).bind fun r3 =>
  some r3
def em_sum_Of (r : Int) : PV := (.int .u32 r)
def rh_sum_Of : Shp := (.int .u32)
def ra_sum_Of (v : PV) : Int := v.num
def kf_sum_Of (v : PV) : Tree Int := .chk (rh_sum_Of.ok v) (.leaf (ra_sum_Of v))
theorem rn_sum_Of (b0 : Bool) (b1 : Bool) (l2 : List Int) : (ev GG gm_sum_Of lm_sum_Of xr_sum_Of ⟨slots 5 0 [(0, .p (.isl b0 b1 .u8 l2))], []⟩ (fun S => finT Tryd.prog rs_sum_Of S kf_sum_Of) (retT Tryd.prog rs_sum_Of kf_sum_Of)).run = go_sum_Of b0 b1 l2 := by kernel_rfl
theorem ok_sum_Of (b0 : Bool) (b1 : Bool) (l2 : List Int) (r : Int) (h : go_sum_Of b0 b1 l2 = some r) : FunEq Tryd.prog GG 48 [(.isl b0 b1 .u8 l2)] (em_sum_Of r) :=
  fun_of_ev (x := xr_sum_Of) (Λ := lm_sum_Of) gk_sum_Of [] Tryd.func48 rfl (by kernel_rfl) ir_sum_Of (by kernel_rfl) (congrArg Array.toList Tryd.results48) Tryd.ntmps48 (⟨trivial, ⟨trivial, trivial⟩⟩) (leaf_of fun v => (by kernel_rfl : rh_sum_Of.build v = em_sum_Of (ra_sum_Of v))) (by kernel_rfl) ((rn_sum_Of b0 b1 l2).trans h)
def as_sum_Of : List Shp := [(.isl .u8)]
def ga_sum_Of (vs : List PV) : Option Int := go_sum_Of ((tls 0 vs).headD .nilSl).nl ((tls 0 vs).headD .nilSl).ex ((tls 0 vs).headD .nilSl).ints
theorem at_sum_Of : FnAt Tryd.prog GG 48 as_sum_Of ga_sum_Of em_sum_Of := fun vs h r hr => by
  have e : Shp.buildL as_sum_Of vs = [(.isl ((tls 0 vs).headD .nilSl).nl ((tls 0 vs).headD .nilSl).ex .u8 ((tls 0 vs).headD .nilSl).ints)] := by kernel_rfl
  rw [← Shp.buildL_eq _ h, e]
  exact .inl ⟨by decide, ok_sum_Of _ _ _ r hr⟩
def xb_slices_Equal__int_int_0 : XR := (.seq (.ops false [⟨⟨(some 14), (.bin .lss (.tmp 13) (.tmp 12)), none⟩, none⟩]) (.seq (.cond (.tmp 14) .skip (.exit 0)) (.seq (.block 1 (.seq (.ops false [⟨⟨(some 15), (.mv (.tmp 13)), none⟩, none⟩, ⟨⟨(some 5), (.mv (.tmp 15)), none⟩, none⟩]) (.seq (.ops true [⟨⟨(some 16), (.mv (.tmp 0)), none⟩, none⟩, ⟨⟨(some 17), (.mv (.tmp 5)), none⟩, none⟩, ⟨⟨(some 18), (.ixA 1 (.tmp 16) (.tmp 17)), none⟩, none⟩, ⟨⟨(some 19), (.ld false 1 (.tmp 18)), none⟩, (some (.int .i64))⟩, ⟨⟨(some 20), (.mv (.tmp 1)), none⟩, none⟩, ⟨⟨(some 21), (.mv (.tmp 5)), none⟩, none⟩, ⟨⟨(some 22), (.ixA 1 (.tmp 20) (.tmp 21)), none⟩, none⟩, ⟨⟨(some 23), (.ld false 1 (.tmp 22)), none⟩, (some (.int .i64))⟩, ⟨⟨(some 24), (.bin .neq (.tmp 19) (.tmp 23)), none⟩, none⟩]) (.cond (.tmp 24) (.seq (.ops false [⟨⟨(some 4), (.mv (.c (.bool false))), none⟩, none⟩]) .ret) .skip)))) (.ops false [⟨⟨(some 25), (.bin .add (.tmp 13) (.c (.int .i64 (1)))), none⟩, none⟩, ⟨⟨(some 13), (.mv (.tmp 25)), none⟩, none⟩]))))
def xr_slices_Equal__int_int : XR := (.seq (.ops false [⟨⟨(some 4), (.mv (.c (.bool false))), none⟩, none⟩]) (.seq (.seq (.ops false [⟨⟨(some 6), (.mv (.tmp 0)), none⟩, none⟩, ⟨⟨(some 7), (.len (.tmp 6)), none⟩, none⟩, ⟨⟨(some 8), (.mv (.tmp 1)), none⟩, none⟩, ⟨⟨(some 9), (.len (.tmp 8)), none⟩, none⟩, ⟨⟨(some 10), (.bin .neq (.tmp 7) (.tmp 9)), none⟩, none⟩]) (.cond (.tmp 10) (.seq (.ops false [⟨⟨(some 4), (.mv (.c (.bool false))), none⟩, none⟩]) .ret) .skip)) (.seq (.seq (.ops false [⟨⟨(some 11), (.mv (.tmp 0)), none⟩, none⟩, ⟨⟨(some 12), (.len (.tmp 11)), none⟩, none⟩, ⟨⟨(some 13), (.mv (.c (.int .i64 (0)))), none⟩, none⟩]) (.block 0 (.loop 0 [0, 1, 12, 13] xb_slices_Equal__int_int_0))) (.seq (.ops false [⟨⟨(some 4), (.mv (.c (.bool true))), none⟩, none⟩]) .ret))))
def rs_slices_Equal__int_int : List ResultVar := [(.tmp 4)]
theorem ir_slices_Equal__int_int : compCode Tryd.prog (Tryd.f56.body.getD .skip) [[0, 1, 12, 13]] = some (xr_slices_Equal__int_int.erase, []) := by kernel_rfl
def gm_slices_Equal__int_int : Gam := Gam.bot
theorem gk_slices_Equal__int_int : GamOk Tryd.prog GG gm_slices_Equal__int_int := GamOk.bot
def st_slices_Equal__int_int_0 (b6 : Bool) (b7 : Bool) (l8 : List Int) (b9 : Bool) (b10 : Bool) (l11 : List Int) (n12 : Int) (n13 : Int) : Option (((Bool × Bool × List Int × Bool × Bool × List Int × Int × Int)) ⊕ ((Unit) ⊕ (Bool))) :=
  bif (decide (n13 < n12)) then
   bif (decide (0 ≤ n13)) then
    bif (decide (n13 < (((List.length l8) : Nat) : Int))) then
     bif (decide ((Int.toNat n13) < (List.length l8))) then
      bif (decide (0 ≤ n13)) then
       bif (decide (n13 < (((List.length l11) : Nat) : Int))) then
        bif (decide ((Int.toNat n13) < (List.length l11))) then
         bif ((List.getD l8 (Int.toNat n13) 0) != (List.getD l11 (Int.toNat n13) 0)) then
          some (Sum.inr (Sum.inr false))
         else
          some (Sum.inl (b6, b7, l8, b9, b10, l11, n12, (IntKind.wrap .i64 (n13 + 1))))
        else none
       else none
      else none
     else none
    else none
   else none
  else
   some (Sum.inr (Sum.inl ()))
def lp_slices_Equal__int_int_0 (b6 : Bool) (b7 : Bool) (l8 : List Int) (b9 : Bool) (b10 : Bool) (l11 : List Int) (n12 : Int) (n13 : Int) : Option ((Unit) ⊕ (Bool)) := loopN (X := (Bool × Bool × List Int × Bool × Bool × List Int × Int × Int)) (fun x => st_slices_Equal__int_int_0 x.1 x.2.1 x.2.2.1 x.2.2.2.1 x.2.2.2.2.1 x.2.2.2.2.2.1 x.2.2.2.2.2.2.1 x.2.2.2.2.2.2.2) (b6, b7, l8, b9, b10, l11, n12, n13)
def sh_slices_Equal__int_int_0 : StSh := ⟨26, [(0, (.p (.isl .i64))), (1, (.p (.isl .i64))), (12, (.p (.int .i64))), (13, (.p (.int .i64)))], []⟩
def sx_slices_Equal__int_int_0 (x : (Bool × Bool × List Int × Bool × Bool × List Int × Int × Int)) : St := ⟨slots 26 0 [(0, (.p (.isl x.1 x.2.1 .i64 x.2.2.1))), (1, (.p (.isl x.2.2.2.1 x.2.2.2.2.1 .i64 x.2.2.2.2.2.1))), (12, (.p (.int .i64 x.2.2.2.2.2.2.1))), (13, (.p (.int .i64 x.2.2.2.2.2.2.2)))], []⟩
def sa_slices_Equal__int_int_0 (S : St) : (Bool × Bool × List Int × Bool × Bool × List Int × Int × Int) := (((tls 0 S.t).headD .any).pv.nl, ((tls 0 S.t).headD .any).pv.ex, ((tls 0 S.t).headD .any).pv.ints, ((tls 1 S.t).headD .any).pv.nl, ((tls 1 S.t).headD .any).pv.ex, ((tls 1 S.t).headD .any).pv.ints, ((tls 12 S.t).headD .any).pv.num, ((tls 13 S.t).headD .any).pv.num)
def tz_slices_Equal__int_int_0_1 : StSh := ⟨26, [(4, (.p .bool))], []⟩
def tx_slices_Equal__int_int_0_1 (x : Bool) : St := ⟨slots 26 0 [(4, (.p (.bool x)))], []⟩
def ta_slices_Equal__int_int_0_1 (S : St) : Bool := ((tls 4 S.t).headD .any).pv.tru
def tz_slices_Equal__int_int_0_0 : StSh := ⟨26, [], []⟩
def tx_slices_Equal__int_int_0_0 (x : Unit) : St := ⟨slots 26 0 [], []⟩
def ta_slices_Equal__int_int_0_0 (S : St) : Unit := ()
def kb_slices_Equal__int_int_0 : Exit → St → Tree (((Bool × Bool × List Int × Bool × Bool × List Int × Int × Int)) ⊕ ((Unit) ⊕ (Bool))) := (exOne (.exit 0) [] tz_slices_Equal__int_int_0_0 ta_slices_Equal__int_int_0_0 (fun y => Sum.inr ((Sum.inl y))) (exOne .ret [4] tz_slices_Equal__int_int_0_1 ta_slices_Equal__int_int_0_1 (fun y => Sum.inr ((Sum.inr y))) exNil))
def ky_slices_Equal__int_int_0 : Dec ((Unit) ⊕ (Bool)) := fun _ y ke => .sum y (fun a => ke ((.exit 0) : EK).ex (tx_slices_Equal__int_int_0_0 a)) (fun y' => ke (.ret : EK).ex (tx_slices_Equal__int_int_0_1 y'))
theorem kk_slices_Equal__int_int_0 : ExOk Sum.inr kb_slices_Equal__int_int_0 ky_slices_Equal__int_int_0 := (ExOk.one (acc := ta_slices_Equal__int_int_0_0) (bY := tx_slices_Equal__int_int_0_0) (inj1 := fun y => (Sum.inl y)) (fun S => by kernel_rfl) (fun y _ ke => .inr (by kernel_rfl)) (ExOk.one (acc := ta_slices_Equal__int_int_0_1) (bY := tx_slices_Equal__int_int_0_1) (inj1 := fun y => (Sum.inr y)) (fun S => by kernel_rfl) (fun y _ ke => .inr (by kernel_rfl)) ExOk.nil))
def lm_slices_Equal__int_int : Lam := fun _ j S kn ke => match j with
  | 0 => prepT [0, 1, 12, 13] [] S fun S => .chk (sh_slices_Equal__int_int_0.ok S) (.bind (loopN (fun x => st_slices_Equal__int_int_0 x.1 x.2.1 x.2.2.1 x.2.2.2.1 x.2.2.2.2.1 x.2.2.2.2.2.1 x.2.2.2.2.2.2.1 x.2.2.2.2.2.2.2) (sa_slices_Equal__int_int_0 S)) fun y => ky_slices_Equal__int_int_0 _ y ke)
  | _ => .fail
theorem sr_slices_Equal__int_int_0 (x : (Bool × Bool × List Int × Bool × Bool × List Int × Int × Int)) : (ev GG gm_slices_Equal__int_int lm_slices_Equal__int_int xb_slices_Equal__int_int_0 (sx_slices_Equal__int_int_0 x) (fun S => forgetT [0, 1, 12, 13] S fun S => prepT [0, 1, 12, 13] [] S fun S => .chk (sh_slices_Equal__int_int_0.ok S) (.leaf (.inl (sa_slices_Equal__int_int_0 S)))) kb_slices_Equal__int_int_0).run = st_slices_Equal__int_int_0 x.1 x.2.1 x.2.2.1 x.2.2.2.1 x.2.2.2.2.1 x.2.2.2.2.2.1 x.2.2.2.2.2.2.1 x.2.2.2.2.2.2.2 := by kernel_rfl
theorem la_slices_Equal__int_int_0 : LamAt Tryd.prog GG lm_slices_Equal__int_int 0 (.loop [0, 1, 12, 13] xb_slices_Equal__int_int_0.erase) := lam_loop (body := xb_slices_Equal__int_int_0) (Λ' := lm_slices_Equal__int_int) gk_slices_Equal__int_int (⟨trivial, ⟨⟨trivial, trivial⟩, ⟨⟨trivial, ⟨trivial, ⟨⟨trivial, trivial⟩, trivial⟩⟩⟩, trivial⟩⟩⟩) (fun S => (by kernel_rfl : sh_slices_Equal__int_int_0.build S = sx_slices_Equal__int_int_0 (sa_slices_Equal__int_int_0 S))) kk_slices_Equal__int_int_0 sr_slices_Equal__int_int_0 (fun _ _ _ => rfl)
def go_slices_Equal__int_int (b0 : Bool) (b1 : Bool) (l2 : List Int) (b3 : Bool) (b4 : Bool) (l5 : List Int) : Option Bool :=
  bif ((((List.length l2) : Nat) : Int) != (((List.length l5) : Nat) : Int)) then
   some false
  else
   (lp_slices_Equal__int_int_0 b0 b1 l2 b3 b4 l5 (((List.length l2) : Nat) : Int) 0).bind fun y14 =>
   Sum.elim (fun z15 =>
    some true) (fun z16 =>
    some z16) y14
def em_slices_Equal__int_int (r : Bool) : PV := (.bool r)
def rh_slices_Equal__int_int : Shp := .bool
def ra_slices_Equal__int_int (v : PV) : Bool := v.tru
def kf_slices_Equal__int_int (v : PV) : Tree Bool := .chk (rh_slices_Equal__int_int.ok v) (.leaf (ra_slices_Equal__int_int v))
theorem rn_slices_Equal__int_int (b0 : Bool) (b1 : Bool) (l2 : List Int) (b3 : Bool) (b4 : Bool) (l5 : List Int) : (ev GG gm_slices_Equal__int_int lm_slices_Equal__int_int xr_slices_Equal__int_int ⟨slots 26 0 [(0, .p (.isl b0 b1 .i64 l2)), (1, .p (.isl b3 b4 .i64 l5))], []⟩ (fun S => finT Tryd.prog rs_slices_Equal__int_int S kf_slices_Equal__int_int) (retT Tryd.prog rs_slices_Equal__int_int kf_slices_Equal__int_int)).run = go_slices_Equal__int_int b0 b1 l2 b3 b4 l5 := by kernel_rfl
theorem ok_slices_Equal__int_int (b0 : Bool) (b1 : Bool) (l2 : List Int) (b3 : Bool) (b4 : Bool) (l5 : List Int) (r : Bool) (h : go_slices_Equal__int_int b0 b1 l2 b3 b4 l5 = some r) : FunEq Tryd.prog GG 56 [(.isl b0 b1 .i64 l2), (.isl b3 b4 .i64 l5)] (em_slices_Equal__int_int r) :=
  fun_of_ev (x := xr_slices_Equal__int_int) (Λ := lm_slices_Equal__int_int) gk_slices_Equal__int_int [[0, 1, 12, 13]] Tryd.func56 rfl (by kernel_rfl) ir_slices_Equal__int_int (by kernel_rfl) (congrArg Array.toList Tryd.results56) Tryd.ntmps56 (⟨trivial, ⟨⟨trivial, ⟨⟨trivial, trivial⟩, trivial⟩⟩, ⟨⟨trivial, la_slices_Equal__int_int_0⟩, ⟨trivial, trivial⟩⟩⟩⟩) (leaf_of fun v => (by kernel_rfl : rh_slices_Equal__int_int.build v = em_slices_Equal__int_int (ra_slices_Equal__int_int v))) (by kernel_rfl) ((rn_slices_Equal__int_int b0 b1 l2 b3 b4 l5).trans h)
def as_slices_Equal__int_int : List Shp := [(.isl .i64), (.isl .i64)]
def ga_slices_Equal__int_int (vs : List PV) : Option Bool := go_slices_Equal__int_int ((tls 0 vs).headD .nilSl).nl ((tls 0 vs).headD .nilSl).ex ((tls 0 vs).headD .nilSl).ints ((tls 1 vs).headD .nilSl).nl ((tls 1 vs).headD .nilSl).ex ((tls 1 vs).headD .nilSl).ints
theorem at_slices_Equal__int_int : FnAt Tryd.prog GG 56 as_slices_Equal__int_int ga_slices_Equal__int_int em_slices_Equal__int_int := fun vs h r hr => by
  have e : Shp.buildL as_slices_Equal__int_int vs = [(.isl ((tls 0 vs).headD .nilSl).nl ((tls 0 vs).headD .nilSl).ex .i64 ((tls 0 vs).headD .nilSl).ints), (.isl ((tls 1 vs).headD .nilSl).nl ((tls 1 vs).headD .nilSl).ex .i64 ((tls 1 vs).headD .nilSl).ints)] := by kernel_rfl
  rw [← Shp.buildL_eq _ h, e]
  exact .inl ⟨by decide, ok_slices_Equal__int_int _ _ _ _ _ _ r hr⟩
end Go.Proofs
end
