import Derived.Test.YtbfhholefjngpaaWSVpf
import Derived.Test.YtbfhholefjngpaaFxRng
import Derived.Test.YtbfhholefjngpaaChecked
set_option linter.unusedVariables false
set_option maxRecDepth 100000
noncomputable section
namespace Go.Proofs
open Go Go.Fx
def xr_frac_Wrong : XR := (.seq (.ops false [⟨⟨(some 0), (.alloc 58 [(.int .i64 (0)), (.int .i64 (0)), (.bool false)]), none⟩, none⟩]) (.seq (.ops false [⟨⟨(some 1), (.build [(.int .i64 (0)), (.int .i64 (0)), (.bool false)] [(2, (1, (.c (.bool true))))]), none⟩, none⟩, ⟨⟨none, (.st 3 (.tmp 0) (.tmp 1)), none⟩, none⟩]) .ret))
def rs_frac_Wrong : List ResultVar := [(.cell 0 58)]
theorem ir_frac_Wrong : compCode Try.prog (Try.f98.body.getD .skip) [] = some (xr_frac_Wrong.erase, []) := by kernel_rfl
def gm_frac_Wrong : Gam := Gam.bot
theorem gk_frac_Wrong : GamOk Try.prog GG gm_frac_Wrong := GamOk.bot
def lm_frac_Wrong : Lam := fun _ j S kn ke => match j with
  | _ => .fail
def go_frac_Wrong : Option (Int × Int × Bool) :=
  some (0, 0, true)
def em_frac_Wrong (r : (Int × Int × Bool)) : PV := (.agg [(.int .i64 r.1), (.int .i64 r.2.1), (.bool r.2.2)])
def rh_frac_Wrong : Shp := (.agg [(.int .i64), (.int .i64), .bool])
def ra_frac_Wrong (v : PV) : (Int × Int × Bool) := ((v.subs.headD .nilSl).num, (v.subs.tail.headD .nilSl).num, (v.subs.tail.tail.headD .nilSl).tru)
def kf_frac_Wrong (v : PV) : Tree (Int × Int × Bool) := .chk (rh_frac_Wrong.ok v) (.leaf (ra_frac_Wrong v))
theorem rn_frac_Wrong : (ev GG gm_frac_Wrong lm_frac_Wrong xr_frac_Wrong ⟨slots 2 0 [], []⟩ (fun S => finT Try.prog rs_frac_Wrong S kf_frac_Wrong) (retT Try.prog rs_frac_Wrong kf_frac_Wrong)).run = go_frac_Wrong := by kernel_rfl
theorem ok_frac_Wrong (r : (Int × Int × Bool)) (h : go_frac_Wrong = some r) : FunEq Try.prog GG 98 [] (em_frac_Wrong r) :=
  fun_of_ev (x := xr_frac_Wrong) (Λ := lm_frac_Wrong) gk_frac_Wrong [] Try.func98 rfl (by kernel_rfl) ir_frac_Wrong (by kernel_rfl) (congrArg Array.toList Try.results98) Try.ntmps98 (⟨trivial, ⟨trivial, trivial⟩⟩) (leaf_of fun v => (by kernel_rfl : rh_frac_Wrong.build v = em_frac_Wrong (ra_frac_Wrong v))) (by kernel_rfl) ((rn_frac_Wrong).trans h)
def as_frac_Wrong : List Shp := []
def ga_frac_Wrong (vs : List PV) : Option (Int × Int × Bool) := go_frac_Wrong
theorem at_frac_Wrong : FnAt Try.prog GG 98 as_frac_Wrong ga_frac_Wrong em_frac_Wrong := fun vs h r hr => by
  have e : Shp.buildL as_frac_Wrong vs = [] := by kernel_rfl
  rw [← Shp.buildL_eq _ h, e]
  exact .inl ⟨by decide, ok_frac_Wrong  r hr⟩
def xb_frac_common_0 : XR := (.seq (.seq (.ops false [⟨⟨(some 13), (.mv (.tmp 1)), none⟩, none⟩, ⟨⟨(some 14), (.bin .gtr (.tmp 13) (.c (.int .i64 (0)))), none⟩, none⟩]) (.cond (.tmp 14) .skip (.exit 0))) (.block 1 (.ops true [⟨⟨(some 15), (.mv (.tmp 1)), none⟩, none⟩, ⟨⟨(some 16), (.mv (.tmp 0)), none⟩, none⟩, ⟨⟨(some 17), (.mv (.tmp 1)), none⟩, none⟩, ⟨⟨(some 18), (.bin .rem (.tmp 16) (.tmp 17)), none⟩, none⟩, ⟨⟨(some 0), (.mv (.tmp 15)), none⟩, none⟩, ⟨⟨(some 1), (.mv (.tmp 18)), none⟩, none⟩])))
def xr_frac_common : XR := (.seq (.ops false [⟨⟨(some 4), (.mv (.c (.int .i64 (0)))), none⟩, none⟩]) (.seq (.ops false [⟨⟨(some 5), (.mv (.tmp 0)), none⟩, none⟩, ⟨⟨(some 6), (.mv (.tmp 0)), none⟩, none⟩, ⟨⟨(some 7), (.un .neg (.tmp 6)), none⟩, none⟩, ⟨⟨(some 8), (.maxs [(.tmp 5), (.tmp 7)]), none⟩, none⟩, ⟨⟨(some 9), (.mv (.tmp 1)), none⟩, none⟩, ⟨⟨(some 10), (.mv (.tmp 1)), none⟩, none⟩, ⟨⟨(some 11), (.un .neg (.tmp 10)), none⟩, none⟩, ⟨⟨(some 12), (.maxs [(.tmp 9), (.tmp 11)]), none⟩, none⟩, ⟨⟨(some 0), (.mv (.tmp 8)), none⟩, none⟩, ⟨⟨(some 1), (.mv (.tmp 12)), none⟩, none⟩]) (.seq (.block 0 (.loop 0 [0, 1] xb_frac_common_0)) (.seq (.ops false [⟨⟨(some 19), (.mv (.tmp 0)), none⟩, none⟩, ⟨⟨(some 4), (.mv (.tmp 19)), none⟩, none⟩]) .ret))))
def rs_frac_common : List ResultVar := [(.tmp 4)]
theorem ir_frac_common : compCode Try.prog (Try.f99.body.getD .skip) [[0, 1]] = some (xr_frac_common.erase, []) := by kernel_rfl
def gm_frac_common : Gam := Gam.bot
theorem gk_frac_common : GamOk Try.prog GG gm_frac_common := GamOk.bot
def st_frac_common_0 (n2 : Int) (n3 : Int) : Option (((Int × Int)) ⊕ ((Int))) :=
  bif (decide (n3 > 0)) then
   bif (decide (n3 ≠ 0)) then
    some (Sum.inl (n3, (Int.tmod n2 n3)))
   else none
  else
   some (Sum.inr n2)
def lp_frac_common_0 (n2 : Int) (n3 : Int) : Option ((Int)) := loopN (X := (Int × Int)) (fun x => st_frac_common_0 x.1 x.2) (n2, n3)
def sh_frac_common_0 : StSh := ⟨20, [(0, (.p (.int .i64))), (1, (.p (.int .i64)))], []⟩
def sx_frac_common_0 (x : (Int × Int)) : St := ⟨slots 20 0 [(0, (.p (.int .i64 x.1))), (1, (.p (.int .i64 x.2)))], []⟩
def sa_frac_common_0 (S : St) : (Int × Int) := (((tls 0 S.t).headD .any).pv.num, ((tls 1 S.t).headD .any).pv.num)
def tz_frac_common_0_0 : StSh := ⟨20, [(0, (.p (.int .i64)))], []⟩
def tx_frac_common_0_0 (x : Int) : St := ⟨slots 20 0 [(0, (.p (.int .i64 x)))], []⟩
def ta_frac_common_0_0 (S : St) : Int := ((tls 0 S.t).headD .any).pv.num
def kb_frac_common_0 : Exit → St → Tree (((Int × Int)) ⊕ ((Int))) := (exOne (.exit 0) [0] tz_frac_common_0_0 ta_frac_common_0_0 (fun y => Sum.inr (y)) exNil)
def ky_frac_common_0 : Dec ((Int)) := fun _ y ke => ke ((.exit 0) : EK).ex (tx_frac_common_0_0 y)
theorem kk_frac_common_0 : ExOk Sum.inr kb_frac_common_0 ky_frac_common_0 := (ExOk.one (acc := ta_frac_common_0_0) (bY := tx_frac_common_0_0) (inj1 := fun y => y) (fun S => by kernel_rfl) (fun y _ ke => .inr (by kernel_rfl)) ExOk.nil)
def lm_frac_common : Lam := fun _ j S kn ke => match j with
  | 0 => prepT [0, 1] [] S fun S => .chk (sh_frac_common_0.ok S) (.bind (loopN (fun x => st_frac_common_0 x.1 x.2) (sa_frac_common_0 S)) fun y => ky_frac_common_0 _ y ke)
  | _ => .fail
theorem sr_frac_common_0 (x : (Int × Int)) : (ev GG gm_frac_common lm_frac_common xb_frac_common_0 (sx_frac_common_0 x) (fun S => forgetT [0, 1] S fun S => prepT [0, 1] [] S fun S => .chk (sh_frac_common_0.ok S) (.leaf (.inl (sa_frac_common_0 S)))) kb_frac_common_0).run = st_frac_common_0 x.1 x.2 := by kernel_rfl
theorem la_frac_common_0 : LamAt Try.prog GG lm_frac_common 0 (.loop [0, 1] xb_frac_common_0.erase) := lam_loop (body := xb_frac_common_0) (Λ' := lm_frac_common) gk_frac_common (⟨⟨trivial, ⟨trivial, trivial⟩⟩, trivial⟩) (fun S => (by kernel_rfl : sh_frac_common_0.build S = sx_frac_common_0 (sa_frac_common_0 S))) kk_frac_common_0 sr_frac_common_0 (fun _ _ _ => rfl)
def go_frac_common (n0 : Int) (n1 : Int) : Option Int :=
  (lp_frac_common_0 (max n0 (IntKind.wrap .i64 (0 - n0))) (max n1 (IntKind.wrap .i64 (0 - n1)))).bind fun y4 =>
  some y4
def em_frac_common (r : Int) : PV := (.int .i64 r)
def rh_frac_common : Shp := (.int .i64)
def ra_frac_common (v : PV) : Int := v.num
def kf_frac_common (v : PV) : Tree Int := .chk (rh_frac_common.ok v) (.leaf (ra_frac_common v))
theorem rn_frac_common (n0 : Int) (n1 : Int) : (ev GG gm_frac_common lm_frac_common xr_frac_common ⟨slots 20 0 [(0, .p (.int .i64 n0)), (1, .p (.int .i64 n1))], []⟩ (fun S => finT Try.prog rs_frac_common S kf_frac_common) (retT Try.prog rs_frac_common kf_frac_common)).run = go_frac_common n0 n1 := by kernel_rfl
theorem ok_frac_common (n0 : Int) (n1 : Int) (r : Int) (h : go_frac_common n0 n1 = some r) : FunEq Try.prog GG 99 [(.int .i64 n0), (.int .i64 n1)] (em_frac_common r) :=
  fun_of_ev (x := xr_frac_common) (Λ := lm_frac_common) gk_frac_common [[0, 1]] Try.func99 rfl (by kernel_rfl) ir_frac_common (by kernel_rfl) (congrArg Array.toList Try.results99) Try.ntmps99 (⟨trivial, ⟨trivial, ⟨la_frac_common_0, ⟨trivial, trivial⟩⟩⟩⟩) (leaf_of fun v => (by kernel_rfl : rh_frac_common.build v = em_frac_common (ra_frac_common v))) (by kernel_rfl) ((rn_frac_common n0 n1).trans h)
def as_frac_common : List Shp := [(.int .i64), (.int .i64)]
def ga_frac_common (vs : List PV) : Option Int := go_frac_common ((tls 0 vs).headD .nilSl).num ((tls 1 vs).headD .nilSl).num
theorem at_frac_common : FnAt Try.prog GG 99 as_frac_common ga_frac_common em_frac_common := fun vs h r hr => by
  have e : Shp.buildL as_frac_common vs = [(.int .i64 ((tls 0 vs).headD .nilSl).num), (.int .i64 ((tls 1 vs).headD .nilSl).num)] := by kernel_rfl
  rw [← Shp.buildL_eq _ h, e]
  exact .inl ⟨by decide, ok_frac_common _ _ r hr⟩
def xr_frac_New : XR := (.seq (.ops false [⟨⟨(some 4), (.alloc 58 [(.int .i64 (0)), (.int .i64 (0)), (.bool false)]), none⟩, none⟩]) (.seq (.seq (.ops false [⟨⟨(some 6), (.mv (.tmp 0)), none⟩, none⟩, ⟨⟨(some 7), (.bin .gtr (.tmp 6) (.c (.int .i64 (1152921504606846976)))), none⟩, none⟩, ⟨⟨(some 8), (.mv (.tmp 7)), none⟩, none⟩, ⟨⟨(some 9), (.mv (.tmp 0)), (some (8, false))⟩, none⟩, ⟨⟨(some 10), (.bin .lss (.tmp 9) (.c (.int .i64 (-1152921504606846976)))), (some (8, false))⟩, none⟩, ⟨⟨(some 11), (.pick (.tmp 8) (.c (.bool true)) (.tmp 10)), none⟩, none⟩, ⟨⟨(some 12), (.mv (.tmp 11)), none⟩, none⟩, ⟨⟨(some 13), (.mv (.tmp 1)), (some (12, false))⟩, none⟩, ⟨⟨(some 14), (.bin .gtr (.tmp 13) (.c (.int .i64 (1152921504606846976)))), (some (12, false))⟩, none⟩, ⟨⟨(some 15), (.pick (.tmp 12) (.c (.bool true)) (.tmp 14)), none⟩, none⟩, ⟨⟨(some 16), (.mv (.tmp 15)), none⟩, none⟩, ⟨⟨(some 17), (.mv (.tmp 1)), (some (16, false))⟩, none⟩, ⟨⟨(some 18), (.bin .lss (.tmp 17) (.c (.int .i64 (-1152921504606846976)))), (some (16, false))⟩, none⟩, ⟨⟨(some 19), (.pick (.tmp 16) (.c (.bool true)) (.tmp 18)), none⟩, none⟩, ⟨⟨(some 20), (.mv (.tmp 19)), none⟩, none⟩, ⟨⟨(some 21), (.mv (.tmp 1)), (some (20, false))⟩, none⟩, ⟨⟨(some 22), (.bin .eql (.tmp 21) (.c (.int .i64 (0)))), (some (20, false))⟩, none⟩, ⟨⟨(some 23), (.pick (.tmp 20) (.c (.bool true)) (.tmp 22)), none⟩, none⟩]) (.cond (.tmp 23) (.seq (.ops false [⟨⟨(some 24), (.call (.func 98) []), none⟩, none⟩, ⟨⟨none, (.st 3 (.tmp 4) (.tmp 24)), none⟩, none⟩]) .ret) .skip)) (.seq (.seq (.ops false [⟨⟨(some 25), (.mv (.tmp 1)), none⟩, none⟩, ⟨⟨(some 26), (.bin .lss (.tmp 25) (.c (.int .i64 (0)))), none⟩, none⟩]) (.cond (.tmp 26) (.ops false [⟨⟨(some 27), (.mv (.tmp 0)), none⟩, none⟩, ⟨⟨(some 28), (.un .neg (.tmp 27)), none⟩, none⟩, ⟨⟨(some 29), (.mv (.tmp 1)), none⟩, none⟩, ⟨⟨(some 30), (.un .neg (.tmp 29)), none⟩, none⟩, ⟨⟨(some 0), (.mv (.tmp 28)), none⟩, none⟩, ⟨⟨(some 1), (.mv (.tmp 30)), none⟩, none⟩]) .skip)) (.seq (.ops false [⟨⟨(some 31), (.mv (.tmp 0)), none⟩, none⟩, ⟨⟨(some 32), (.mv (.tmp 1)), none⟩, none⟩, ⟨⟨(some 33), (.call (.func 99) [(.tmp 31), (.tmp 32)]), none⟩, none⟩, ⟨⟨(some 5), (.mv (.tmp 33)), none⟩, none⟩]) (.seq (.ops true [⟨⟨(some 34), (.mv (.tmp 0)), none⟩, none⟩, ⟨⟨(some 35), (.mv (.tmp 5)), none⟩, none⟩, ⟨⟨(some 36), (.bin .quo (.tmp 34) (.tmp 35)), none⟩, none⟩, ⟨⟨(some 37), (.mv (.tmp 1)), none⟩, none⟩, ⟨⟨(some 38), (.mv (.tmp 5)), none⟩, none⟩, ⟨⟨(some 39), (.bin .quo (.tmp 37) (.tmp 38)), none⟩, none⟩, ⟨⟨(some 0), (.mv (.tmp 36)), none⟩, none⟩, ⟨⟨(some 1), (.mv (.tmp 39)), none⟩, none⟩]) (.seq (.seq (.ops false [⟨⟨(some 40), (.mv (.tmp 0)), none⟩, none⟩, ⟨⟨(some 41), (.bin .gtr (.tmp 40) (.c (.int .i64 (1073741824)))), none⟩, none⟩, ⟨⟨(some 42), (.mv (.tmp 41)), none⟩, none⟩, ⟨⟨(some 43), (.mv (.tmp 0)), (some (42, false))⟩, none⟩, ⟨⟨(some 44), (.bin .lss (.tmp 43) (.c (.int .i64 (-1073741824)))), (some (42, false))⟩, none⟩, ⟨⟨(some 45), (.pick (.tmp 42) (.c (.bool true)) (.tmp 44)), none⟩, none⟩, ⟨⟨(some 46), (.mv (.tmp 45)), none⟩, none⟩, ⟨⟨(some 47), (.mv (.tmp 1)), (some (46, false))⟩, none⟩, ⟨⟨(some 48), (.bin .gtr (.tmp 47) (.c (.int .i64 (1073741824)))), (some (46, false))⟩, none⟩, ⟨⟨(some 49), (.pick (.tmp 46) (.c (.bool true)) (.tmp 48)), none⟩, none⟩]) (.cond (.tmp 49) (.seq (.ops false [⟨⟨(some 50), (.call (.func 98) []), none⟩, none⟩, ⟨⟨none, (.st 3 (.tmp 4) (.tmp 50)), none⟩, none⟩]) .ret) .skip)) (.seq (.ops false [⟨⟨(some 51), (.mv (.tmp 0)), none⟩, none⟩, ⟨⟨(some 52), (.mv (.tmp 1)), none⟩, none⟩, ⟨⟨(some 53), (.build [(.int .i64 (0)), (.int .i64 (0)), (.bool false)] [(0, (1, (.tmp 51))), (1, (1, (.tmp 52)))]), none⟩, none⟩, ⟨⟨none, (.st 3 (.tmp 4) (.tmp 53)), none⟩, none⟩]) .ret)))))))
def rs_frac_New : List ResultVar := [(.cell 4 58)]
theorem ir_frac_New : compCode Try.prog (Try.f58.body.getD .skip) [] = some (xr_frac_New.erase, []) := by kernel_rfl
def gm_frac_New : Gam := (Gam.fn 98 as_frac_Wrong ga_frac_Wrong em_frac_Wrong (Gam.fn 99 as_frac_common ga_frac_common em_frac_common Gam.bot))
theorem gk_frac_New : GamOk Try.prog GG gm_frac_New := (GamOk.fn at_frac_Wrong (GamOk.fn at_frac_common GamOk.bot))
def lm_frac_New : Lam := fun _ j S kn ke => match j with
  | _ => .fail
def go_frac_New (n0 : Int) (n1 : Int) : Option (Int × Int × Bool) :=
  bif (decide (n0 > 1152921504606846976)) then
   (go_frac_Wrong).bind fun r2 =>
   some (r2.1, r2.2.1, r2.2.2)
  else
   bif (decide (n0 < (-1152921504606846976))) then
    (go_frac_Wrong).bind fun r3 =>
    some (r3.1, r3.2.1, r3.2.2)
   else
    bif (decide (n1 > 1152921504606846976)) then
     (go_frac_Wrong).bind fun r4 =>
     some (r4.1, r4.2.1, r4.2.2)
    else
     bif (decide (n1 < (-1152921504606846976))) then
      (go_frac_Wrong).bind fun r5 =>
      some (r5.1, r5.2.1, r5.2.2)
     else
      bif (n1 == 0) then
       (go_frac_Wrong).bind fun r6 =>
       some (r6.1, r6.2.1, r6.2.2)
      else
       bif (decide (n1 < 0)) then
        (go_frac_common (IntKind.wrap .i64 (0 - n0)) (IntKind.wrap .i64 (0 - n1))).bind fun r7 =>
        bif (decide (r7 ≠ 0)) then
         bif (decide (r7 ≠ 0)) then
          bif (decide ((IntKind.wrap .i64 (Int.tdiv (IntKind.wrap .i64 (0 - n0)) r7)) > 1073741824)) then
           (go_frac_Wrong).bind fun r8 =>
           some (r8.1, r8.2.1, r8.2.2)
          else
           bif (decide ((IntKind.wrap .i64 (Int.tdiv (IntKind.wrap .i64 (0 - n0)) r7)) < (-1073741824))) then
            (go_frac_Wrong).bind fun r9 =>
            some (r9.1, r9.2.1, r9.2.2)
           else
            bif (decide ((IntKind.wrap .i64 (Int.tdiv (IntKind.wrap .i64 (0 - n1)) r7)) > 1073741824)) then
             (go_frac_Wrong).bind fun r10 =>
             some (r10.1, r10.2.1, r10.2.2)
            else
             some ((IntKind.wrap .i64 (Int.tdiv (IntKind.wrap .i64 (0 - n0)) r7)), (IntKind.wrap .i64 (Int.tdiv (IntKind.wrap .i64 (0 - n1)) r7)), false)
         else none
        else none
       else
        (go_frac_common n0 n1).bind fun r11 =>
        bif (decide (r11 ≠ 0)) then
         bif (decide (r11 ≠ 0)) then
          bif (decide ((IntKind.wrap .i64 (Int.tdiv n0 r11)) > 1073741824)) then
           (go_frac_Wrong).bind fun r12 =>
           some (r12.1, r12.2.1, r12.2.2)
          else
           bif (decide ((IntKind.wrap .i64 (Int.tdiv n0 r11)) < (-1073741824))) then
            (go_frac_Wrong).bind fun r13 =>
            some (r13.1, r13.2.1, r13.2.2)
           else
            bif (decide ((IntKind.wrap .i64 (Int.tdiv n1 r11)) > 1073741824)) then
             (go_frac_Wrong).bind fun r14 =>
             some (r14.1, r14.2.1, r14.2.2)
            else
             some ((IntKind.wrap .i64 (Int.tdiv n0 r11)), (IntKind.wrap .i64 (Int.tdiv n1 r11)), false)
         else none
        else none
def em_frac_New (r : (Int × Int × Bool)) : PV := (.agg [(.int .i64 r.1), (.int .i64 r.2.1), (.bool r.2.2)])
def rh_frac_New : Shp := (.agg [(.int .i64), (.int .i64), .bool])
def ra_frac_New (v : PV) : (Int × Int × Bool) := ((v.subs.headD .nilSl).num, (v.subs.tail.headD .nilSl).num, (v.subs.tail.tail.headD .nilSl).tru)
def kf_frac_New (v : PV) : Tree (Int × Int × Bool) := .chk (rh_frac_New.ok v) (.leaf (ra_frac_New v))
theorem rn_frac_New (n0 : Int) (n1 : Int) : (ev GG gm_frac_New lm_frac_New xr_frac_New ⟨slots 54 0 [(0, .p (.int .i64 n0)), (1, .p (.int .i64 n1))], []⟩ (fun S => finT Try.prog rs_frac_New S kf_frac_New) (retT Try.prog rs_frac_New kf_frac_New)).run = go_frac_New n0 n1 := by kernel_rfl
theorem ok_frac_New (n0 : Int) (n1 : Int) (r : (Int × Int × Bool)) (h : go_frac_New n0 n1 = some r) : FunEq Try.prog GG 58 [(.int .i64 n0), (.int .i64 n1)] (em_frac_New r) :=
  fun_of_ev (x := xr_frac_New) (Λ := lm_frac_New) gk_frac_New [] Try.func58 rfl (by kernel_rfl) ir_frac_New (by kernel_rfl) (congrArg Array.toList Try.results58) Try.ntmps58 (⟨trivial, ⟨⟨trivial, ⟨⟨trivial, trivial⟩, trivial⟩⟩, ⟨⟨trivial, ⟨trivial, trivial⟩⟩, ⟨trivial, ⟨trivial, ⟨⟨trivial, ⟨⟨trivial, trivial⟩, trivial⟩⟩, ⟨trivial, trivial⟩⟩⟩⟩⟩⟩⟩) (leaf_of fun v => (by kernel_rfl : rh_frac_New.build v = em_frac_New (ra_frac_New v))) (by kernel_rfl) ((rn_frac_New n0 n1).trans h)
def as_frac_New : List Shp := [(.int .i64), (.int .i64)]
def ga_frac_New (vs : List PV) : Option (Int × Int × Bool) := go_frac_New ((tls 0 vs).headD .nilSl).num ((tls 1 vs).headD .nilSl).num
theorem at_frac_New : FnAt Try.prog GG 58 as_frac_New ga_frac_New em_frac_New := fun vs h r hr => by
  have e : Shp.buildL as_frac_New vs = [(.int .i64 ((tls 0 vs).headD .nilSl).num), (.int .i64 ((tls 1 vs).headD .nilSl).num)] := by kernel_rfl
  rw [← Shp.buildL_eq _ h, e]
  exact .inl ⟨by decide, ok_frac_New _ _ r hr⟩
def xr_frac_Frac_Of : XR := (.seq (.ops false [⟨⟨(some 2), (.box 58 (.tmp 0)), none⟩, none⟩, ⟨⟨(some 4), (.alloc 58 [(.int .i64 (0)), (.int .i64 (0)), (.bool false)]), none⟩, none⟩]) (.seq (.ops false [⟨⟨(some 5), (.mv (.tmp 1)), none⟩, none⟩, ⟨⟨(some 6), (.call (.func 58) [(.tmp 5), (.c (.int .i64 (1)))]), none⟩, none⟩, ⟨⟨none, (.st 3 (.tmp 4) (.tmp 6)), none⟩, none⟩]) .ret))
def rs_frac_Frac_Of : List ResultVar := [(.cell 4 58)]
theorem ir_frac_Frac_Of : compCode Try.prog (Try.f140.body.getD .skip) [] = some (xr_frac_Frac_Of.erase, []) := by kernel_rfl
def gm_frac_Frac_Of : Gam := (Gam.fn 58 as_frac_New ga_frac_New em_frac_New Gam.bot)
theorem gk_frac_Frac_Of : GamOk Try.prog GG gm_frac_Frac_Of := (GamOk.fn at_frac_New GamOk.bot)
def lm_frac_Frac_Of : Lam := fun _ j S kn ke => match j with
  | _ => .fail
def go_frac_Frac_Of (n0 : Int) (n1 : Int) (b2 : Bool) (n3 : Int) : Option (Int × Int × Bool) :=
  (go_frac_New n3 1).bind fun r4 =>
  some (r4.1, r4.2.1, r4.2.2)
def em_frac_Frac_Of (r : (Int × Int × Bool)) : PV := (.agg [(.int .i64 r.1), (.int .i64 r.2.1), (.bool r.2.2)])
def rh_frac_Frac_Of : Shp := (.agg [(.int .i64), (.int .i64), .bool])
def ra_frac_Frac_Of (v : PV) : (Int × Int × Bool) := ((v.subs.headD .nilSl).num, (v.subs.tail.headD .nilSl).num, (v.subs.tail.tail.headD .nilSl).tru)
def kf_frac_Frac_Of (v : PV) : Tree (Int × Int × Bool) := .chk (rh_frac_Frac_Of.ok v) (.leaf (ra_frac_Frac_Of v))
theorem rn_frac_Frac_Of (n0 : Int) (n1 : Int) (b2 : Bool) (n3 : Int) : (ev GG gm_frac_Frac_Of lm_frac_Frac_Of xr_frac_Frac_Of ⟨slots 7 0 [(0, .p (.agg [(.int .i64 n0), (.int .i64 n1), (.bool b2)])), (1, .p (.int .i64 n3))], []⟩ (fun S => finT Try.prog rs_frac_Frac_Of S kf_frac_Frac_Of) (retT Try.prog rs_frac_Frac_Of kf_frac_Frac_Of)).run = go_frac_Frac_Of n0 n1 b2 n3 := by kernel_rfl
theorem ok_frac_Frac_Of (n0 : Int) (n1 : Int) (b2 : Bool) (n3 : Int) (r : (Int × Int × Bool)) (h : go_frac_Frac_Of n0 n1 b2 n3 = some r) : FunEq Try.prog GG 140 [(.agg [(.int .i64 n0), (.int .i64 n1), (.bool b2)]), (.int .i64 n3)] (em_frac_Frac_Of r) :=
  fun_of_ev (x := xr_frac_Frac_Of) (Λ := lm_frac_Frac_Of) gk_frac_Frac_Of [] Try.func140 rfl (by kernel_rfl) ir_frac_Frac_Of (by kernel_rfl) (congrArg Array.toList Try.results140) Try.ntmps140 (⟨trivial, ⟨trivial, trivial⟩⟩) (leaf_of fun v => (by kernel_rfl : rh_frac_Frac_Of.build v = em_frac_Frac_Of (ra_frac_Frac_Of v))) (by kernel_rfl) ((rn_frac_Frac_Of n0 n1 b2 n3).trans h)
def as_frac_Frac_Of : List Shp := [(.agg [(.int .i64), (.int .i64), .bool]), (.int .i64)]
def ga_frac_Frac_Of (vs : List PV) : Option (Int × Int × Bool) := go_frac_Frac_Of (((tls 0 vs).headD .nilSl).subs.headD .nilSl).num (((tls 0 vs).headD .nilSl).subs.tail.headD .nilSl).num (((tls 0 vs).headD .nilSl).subs.tail.tail.headD .nilSl).tru ((tls 1 vs).headD .nilSl).num
theorem at_frac_Frac_Of : FnAt Try.prog GG 140 as_frac_Frac_Of ga_frac_Frac_Of em_frac_Frac_Of := fun vs h r hr => by
  have e : Shp.buildL as_frac_Frac_Of vs = [(.agg [(.int .i64 (((tls 0 vs).headD .nilSl).subs.headD .nilSl).num), (.int .i64 (((tls 0 vs).headD .nilSl).subs.tail.headD .nilSl).num), (.bool (((tls 0 vs).headD .nilSl).subs.tail.tail.headD .nilSl).tru)]), (.int .i64 ((tls 1 vs).headD .nilSl).num)] := by kernel_rfl
  rw [← Shp.buildL_eq _ h, e]
  exact .inl ⟨by decide, ok_frac_Frac_Of _ _ _ _ r hr⟩
def xb_vec_Whole_frac_Frac_0 : XR := (.seq (.ops false [⟨⟨(some 10), (.bin .lss (.tmp 9) (.tmp 8)), none⟩, none⟩]) (.seq (.cond (.tmp 10) .skip (.exit 0)) (.seq (.block 1 (.seq (.ops false [⟨⟨(some 11), (.ixA 1 (.tmp 7) (.tmp 9)), none⟩, none⟩, ⟨⟨(some 12), (.ld false 1 (.tmp 11)), none⟩, (some (.int .i64))⟩, ⟨⟨(some 6), (.mv (.tmp 12)), none⟩, none⟩]) (.ops false [⟨⟨(some 13), (.mv (.tmp 3)), none⟩, none⟩, ⟨⟨(some 14), (.ld true 3 (.tmp 4)), none⟩, (some (.agg [(.int .i64), (.int .i64), .bool]))⟩, ⟨⟨(some 15), (.mkI 58 (.tmp 14)), none⟩, none⟩, ⟨⟨(some 16), (.mv (.tmp 6)), none⟩, none⟩, ⟨⟨(some 17), (.callI 140 58 (.tmp 15) [(.tmp 16)]), none⟩, none⟩, ⟨⟨(some 18), (.bsl 58 none 3 [(.tmp 17)]), none⟩, none⟩, ⟨⟨(some 19), (.app 58 none 3 24 (.tmp 13) (.tmp 18)), none⟩, none⟩, ⟨⟨(some 3), (.mv (.tmp 19)), none⟩, none⟩]))) (.ops false [⟨⟨(some 20), (.bin .add (.tmp 9) (.c (.int .i64 (1)))), none⟩, none⟩, ⟨⟨(some 9), (.mv (.tmp 20)), none⟩, none⟩]))))
def xr_vec_Whole_frac_Frac : XR := (.seq (.ops false [⟨⟨(some 2), (.mv (.c (.sl true true 3 []))), none⟩, none⟩]) (.seq (.ops false [⟨⟨(some 3), (.mv (.c (.sl true true 3 []))), none⟩, none⟩]) (.seq (.ops false [⟨⟨(some 4), (.alloc 58 [(.int .i64 (0)), (.int .i64 (0)), (.bool false)]), none⟩, none⟩]) (.seq (.seq (.ops false [⟨⟨(some 7), (.mv (.tmp 0)), none⟩, none⟩, ⟨⟨(some 8), (.len (.tmp 7)), none⟩, none⟩, ⟨⟨(some 9), (.mv (.c (.int .i64 (0)))), none⟩, none⟩]) (.block 0 (.loop 0 [3, 4, 7, 8, 9] xb_vec_Whole_frac_Frac_0))) (.seq (.ops false [⟨⟨(some 21), (.mv (.tmp 3)), none⟩, none⟩, ⟨⟨(some 2), (.mv (.tmp 21)), none⟩, none⟩]) .ret)))))
def rs_vec_Whole_frac_Frac : List ResultVar := [(.tmp 2)]
theorem ir_vec_Whole_frac_Frac : compCode Try.prog (Try.f55.body.getD .skip) [[3, 4, 7, 8, 9]] = some (xr_vec_Whole_frac_Frac.erase, []) := by kernel_rfl
def gm_vec_Whole_frac_Frac : Gam := (Gam.fn 140 as_frac_Frac_Of ga_frac_Frac_Of em_frac_Frac_Of Gam.bot)
theorem gk_vec_Whole_frac_Frac : GamOk Try.prog GG gm_vec_Whole_frac_Frac := (GamOk.fn at_frac_Frac_Of GamOk.bot)
def st_vec_Whole_frac_Frac_0 (b3 : Bool) (b4 : Bool) (l5 : List Int) (n6 : Int) (n7 : Int) (b8 : Bool) (b9 : Bool) (es10 : List PV) (n11 : Int) (n12 : Int) (b13 : Bool) : Option (((Bool × Bool × List Int × Int × Int × Bool × Bool × List PV × Int × Int × Bool)) ⊕ (((Bool × Bool × List PV)))) :=
  bif (decide (n7 < n6)) then
   bif (decide (0 ≤ n7)) then
    bif (decide (n7 < (((List.length l5) : Nat) : Int))) then
     bif (decide ((Int.toNat n7) < (List.length l5))) then
      (go_frac_Frac_Of n11 n12 b13 (List.getD l5 (Int.toNat n7) 0)).bind fun r14 =>
      bif (decide ((((List.length es10) + 1) * 24) ≤ 140737488355328)) then
       bif (decide (((List.length es10) + 1) ≤ 4611686018427387904)) then
        some (Sum.inl (b3, b4, l5, n6, (IntKind.wrap .i64 (n7 + 1)), (b8 && false), false, (es10 ++ [(.agg [(.int .i64 r14.1), (.int .i64 r14.2.1), (.bool r14.2.2)])]), n11, n12, b13))
       else none
      else none
     else none
    else none
   else none
  else
   some (Sum.inr (b8, b9, es10))
def lp_vec_Whole_frac_Frac_0 (b3 : Bool) (b4 : Bool) (l5 : List Int) (n6 : Int) (n7 : Int) (b8 : Bool) (b9 : Bool) (es10 : List PV) (n11 : Int) (n12 : Int) (b13 : Bool) : Option (((Bool × Bool × List PV))) := loopN (X := (Bool × Bool × List Int × Int × Int × Bool × Bool × List PV × Int × Int × Bool)) (fun x => st_vec_Whole_frac_Frac_0 x.1 x.2.1 x.2.2.1 x.2.2.2.1 x.2.2.2.2.1 x.2.2.2.2.2.1 x.2.2.2.2.2.2.1 x.2.2.2.2.2.2.2.1 x.2.2.2.2.2.2.2.2.1 x.2.2.2.2.2.2.2.2.2.1 x.2.2.2.2.2.2.2.2.2.2) (b3, b4, l5, n6, n7, b8, b9, es10, n11, n12, b13)
def sh_vec_Whole_frac_Frac_0 : StSh := ⟨22, [(3, (.row 0)), (4, (.ptr 1 0)), (7, (.p (.isl .i64))), (8, (.p (.int .i64))), (9, (.p (.int .i64)))], [(.row 58 3), (.box 58 [(.p (.int .i64)), (.p (.int .i64)), (.p .bool)])]⟩
def sx_vec_Whole_frac_Frac_0 (x : (Bool × Bool × List Int × Int × Int × Bool × Bool × List PV × Int × Int × Bool)) : St := ⟨slots 22 0 [(3, (.row 0)), (4, (.ptr 1 0)), (7, (.p (.isl x.1 x.2.1 .i64 x.2.2.1))), (8, (.p (.int .i64 x.2.2.2.1))), (9, (.p (.int .i64 x.2.2.2.2.1)))], [(.row 58 3 x.2.2.2.2.2.1 x.2.2.2.2.2.2.1 x.2.2.2.2.2.2.2.1), (.box 58 [(.p (.int .i64 x.2.2.2.2.2.2.2.2.1)), (.p (.int .i64 x.2.2.2.2.2.2.2.2.2.1)), (.p (.bool x.2.2.2.2.2.2.2.2.2.2))])]⟩
def sa_vec_Whole_frac_Frac_0 (S : St) : (Bool × Bool × List Int × Int × Int × Bool × Bool × List PV × Int × Int × Bool) := (((tls 7 S.t).headD .any).pv.nl, ((tls 7 S.t).headD .any).pv.ex, ((tls 7 S.t).headD .any).pv.ints, ((tls 8 S.t).headD .any).pv.num, ((tls 9 S.t).headD .any).pv.num, ((tls 0 S.own).headD .gone).pvD.nl, ((tls 0 S.own).headD .gone).pvD.ex, ((tls 0 S.own).headD .gone).pvD.elts, (((tls 1 S.own).headD .gone).subs.headD .any).pv.num, (((tls 1 S.own).headD .gone).subs.tail.headD .any).pv.num, (((tls 1 S.own).headD .gone).subs.tail.tail.headD .any).pv.tru)
def tz_vec_Whole_frac_Frac_0_0 : StSh := ⟨22, [(3, (.row 0))], [(.row 58 3)]⟩
def tx_vec_Whole_frac_Frac_0_0 (x : (Bool × Bool × List PV)) : St := ⟨slots 22 0 [(3, (.row 0))], [(.row 58 3 x.1 x.2.1 x.2.2)]⟩
def ta_vec_Whole_frac_Frac_0_0 (S : St) : (Bool × Bool × List PV) := (((tls 0 S.own).headD .gone).pvD.nl, ((tls 0 S.own).headD .gone).pvD.ex, ((tls 0 S.own).headD .gone).pvD.elts)
def kb_vec_Whole_frac_Frac_0 : Exit → St → Tree (((Bool × Bool × List Int × Int × Int × Bool × Bool × List PV × Int × Int × Bool)) ⊕ (((Bool × Bool × List PV)))) := (exOne (.exit 0) [3] tz_vec_Whole_frac_Frac_0_0 ta_vec_Whole_frac_Frac_0_0 (fun y => Sum.inr (y)) exNil)
def ky_vec_Whole_frac_Frac_0 : Dec (((Bool × Bool × List PV))) := fun _ y ke => ke ((.exit 0) : EK).ex (tx_vec_Whole_frac_Frac_0_0 y)
theorem kk_vec_Whole_frac_Frac_0 : ExOk Sum.inr kb_vec_Whole_frac_Frac_0 ky_vec_Whole_frac_Frac_0 := (ExOk.one (acc := ta_vec_Whole_frac_Frac_0_0) (bY := tx_vec_Whole_frac_Frac_0_0) (inj1 := fun y => y) (fun S => by kernel_rfl) (fun y _ ke => .inr (by kernel_rfl)) ExOk.nil)
def lm_vec_Whole_frac_Frac : Lam := fun _ j S kn ke => match j with
  | 0 => prepT [3, 4, 7, 8, 9] [(3, 58)] S fun S => .chk (sh_vec_Whole_frac_Frac_0.ok S) (.bind (loopN (fun x => st_vec_Whole_frac_Frac_0 x.1 x.2.1 x.2.2.1 x.2.2.2.1 x.2.2.2.2.1 x.2.2.2.2.2.1 x.2.2.2.2.2.2.1 x.2.2.2.2.2.2.2.1 x.2.2.2.2.2.2.2.2.1 x.2.2.2.2.2.2.2.2.2.1 x.2.2.2.2.2.2.2.2.2.2) (sa_vec_Whole_frac_Frac_0 S)) fun y => ky_vec_Whole_frac_Frac_0 _ y ke)
  | _ => .fail
theorem sr_vec_Whole_frac_Frac_0 (x : (Bool × Bool × List Int × Int × Int × Bool × Bool × List PV × Int × Int × Bool)) : (ev GG gm_vec_Whole_frac_Frac lm_vec_Whole_frac_Frac xb_vec_Whole_frac_Frac_0 (sx_vec_Whole_frac_Frac_0 x) (fun S => forgetT [3, 4, 7, 8, 9] S fun S => prepT [3, 4, 7, 8, 9] [(3, 58)] S fun S => .chk (sh_vec_Whole_frac_Frac_0.ok S) (.leaf (.inl (sa_vec_Whole_frac_Frac_0 S)))) kb_vec_Whole_frac_Frac_0).run = st_vec_Whole_frac_Frac_0 x.1 x.2.1 x.2.2.1 x.2.2.2.1 x.2.2.2.2.1 x.2.2.2.2.2.1 x.2.2.2.2.2.2.1 x.2.2.2.2.2.2.2.1 x.2.2.2.2.2.2.2.2.1 x.2.2.2.2.2.2.2.2.2.1 x.2.2.2.2.2.2.2.2.2.2 := by kernel_rfl
theorem la_vec_Whole_frac_Frac_0 : LamAt Try.prog GG lm_vec_Whole_frac_Frac 0 (.loop [3, 4, 7, 8, 9] xb_vec_Whole_frac_Frac_0.erase) := lam_loop (body := xb_vec_Whole_frac_Frac_0) (Λ' := lm_vec_Whole_frac_Frac) gk_vec_Whole_frac_Frac (⟨trivial, ⟨⟨trivial, trivial⟩, ⟨⟨trivial, trivial⟩, trivial⟩⟩⟩) (fun S => (by kernel_rfl : sh_vec_Whole_frac_Frac_0.build S = sx_vec_Whole_frac_Frac_0 (sa_vec_Whole_frac_Frac_0 S))) kk_vec_Whole_frac_Frac_0 sr_vec_Whole_frac_Frac_0 (fun _ _ _ => rfl)
def go_vec_Whole_frac_Frac (b0 : Bool) (b1 : Bool) (l2 : List Int) : Option (Bool × Bool × List PV) :=
  (lp_vec_Whole_frac_Frac_0 b0 b1 l2 (((List.length l2) : Nat) : Int) 0 true true [] 0 0 false).bind fun y15 =>
  some (y15.1, y15.2.1, y15.2.2)
def em_vec_Whole_frac_Frac (r : (Bool × Bool × List PV)) : PV := (.sl r.1 r.2.1 3 r.2.2)
def rh_vec_Whole_frac_Frac : Shp := (.sl 3)
def ra_vec_Whole_frac_Frac (v : PV) : (Bool × Bool × List PV) := (v.nl, v.ex, v.elts)
def kf_vec_Whole_frac_Frac (v : PV) : Tree (Bool × Bool × List PV) := .chk (rh_vec_Whole_frac_Frac.ok v) (.leaf (ra_vec_Whole_frac_Frac v))
theorem rn_vec_Whole_frac_Frac (b0 : Bool) (b1 : Bool) (l2 : List Int) : (ev GG gm_vec_Whole_frac_Frac lm_vec_Whole_frac_Frac xr_vec_Whole_frac_Frac ⟨slots 22 0 [(0, .p (.isl b0 b1 .i64 l2))], []⟩ (fun S => finT Try.prog rs_vec_Whole_frac_Frac S kf_vec_Whole_frac_Frac) (retT Try.prog rs_vec_Whole_frac_Frac kf_vec_Whole_frac_Frac)).run = go_vec_Whole_frac_Frac b0 b1 l2 := by kernel_rfl
theorem ok_vec_Whole_frac_Frac (b0 : Bool) (b1 : Bool) (l2 : List Int) (r : (Bool × Bool × List PV)) (h : go_vec_Whole_frac_Frac b0 b1 l2 = some r) : FunEq Try.prog GG 55 [(.isl b0 b1 .i64 l2)] (em_vec_Whole_frac_Frac r) :=
  fun_of_ev (x := xr_vec_Whole_frac_Frac) (Λ := lm_vec_Whole_frac_Frac) gk_vec_Whole_frac_Frac [[3, 4, 7, 8, 9]] Try.func55 rfl (by kernel_rfl) ir_vec_Whole_frac_Frac (by kernel_rfl) (congrArg Array.toList Try.results55) Try.ntmps55 (⟨trivial, ⟨trivial, ⟨trivial, ⟨⟨trivial, la_vec_Whole_frac_Frac_0⟩, ⟨trivial, trivial⟩⟩⟩⟩⟩) (leaf_of fun v => (by kernel_rfl : rh_vec_Whole_frac_Frac.build v = em_vec_Whole_frac_Frac (ra_vec_Whole_frac_Frac v))) (by kernel_rfl) ((rn_vec_Whole_frac_Frac b0 b1 l2).trans h)
def as_vec_Whole_frac_Frac : List Shp := [(.isl .i64)]
def ga_vec_Whole_frac_Frac (vs : List PV) : Option (Bool × Bool × List PV) := go_vec_Whole_frac_Frac ((tls 0 vs).headD .nilSl).nl ((tls 0 vs).headD .nilSl).ex ((tls 0 vs).headD .nilSl).ints
theorem at_vec_Whole_frac_Frac : FnAt Try.prog GG 55 as_vec_Whole_frac_Frac ga_vec_Whole_frac_Frac em_vec_Whole_frac_Frac := fun vs h r hr => by
  have e : Shp.buildL as_vec_Whole_frac_Frac vs = [(.isl ((tls 0 vs).headD .nilSl).nl ((tls 0 vs).headD .nilSl).ex .i64 ((tls 0 vs).headD .nilSl).ints)] := by kernel_rfl
  rw [← Shp.buildL_eq _ h, e]
  exact .inl ⟨by decide, ok_vec_Whole_frac_Frac _ _ _ r hr⟩
def xr_vec_Pairs_frac_Frac : XR := (.seq (.ops false [⟨⟨(some 2), (.box 55 (.tmp 0)), none⟩, none⟩, ⟨⟨(some 3), (.box 55 (.tmp 1)), none⟩, none⟩, ⟨⟨(some 4), (.mv (.c .nilFn)), none⟩, none⟩]) (.seq (.ops false [⟨⟨(some 5), (.mkFn 124 [(.tmp 2), (.tmp 3)]), none⟩, none⟩, ⟨⟨(some 4), (.mv (.tmp 5)), none⟩, none⟩]) .ret))
def rs_vec_Pairs_frac_Frac : List ResultVar := [(.tmp 4)]
theorem ir_vec_Pairs_frac_Frac : compCode Try.prog (Try.f120.body.getD .skip) [] = some (xr_vec_Pairs_frac_Frac.erase, []) := by kernel_rfl
def gm_vec_Pairs_frac_Frac : Gam := Gam.bot
theorem gk_vec_Pairs_frac_Frac : GamOk Try.prog GG gm_vec_Pairs_frac_Frac := GamOk.bot
def lm_vec_Pairs_frac_Frac : Lam := fun _ j S kn ke => match j with
  | _ => .fail
def go_vec_Pairs_frac_Frac (b0 : Bool) (b1 : Bool) (es2 : List PV) (b3 : Bool) (b4 : Bool) (es5 : List PV) : Option (Bool × Bool × List PV × Bool × Bool × List PV) :=
  some (b0, b1, es2, b3, b4, es5)
def em_vec_Pairs_frac_Frac (r : (Bool × Bool × List PV × Bool × Bool × List PV)) : PV := (.fn 124 [(.ref 0 [(.sl r.1 r.2.1 3 r.2.2.1)]), (.ref 0 [(.sl r.2.2.2.1 r.2.2.2.2.1 3 r.2.2.2.2.2)])])
def rh_vec_Pairs_frac_Frac : Shp := (.fn 124 [(.ref 0 [(.sl 3)]), (.ref 0 [(.sl 3)])])
def ra_vec_Pairs_frac_Frac (v : PV) : (Bool × Bool × List PV × Bool × Bool × List PV) := (((v.subs.headD .nilSl).subs.headD .nilSl).nl, ((v.subs.headD .nilSl).subs.headD .nilSl).ex, ((v.subs.headD .nilSl).subs.headD .nilSl).elts, ((v.subs.tail.headD .nilSl).subs.headD .nilSl).nl, ((v.subs.tail.headD .nilSl).subs.headD .nilSl).ex, ((v.subs.tail.headD .nilSl).subs.headD .nilSl).elts)
def kf_vec_Pairs_frac_Frac (v : PV) : Tree (Bool × Bool × List PV × Bool × Bool × List PV) := .chk (rh_vec_Pairs_frac_Frac.ok v) (.leaf (ra_vec_Pairs_frac_Frac v))
theorem rn_vec_Pairs_frac_Frac (b0 : Bool) (b1 : Bool) (es2 : List PV) (b3 : Bool) (b4 : Bool) (es5 : List PV) : (ev GG gm_vec_Pairs_frac_Frac lm_vec_Pairs_frac_Frac xr_vec_Pairs_frac_Frac ⟨slots 6 0 [(0, .p (.sl b0 b1 3 es2)), (1, .p (.sl b3 b4 3 es5))], []⟩ (fun S => finT Try.prog rs_vec_Pairs_frac_Frac S kf_vec_Pairs_frac_Frac) (retT Try.prog rs_vec_Pairs_frac_Frac kf_vec_Pairs_frac_Frac)).run = go_vec_Pairs_frac_Frac b0 b1 es2 b3 b4 es5 := by kernel_rfl
theorem ok_vec_Pairs_frac_Frac (b0 : Bool) (b1 : Bool) (es2 : List PV) (b3 : Bool) (b4 : Bool) (es5 : List PV) (r : (Bool × Bool × List PV × Bool × Bool × List PV)) (h : go_vec_Pairs_frac_Frac b0 b1 es2 b3 b4 es5 = some r) : FunEq Try.prog GG 120 [(.sl b0 b1 3 es2), (.sl b3 b4 3 es5)] (em_vec_Pairs_frac_Frac r) :=
  fun_of_ev (x := xr_vec_Pairs_frac_Frac) (Λ := lm_vec_Pairs_frac_Frac) gk_vec_Pairs_frac_Frac [] Try.func120 rfl (by kernel_rfl) ir_vec_Pairs_frac_Frac (by kernel_rfl) (congrArg Array.toList Try.results120) Try.ntmps120 (⟨trivial, ⟨trivial, trivial⟩⟩) (leaf_of fun v => (by kernel_rfl : rh_vec_Pairs_frac_Frac.build v = em_vec_Pairs_frac_Frac (ra_vec_Pairs_frac_Frac v))) (by kernel_rfl) ((rn_vec_Pairs_frac_Frac b0 b1 es2 b3 b4 es5).trans h)
def as_vec_Pairs_frac_Frac : List Shp := [(.sl 3), (.sl 3)]
def ga_vec_Pairs_frac_Frac (vs : List PV) : Option (Bool × Bool × List PV × Bool × Bool × List PV) := go_vec_Pairs_frac_Frac ((tls 0 vs).headD .nilSl).nl ((tls 0 vs).headD .nilSl).ex ((tls 0 vs).headD .nilSl).elts ((tls 1 vs).headD .nilSl).nl ((tls 1 vs).headD .nilSl).ex ((tls 1 vs).headD .nilSl).elts
theorem at_vec_Pairs_frac_Frac : FnAt Try.prog GG 120 as_vec_Pairs_frac_Frac ga_vec_Pairs_frac_Frac em_vec_Pairs_frac_Frac := fun vs h r hr => by
  have e : Shp.buildL as_vec_Pairs_frac_Frac vs = [(.sl ((tls 0 vs).headD .nilSl).nl ((tls 0 vs).headD .nilSl).ex 3 ((tls 0 vs).headD .nilSl).elts), (.sl ((tls 1 vs).headD .nilSl).nl ((tls 1 vs).headD .nilSl).ex 3 ((tls 1 vs).headD .nilSl).elts)] := by kernel_rfl
  rw [← Shp.buildL_eq _ h, e]
  exact .inl ⟨by decide, ok_vec_Pairs_frac_Frac _ _ _ _ _ _ r hr⟩
def xr_frac_Frac_Fine : XR := (.seq (.ops false [⟨⟨(some 1), (.box 58 (.tmp 0)), none⟩, none⟩, ⟨⟨(some 2), (.mv (.c (.bool false))), none⟩, none⟩]) (.seq (.ops true [⟨⟨(some 3), (.fldA 2 (.tmp 1)), none⟩, none⟩, ⟨⟨(some 4), (.ld false 1 (.tmp 3)), none⟩, (some .bool)⟩, ⟨⟨(some 5), (.un .not (.tmp 4)), none⟩, none⟩, ⟨⟨(some 6), (.mv (.tmp 5)), none⟩, none⟩, ⟨⟨(some 7), (.fldA 1 (.tmp 1)), (some (6, true))⟩, none⟩, ⟨⟨(some 8), (.ld false 1 (.tmp 7)), (some (6, true))⟩, (some (.int .i64))⟩, ⟨⟨(some 9), (.bin .geq (.tmp 8) (.c (.int .i64 (1)))), (some (6, true))⟩, none⟩, ⟨⟨(some 10), (.pick (.tmp 6) (.tmp 9) (.c (.bool false))), none⟩, none⟩, ⟨⟨(some 11), (.mv (.tmp 10)), none⟩, none⟩, ⟨⟨(some 12), (.fldA 1 (.tmp 1)), (some (11, true))⟩, none⟩, ⟨⟨(some 13), (.ld false 1 (.tmp 12)), (some (11, true))⟩, (some (.int .i64))⟩, ⟨⟨(some 14), (.bin .leq (.tmp 13) (.c (.int .i64 (1073741824)))), (some (11, true))⟩, none⟩, ⟨⟨(some 15), (.pick (.tmp 11) (.tmp 14) (.c (.bool false))), none⟩, none⟩, ⟨⟨(some 16), (.mv (.tmp 15)), none⟩, none⟩, ⟨⟨(some 17), (.fldA 0 (.tmp 1)), (some (16, true))⟩, none⟩, ⟨⟨(some 18), (.ld false 1 (.tmp 17)), (some (16, true))⟩, (some (.int .i64))⟩, ⟨⟨(some 19), (.bin .leq (.tmp 18) (.c (.int .i64 (1073741824)))), (some (16, true))⟩, none⟩, ⟨⟨(some 20), (.pick (.tmp 16) (.tmp 19) (.c (.bool false))), none⟩, none⟩, ⟨⟨(some 21), (.mv (.tmp 20)), none⟩, none⟩, ⟨⟨(some 22), (.fldA 0 (.tmp 1)), (some (21, true))⟩, none⟩, ⟨⟨(some 23), (.ld false 1 (.tmp 22)), (some (21, true))⟩, (some (.int .i64))⟩, ⟨⟨(some 24), (.bin .geq (.tmp 23) (.c (.int .i64 (-1073741824)))), (some (21, true))⟩, none⟩, ⟨⟨(some 25), (.pick (.tmp 21) (.tmp 24) (.c (.bool false))), none⟩, none⟩, ⟨⟨(some 26), (.mv (.tmp 25)), none⟩, none⟩, ⟨⟨(some 27), (.fldA 0 (.tmp 1)), (some (26, true))⟩, none⟩, ⟨⟨(some 28), (.ld false 1 (.tmp 27)), (some (26, true))⟩, (some (.int .i64))⟩, ⟨⟨(some 29), (.fldA 1 (.tmp 1)), (some (26, true))⟩, none⟩, ⟨⟨(some 30), (.ld false 1 (.tmp 29)), (some (26, true))⟩, (some (.int .i64))⟩, ⟨⟨(some 31), (.call (.func 58) [(.tmp 28), (.tmp 30)]), (some (26, true))⟩, none⟩, ⟨⟨(some 32), (.ld true 3 (.tmp 1)), (some (26, true))⟩, (some (.agg [(.int .i64), (.int .i64), .bool]))⟩, ⟨⟨(some 33), (.eqAgg false [(.int .i64), (.int .i64), .bool] (.tmp 31) (.tmp 32)), (some (26, true))⟩, none⟩, ⟨⟨(some 34), (.pick (.tmp 26) (.tmp 33) (.c (.bool false))), none⟩, none⟩, ⟨⟨(some 2), (.mv (.tmp 34)), none⟩, none⟩]) .ret))
def rs_frac_Frac_Fine : List ResultVar := [(.tmp 2)]
theorem ir_frac_Frac_Fine : compCode Try.prog (Try.f97.body.getD .skip) [] = some (xr_frac_Frac_Fine.erase, []) := by kernel_rfl
def gm_frac_Frac_Fine : Gam := (Gam.fn 58 as_frac_New ga_frac_New em_frac_New Gam.bot)
theorem gk_frac_Frac_Fine : GamOk Try.prog GG gm_frac_Frac_Fine := (GamOk.fn at_frac_New GamOk.bot)
def lm_frac_Frac_Fine : Lam := fun _ j S kn ke => match j with
  | _ => .fail
def go_frac_Frac_Fine (n0 : Int) (n1 : Int) (b2 : Bool) : Option Bool :=
  bif (!b2) then
   bif (decide (n1 ≥ 1)) then
    bif (decide (n1 ≤ 1073741824)) then
     bif (decide (n0 ≤ 1073741824)) then
      bif (decide (n0 ≥ (-1073741824))) then
       (go_frac_New n0 n1).bind fun r3 =>
       some ((r3.1 == n0) && ((r3.2.1 == n1) && ((r3.2.2 == b2) && true)))
      else
       some false
     else
      some false
    else
     some false
   else
    some false
  else
   some false
def em_frac_Frac_Fine (r : Bool) : PV := (.bool r)
def rh_frac_Frac_Fine : Shp := .bool
def ra_frac_Frac_Fine (v : PV) : Bool := v.tru
def kf_frac_Frac_Fine (v : PV) : Tree Bool := .chk (rh_frac_Frac_Fine.ok v) (.leaf (ra_frac_Frac_Fine v))
theorem rn_frac_Frac_Fine (n0 : Int) (n1 : Int) (b2 : Bool) : (ev GG gm_frac_Frac_Fine lm_frac_Frac_Fine xr_frac_Frac_Fine ⟨slots 35 0 [(0, .p (.agg [(.int .i64 n0), (.int .i64 n1), (.bool b2)]))], []⟩ (fun S => finT Try.prog rs_frac_Frac_Fine S kf_frac_Frac_Fine) (retT Try.prog rs_frac_Frac_Fine kf_frac_Frac_Fine)).run = go_frac_Frac_Fine n0 n1 b2 := by kernel_rfl
theorem ok_frac_Frac_Fine (n0 : Int) (n1 : Int) (b2 : Bool) (r : Bool) (h : go_frac_Frac_Fine n0 n1 b2 = some r) : FunEq Try.prog GG 97 [(.agg [(.int .i64 n0), (.int .i64 n1), (.bool b2)])] (em_frac_Frac_Fine r) :=
  fun_of_ev (x := xr_frac_Frac_Fine) (Λ := lm_frac_Frac_Fine) gk_frac_Frac_Fine [] Try.func97 rfl (by kernel_rfl) ir_frac_Frac_Fine (by kernel_rfl) (congrArg Array.toList Try.results97) Try.ntmps97 (⟨trivial, ⟨trivial, trivial⟩⟩) (leaf_of fun v => (by kernel_rfl : rh_frac_Frac_Fine.build v = em_frac_Frac_Fine (ra_frac_Frac_Fine v))) (by kernel_rfl) ((rn_frac_Frac_Fine n0 n1 b2).trans h)
def as_frac_Frac_Fine : List Shp := [(.agg [(.int .i64), (.int .i64), .bool])]
def ga_frac_Frac_Fine (vs : List PV) : Option Bool := go_frac_Frac_Fine (((tls 0 vs).headD .nilSl).subs.headD .nilSl).num (((tls 0 vs).headD .nilSl).subs.tail.headD .nilSl).num (((tls 0 vs).headD .nilSl).subs.tail.tail.headD .nilSl).tru
theorem at_frac_Frac_Fine : FnAt Try.prog GG 97 as_frac_Frac_Fine ga_frac_Frac_Fine em_frac_Frac_Fine := fun vs h r hr => by
  have e : Shp.buildL as_frac_Frac_Fine vs = [(.agg [(.int .i64 (((tls 0 vs).headD .nilSl).subs.headD .nilSl).num), (.int .i64 (((tls 0 vs).headD .nilSl).subs.tail.headD .nilSl).num), (.bool (((tls 0 vs).headD .nilSl).subs.tail.tail.headD .nilSl).tru)])] := by kernel_rfl
  rw [← Shp.buildL_eq _ h, e]
  exact .inl ⟨by decide, ok_frac_Frac_Fine _ _ _ r hr⟩
def xr_frac_Frac_Mul_1 : XR := (.seq (.ops false [⟨⟨(some 2), (.mv (.c (.int .i64 (0)))), none⟩, none⟩, ⟨⟨(some 3), (.mv (.c (.int .i64 (0)))), none⟩, none⟩]) (.seq (.ops true [⟨⟨(some 4), (.fldA 0 (.tmp 0)), none⟩, none⟩, ⟨⟨(some 5), (.ld false 1 (.tmp 4)), none⟩, (some (.int .i64))⟩, ⟨⟨(some 6), (.fldA 0 (.tmp 1)), none⟩, none⟩, ⟨⟨(some 7), (.ld false 1 (.tmp 6)), none⟩, (some (.int .i64))⟩, ⟨⟨(some 8), (.bin .mul (.tmp 5) (.tmp 7)), none⟩, none⟩, ⟨⟨(some 9), (.fldA 1 (.tmp 0)), none⟩, none⟩, ⟨⟨(some 10), (.ld false 1 (.tmp 9)), none⟩, (some (.int .i64))⟩, ⟨⟨(some 11), (.fldA 1 (.tmp 1)), none⟩, none⟩, ⟨⟨(some 12), (.ld false 1 (.tmp 11)), none⟩, (some (.int .i64))⟩, ⟨⟨(some 13), (.bin .mul (.tmp 10) (.tmp 12)), none⟩, none⟩, ⟨⟨(some 2), (.mv (.tmp 8)), none⟩, none⟩, ⟨⟨(some 3), (.mv (.tmp 13)), none⟩, none⟩]) .ret))
def rs_frac_Frac_Mul_1 : List ResultVar := [(.tmp 2), (.tmp 3)]
theorem ir_frac_Frac_Mul_1 : compCode Try.prog (Try.f109.body.getD .skip) [] = some (xr_frac_Frac_Mul_1.erase, []) := by kernel_rfl
def gm_frac_Frac_Mul_1 : Gam := Gam.bot
theorem gk_frac_Frac_Mul_1 : GamOk Try.prog GG gm_frac_Frac_Mul_1 := GamOk.bot
def lm_frac_Frac_Mul_1 : Lam := fun _ j S kn ke => match j with
  | _ => .fail
def go_frac_Frac_Mul_1 (n0 : Int) (n1 : Int) (b2 : Bool) (n3 : Int) (n4 : Int) (b5 : Bool) : Option (Int × Int) :=
  some ((IntKind.wrap .i64 (n0 * n3)), (IntKind.wrap .i64 (n1 * n4)))
def em_frac_Frac_Mul_1 (r : (Int × Int)) : PV := (.tup [(.int .i64 r.1), (.int .i64 r.2)])
def rh_frac_Frac_Mul_1 : Shp := (.tup [(.int .i64), (.int .i64)])
def ra_frac_Frac_Mul_1 (v : PV) : (Int × Int) := ((v.subs.headD .nilSl).num, (v.subs.tail.headD .nilSl).num)
def kf_frac_Frac_Mul_1 (v : PV) : Tree (Int × Int) := .chk (rh_frac_Frac_Mul_1.ok v) (.leaf (ra_frac_Frac_Mul_1 v))
theorem rn_frac_Frac_Mul_1 (n0 : Int) (n1 : Int) (b2 : Bool) (n3 : Int) (n4 : Int) (b5 : Bool) : (ev GG gm_frac_Frac_Mul_1 lm_frac_Frac_Mul_1 xr_frac_Frac_Mul_1 ⟨slots 14 0 [(0, .p (.ref 0 [(.int .i64 n0), (.int .i64 n1), (.bool b2)])), (1, .p (.ref 0 [(.int .i64 n3), (.int .i64 n4), (.bool b5)]))], []⟩ (fun S => finT Try.prog rs_frac_Frac_Mul_1 S kf_frac_Frac_Mul_1) (retT Try.prog rs_frac_Frac_Mul_1 kf_frac_Frac_Mul_1)).run = go_frac_Frac_Mul_1 n0 n1 b2 n3 n4 b5 := by kernel_rfl
theorem ok_frac_Frac_Mul_1 (n0 : Int) (n1 : Int) (b2 : Bool) (n3 : Int) (n4 : Int) (b5 : Bool) (r : (Int × Int)) (h : go_frac_Frac_Mul_1 n0 n1 b2 n3 n4 b5 = some r) : FunEq Try.prog GG 109 [(.ref 0 [(.int .i64 n0), (.int .i64 n1), (.bool b2)]), (.ref 0 [(.int .i64 n3), (.int .i64 n4), (.bool b5)])] (em_frac_Frac_Mul_1 r) :=
  fun_of_ev (x := xr_frac_Frac_Mul_1) (Λ := lm_frac_Frac_Mul_1) gk_frac_Frac_Mul_1 [] Try.func109 rfl (by kernel_rfl) ir_frac_Frac_Mul_1 (by kernel_rfl) (congrArg Array.toList Try.results109) Try.ntmps109 (⟨trivial, ⟨trivial, trivial⟩⟩) (leaf_of fun v => (by kernel_rfl : rh_frac_Frac_Mul_1.build v = em_frac_Frac_Mul_1 (ra_frac_Frac_Mul_1 v))) (by kernel_rfl) ((rn_frac_Frac_Mul_1 n0 n1 b2 n3 n4 b5).trans h)
def as_frac_Frac_Mul_1 : List Shp := [(.ref 0 [(.int .i64), (.int .i64), .bool]), (.ref 0 [(.int .i64), (.int .i64), .bool])]
def ga_frac_Frac_Mul_1 (vs : List PV) : Option (Int × Int) := go_frac_Frac_Mul_1 (((tls 0 vs).headD .nilSl).subs.headD .nilSl).num (((tls 0 vs).headD .nilSl).subs.tail.headD .nilSl).num (((tls 0 vs).headD .nilSl).subs.tail.tail.headD .nilSl).tru (((tls 1 vs).headD .nilSl).subs.headD .nilSl).num (((tls 1 vs).headD .nilSl).subs.tail.headD .nilSl).num (((tls 1 vs).headD .nilSl).subs.tail.tail.headD .nilSl).tru
theorem at_frac_Frac_Mul_1 : FnAt Try.prog GG 109 as_frac_Frac_Mul_1 ga_frac_Frac_Mul_1 em_frac_Frac_Mul_1 := fun vs h r hr => by
  have e : Shp.buildL as_frac_Frac_Mul_1 vs = [(.ref 0 [(.int .i64 (((tls 0 vs).headD .nilSl).subs.headD .nilSl).num), (.int .i64 (((tls 0 vs).headD .nilSl).subs.tail.headD .nilSl).num), (.bool (((tls 0 vs).headD .nilSl).subs.tail.tail.headD .nilSl).tru)]), (.ref 0 [(.int .i64 (((tls 1 vs).headD .nilSl).subs.headD .nilSl).num), (.int .i64 (((tls 1 vs).headD .nilSl).subs.tail.headD .nilSl).num), (.bool (((tls 1 vs).headD .nilSl).subs.tail.tail.headD .nilSl).tru)])] := by kernel_rfl
  rw [← Shp.buildL_eq _ h, e]
  exact .inl ⟨by decide, ok_frac_Frac_Mul_1 _ _ _ _ _ _ r hr⟩
def xr_frac_of : XR := (.seq (.ops false [⟨⟨(some 3), (.box 58 (.tmp 0)), none⟩, none⟩, ⟨⟨(some 4), (.box 58 (.tmp 1)), none⟩, none⟩, ⟨⟨(some 6), (.alloc 58 [(.int .i64 (0)), (.int .i64 (0)), (.bool false)]), none⟩, none⟩]) (.seq (.seq (.ops false [⟨⟨(some 7), (.ld true 3 (.tmp 3)), none⟩, (some (.agg [(.int .i64), (.int .i64), .bool]))⟩, ⟨⟨(some 8), (.call (.func 97) [(.tmp 7)]), none⟩, none⟩, ⟨⟨(some 9), (.un .not (.tmp 8)), none⟩, none⟩, ⟨⟨(some 10), (.mv (.tmp 9)), none⟩, none⟩, ⟨⟨(some 11), (.ld true 3 (.tmp 4)), (some (10, false))⟩, (some (.agg [(.int .i64), (.int .i64), .bool]))⟩, ⟨⟨(some 12), (.call (.func 97) [(.tmp 11)]), (some (10, false))⟩, none⟩, ⟨⟨(some 13), (.un .not (.tmp 12)), (some (10, false))⟩, none⟩, ⟨⟨(some 14), (.pick (.tmp 10) (.c (.bool true)) (.tmp 13)), none⟩, none⟩]) (.cond (.tmp 14) (.seq (.ops false [⟨⟨(some 15), (.call (.func 98) []), none⟩, none⟩, ⟨⟨none, (.st 3 (.tmp 6) (.tmp 15)), none⟩, none⟩]) .ret) .skip)) (.seq (.ops false [⟨⟨(some 16), (.mv (.tmp 2)), none⟩, none⟩, ⟨⟨(some 17), (.call (.tmp 16) []), none⟩, none⟩, ⟨⟨(some 18), (.ext (.tmp 17) 0), none⟩, none⟩, ⟨⟨(some 19), (.ext (.tmp 17) 1), none⟩, none⟩, ⟨⟨(some 20), (.call (.func 58) [(.tmp 18), (.tmp 19)]), none⟩, none⟩, ⟨⟨none, (.st 3 (.tmp 6) (.tmp 20)), none⟩, none⟩]) .ret)))
def rs_frac_of : List ResultVar := [(.cell 6 58)]
theorem ir_frac_of : compCode Try.prog (Try.f108.body.getD .skip) [] = some (xr_frac_of.erase, []) := by kernel_rfl
def gm_frac_of : Gam := (Gam.fn 97 as_frac_Frac_Fine ga_frac_Frac_Fine em_frac_Frac_Fine (Gam.fn 98 as_frac_Wrong ga_frac_Wrong em_frac_Wrong (Gam.fn 109 as_frac_Frac_Mul_1 ga_frac_Frac_Mul_1 em_frac_Frac_Mul_1 (Gam.fn 58 as_frac_New ga_frac_New em_frac_New Gam.bot))))
theorem gk_frac_of : GamOk Try.prog GG gm_frac_of := (GamOk.fn at_frac_Frac_Fine (GamOk.fn at_frac_Wrong (GamOk.fn at_frac_Frac_Mul_1 (GamOk.fn at_frac_New GamOk.bot))))
def lm_frac_of : Lam := fun _ j S kn ke => match j with
  | _ => .fail
def go_frac_of (n0 : Int) (n1 : Int) (b2 : Bool) (n3 : Int) (n4 : Int) (b5 : Bool) (n6 : Int) (n7 : Int) (b8 : Bool) (n9 : Int) (n10 : Int) (b11 : Bool) : Option (Int × Int × Bool) :=
  (go_frac_Frac_Fine n0 n1 b2).bind fun r12 =>
  bif (!r12) then
   (go_frac_Wrong).bind fun r13 =>
   some (r13.1, r13.2.1, r13.2.2)
  else
   (go_frac_Frac_Fine n3 n4 b5).bind fun r14 =>
   bif (!r14) then
    (go_frac_Wrong).bind fun r15 =>
    some (r15.1, r15.2.1, r15.2.2)
   else
    (go_frac_Frac_Mul_1 n6 n7 b8 n9 n10 b11).bind fun r16 =>
    (go_frac_New r16.1 r16.2).bind fun r17 =>
    some (r17.1, r17.2.1, r17.2.2)
def em_frac_of (r : (Int × Int × Bool)) : PV := (.agg [(.int .i64 r.1), (.int .i64 r.2.1), (.bool r.2.2)])
def rh_frac_of : Shp := (.agg [(.int .i64), (.int .i64), .bool])
def ra_frac_of (v : PV) : (Int × Int × Bool) := ((v.subs.headD .nilSl).num, (v.subs.tail.headD .nilSl).num, (v.subs.tail.tail.headD .nilSl).tru)
def kf_frac_of (v : PV) : Tree (Int × Int × Bool) := .chk (rh_frac_of.ok v) (.leaf (ra_frac_of v))
theorem rn_frac_of (n0 : Int) (n1 : Int) (b2 : Bool) (n3 : Int) (n4 : Int) (b5 : Bool) (n6 : Int) (n7 : Int) (b8 : Bool) (n9 : Int) (n10 : Int) (b11 : Bool) : (ev GG gm_frac_of lm_frac_of xr_frac_of ⟨slots 21 0 [(0, .p (.agg [(.int .i64 n0), (.int .i64 n1), (.bool b2)])), (1, .p (.agg [(.int .i64 n3), (.int .i64 n4), (.bool b5)])), (2, .p (.fn 109 [(.ref 0 [(.int .i64 n6), (.int .i64 n7), (.bool b8)]), (.ref 0 [(.int .i64 n9), (.int .i64 n10), (.bool b11)])]))], []⟩ (fun S => finT Try.prog rs_frac_of S kf_frac_of) (retT Try.prog rs_frac_of kf_frac_of)).run = go_frac_of n0 n1 b2 n3 n4 b5 n6 n7 b8 n9 n10 b11 := by kernel_rfl
theorem ok_frac_of (n0 : Int) (n1 : Int) (b2 : Bool) (n3 : Int) (n4 : Int) (b5 : Bool) (n6 : Int) (n7 : Int) (b8 : Bool) (n9 : Int) (n10 : Int) (b11 : Bool) (r : (Int × Int × Bool)) (h : go_frac_of n0 n1 b2 n3 n4 b5 n6 n7 b8 n9 n10 b11 = some r) : FunEq Try.prog GG 108 [(.agg [(.int .i64 n0), (.int .i64 n1), (.bool b2)]), (.agg [(.int .i64 n3), (.int .i64 n4), (.bool b5)]), (.fn 109 [(.ref 0 [(.int .i64 n6), (.int .i64 n7), (.bool b8)]), (.ref 0 [(.int .i64 n9), (.int .i64 n10), (.bool b11)])])] (em_frac_of r) :=
  fun_of_ev (x := xr_frac_of) (Λ := lm_frac_of) gk_frac_of [] Try.func108 rfl (by kernel_rfl) ir_frac_of (by kernel_rfl) (congrArg Array.toList Try.results108) Try.ntmps108 (⟨trivial, ⟨⟨trivial, ⟨⟨trivial, trivial⟩, trivial⟩⟩, ⟨trivial, trivial⟩⟩⟩) (leaf_of fun v => (by kernel_rfl : rh_frac_of.build v = em_frac_of (ra_frac_of v))) (by kernel_rfl) ((rn_frac_of n0 n1 b2 n3 n4 b5 n6 n7 b8 n9 n10 b11).trans h)
def as_frac_of : List Shp := [(.agg [(.int .i64), (.int .i64), .bool]), (.agg [(.int .i64), (.int .i64), .bool]), (.fn 109 [(.ref 0 [(.int .i64), (.int .i64), .bool]), (.ref 0 [(.int .i64), (.int .i64), .bool])])]
def ga_frac_of (vs : List PV) : Option (Int × Int × Bool) := go_frac_of (((tls 0 vs).headD .nilSl).subs.headD .nilSl).num (((tls 0 vs).headD .nilSl).subs.tail.headD .nilSl).num (((tls 0 vs).headD .nilSl).subs.tail.tail.headD .nilSl).tru (((tls 1 vs).headD .nilSl).subs.headD .nilSl).num (((tls 1 vs).headD .nilSl).subs.tail.headD .nilSl).num (((tls 1 vs).headD .nilSl).subs.tail.tail.headD .nilSl).tru ((((tls 2 vs).headD .nilSl).subs.headD .nilSl).subs.headD .nilSl).num ((((tls 2 vs).headD .nilSl).subs.headD .nilSl).subs.tail.headD .nilSl).num ((((tls 2 vs).headD .nilSl).subs.headD .nilSl).subs.tail.tail.headD .nilSl).tru ((((tls 2 vs).headD .nilSl).subs.tail.headD .nilSl).subs.headD .nilSl).num ((((tls 2 vs).headD .nilSl).subs.tail.headD .nilSl).subs.tail.headD .nilSl).num ((((tls 2 vs).headD .nilSl).subs.tail.headD .nilSl).subs.tail.tail.headD .nilSl).tru
theorem at_frac_of : FnAt Try.prog GG 108 as_frac_of ga_frac_of em_frac_of := fun vs h r hr => by
  have e : Shp.buildL as_frac_of vs = [(.agg [(.int .i64 (((tls 0 vs).headD .nilSl).subs.headD .nilSl).num), (.int .i64 (((tls 0 vs).headD .nilSl).subs.tail.headD .nilSl).num), (.bool (((tls 0 vs).headD .nilSl).subs.tail.tail.headD .nilSl).tru)]), (.agg [(.int .i64 (((tls 1 vs).headD .nilSl).subs.headD .nilSl).num), (.int .i64 (((tls 1 vs).headD .nilSl).subs.tail.headD .nilSl).num), (.bool (((tls 1 vs).headD .nilSl).subs.tail.tail.headD .nilSl).tru)]), (.fn 109 [(.ref 0 [(.int .i64 ((((tls 2 vs).headD .nilSl).subs.headD .nilSl).subs.headD .nilSl).num), (.int .i64 ((((tls 2 vs).headD .nilSl).subs.headD .nilSl).subs.tail.headD .nilSl).num), (.bool ((((tls 2 vs).headD .nilSl).subs.headD .nilSl).subs.tail.tail.headD .nilSl).tru)]), (.ref 0 [(.int .i64 ((((tls 2 vs).headD .nilSl).subs.tail.headD .nilSl).subs.headD .nilSl).num), (.int .i64 ((((tls 2 vs).headD .nilSl).subs.tail.headD .nilSl).subs.tail.headD .nilSl).num), (.bool ((((tls 2 vs).headD .nilSl).subs.tail.headD .nilSl).subs.tail.tail.headD .nilSl).tru)])])] := by kernel_rfl
  rw [← Shp.buildL_eq _ h, e]
  exact .inl ⟨by decide, ok_frac_of _ _ _ _ _ _ _ _ _ _ _ _ r hr⟩
def xr_frac_Frac_Mul : XR := (.seq (.ops false [⟨⟨(some 2), (.box 58 (.tmp 0)), none⟩, none⟩, ⟨⟨(some 3), (.box 58 (.tmp 1)), none⟩, none⟩, ⟨⟨(some 4), (.alloc 58 [(.int .i64 (0)), (.int .i64 (0)), (.bool false)]), none⟩, none⟩]) (.seq (.ops false [⟨⟨(some 5), (.ld true 3 (.tmp 2)), none⟩, (some (.agg [(.int .i64), (.int .i64), .bool]))⟩, ⟨⟨(some 6), (.ld true 3 (.tmp 3)), none⟩, (some (.agg [(.int .i64), (.int .i64), .bool]))⟩, ⟨⟨(some 7), (.mkFn 109 [(.tmp 2), (.tmp 3)]), none⟩, none⟩, ⟨⟨(some 8), (.call (.func 108) [(.tmp 5), (.tmp 6), (.tmp 7)]), none⟩, none⟩, ⟨⟨none, (.st 3 (.tmp 4) (.tmp 8)), none⟩, none⟩]) .ret))
def rs_frac_Frac_Mul : List ResultVar := [(.cell 4 58)]
theorem ir_frac_Frac_Mul : compCode Try.prog (Try.f69.body.getD .skip) [] = some (xr_frac_Frac_Mul.erase, []) := by kernel_rfl
def gm_frac_Frac_Mul : Gam := (Gam.fn 108 as_frac_of ga_frac_of em_frac_of Gam.bot)
theorem gk_frac_Frac_Mul : GamOk Try.prog GG gm_frac_Frac_Mul := (GamOk.fn at_frac_of GamOk.bot)
def lm_frac_Frac_Mul : Lam := fun _ j S kn ke => match j with
  | _ => .fail
def go_frac_Frac_Mul (n0 : Int) (n1 : Int) (b2 : Bool) (n3 : Int) (n4 : Int) (b5 : Bool) : Option (Int × Int × Bool) :=
  (go_frac_of n0 n1 b2 n3 n4 b5 n0 n1 b2 n3 n4 b5).bind fun r6 =>
  some (r6.1, r6.2.1, r6.2.2)
def em_frac_Frac_Mul (r : (Int × Int × Bool)) : PV := (.agg [(.int .i64 r.1), (.int .i64 r.2.1), (.bool r.2.2)])
def rh_frac_Frac_Mul : Shp := (.agg [(.int .i64), (.int .i64), .bool])
def ra_frac_Frac_Mul (v : PV) : (Int × Int × Bool) := ((v.subs.headD .nilSl).num, (v.subs.tail.headD .nilSl).num, (v.subs.tail.tail.headD .nilSl).tru)
def kf_frac_Frac_Mul (v : PV) : Tree (Int × Int × Bool) := .chk (rh_frac_Frac_Mul.ok v) (.leaf (ra_frac_Frac_Mul v))
theorem rn_frac_Frac_Mul (n0 : Int) (n1 : Int) (b2 : Bool) (n3 : Int) (n4 : Int) (b5 : Bool) : (ev GG gm_frac_Frac_Mul lm_frac_Frac_Mul xr_frac_Frac_Mul ⟨slots 9 0 [(0, .p (.agg [(.int .i64 n0), (.int .i64 n1), (.bool b2)])), (1, .p (.agg [(.int .i64 n3), (.int .i64 n4), (.bool b5)]))], []⟩ (fun S => finT Try.prog rs_frac_Frac_Mul S kf_frac_Frac_Mul) (retT Try.prog rs_frac_Frac_Mul kf_frac_Frac_Mul)).run = go_frac_Frac_Mul n0 n1 b2 n3 n4 b5 := by kernel_rfl
theorem ok_frac_Frac_Mul (n0 : Int) (n1 : Int) (b2 : Bool) (n3 : Int) (n4 : Int) (b5 : Bool) (r : (Int × Int × Bool)) (h : go_frac_Frac_Mul n0 n1 b2 n3 n4 b5 = some r) : FunEq Try.prog GG 69 [(.agg [(.int .i64 n0), (.int .i64 n1), (.bool b2)]), (.agg [(.int .i64 n3), (.int .i64 n4), (.bool b5)])] (em_frac_Frac_Mul r) :=
  fun_of_ev (x := xr_frac_Frac_Mul) (Λ := lm_frac_Frac_Mul) gk_frac_Frac_Mul [] Try.func69 rfl (by kernel_rfl) ir_frac_Frac_Mul (by kernel_rfl) (congrArg Array.toList Try.results69) Try.ntmps69 (⟨trivial, ⟨trivial, trivial⟩⟩) (leaf_of fun v => (by kernel_rfl : rh_frac_Frac_Mul.build v = em_frac_Frac_Mul (ra_frac_Frac_Mul v))) (by kernel_rfl) ((rn_frac_Frac_Mul n0 n1 b2 n3 n4 b5).trans h)
def as_frac_Frac_Mul : List Shp := [(.agg [(.int .i64), (.int .i64), .bool]), (.agg [(.int .i64), (.int .i64), .bool])]
def ga_frac_Frac_Mul (vs : List PV) : Option (Int × Int × Bool) := go_frac_Frac_Mul (((tls 0 vs).headD .nilSl).subs.headD .nilSl).num (((tls 0 vs).headD .nilSl).subs.tail.headD .nilSl).num (((tls 0 vs).headD .nilSl).subs.tail.tail.headD .nilSl).tru (((tls 1 vs).headD .nilSl).subs.headD .nilSl).num (((tls 1 vs).headD .nilSl).subs.tail.headD .nilSl).num (((tls 1 vs).headD .nilSl).subs.tail.tail.headD .nilSl).tru
theorem at_frac_Frac_Mul : FnAt Try.prog GG 69 as_frac_Frac_Mul ga_frac_Frac_Mul em_frac_Frac_Mul := fun vs h r hr => by
  have e : Shp.buildL as_frac_Frac_Mul vs = [(.agg [(.int .i64 (((tls 0 vs).headD .nilSl).subs.headD .nilSl).num), (.int .i64 (((tls 0 vs).headD .nilSl).subs.tail.headD .nilSl).num), (.bool (((tls 0 vs).headD .nilSl).subs.tail.tail.headD .nilSl).tru)]), (.agg [(.int .i64 (((tls 1 vs).headD .nilSl).subs.headD .nilSl).num), (.int .i64 (((tls 1 vs).headD .nilSl).subs.tail.headD .nilSl).num), (.bool (((tls 1 vs).headD .nilSl).subs.tail.tail.headD .nilSl).tru)])] := by kernel_rfl
  rw [← Shp.buildL_eq _ h, e]
  exact .inl ⟨by decide, ok_frac_Frac_Mul _ _ _ _ _ _ r hr⟩
def xr_vec_Dot_frac_Frac_1 : XR := (.seq (.ops false [⟨⟨(some 2), (.box 58 (.tmp 0)), none⟩, none⟩, ⟨⟨(some 3), (.box 58 (.tmp 1)), none⟩, none⟩, ⟨⟨(some 4), (.alloc 58 [(.int .i64 (0)), (.int .i64 (0)), (.bool false)]), none⟩, none⟩]) (.seq (.ops false [⟨⟨(some 5), (.ld true 3 (.tmp 2)), none⟩, (some (.agg [(.int .i64), (.int .i64), .bool]))⟩, ⟨⟨(some 6), (.mkI 58 (.tmp 5)), none⟩, none⟩, ⟨⟨(some 7), (.ld true 3 (.tmp 3)), none⟩, (some (.agg [(.int .i64), (.int .i64), .bool]))⟩, ⟨⟨(some 8), (.callI 69 58 (.tmp 6) [(.tmp 7)]), none⟩, none⟩, ⟨⟨none, (.st 3 (.tmp 4) (.tmp 8)), none⟩, none⟩]) .ret))
def rs_vec_Dot_frac_Frac_1 : List ResultVar := [(.cell 4 58)]
theorem ir_vec_Dot_frac_Frac_1 : compCode Try.prog (Try.f101.body.getD .skip) [] = some (xr_vec_Dot_frac_Frac_1.erase, []) := by kernel_rfl
def gm_vec_Dot_frac_Frac_1 : Gam := (Gam.fn 69 as_frac_Frac_Mul ga_frac_Frac_Mul em_frac_Frac_Mul Gam.bot)
theorem gk_vec_Dot_frac_Frac_1 : GamOk Try.prog GG gm_vec_Dot_frac_Frac_1 := (GamOk.fn at_frac_Frac_Mul GamOk.bot)
def lm_vec_Dot_frac_Frac_1 : Lam := fun _ j S kn ke => match j with
  | _ => .fail
def go_vec_Dot_frac_Frac_1 (n0 : Int) (n1 : Int) (b2 : Bool) (n3 : Int) (n4 : Int) (b5 : Bool) : Option (Int × Int × Bool) :=
  (go_frac_Frac_Mul n0 n1 b2 n3 n4 b5).bind fun r6 =>
  some (r6.1, r6.2.1, r6.2.2)
def em_vec_Dot_frac_Frac_1 (r : (Int × Int × Bool)) : PV := (.agg [(.int .i64 r.1), (.int .i64 r.2.1), (.bool r.2.2)])
def rh_vec_Dot_frac_Frac_1 : Shp := (.agg [(.int .i64), (.int .i64), .bool])
def ra_vec_Dot_frac_Frac_1 (v : PV) : (Int × Int × Bool) := ((v.subs.headD .nilSl).num, (v.subs.tail.headD .nilSl).num, (v.subs.tail.tail.headD .nilSl).tru)
def kf_vec_Dot_frac_Frac_1 (v : PV) : Tree (Int × Int × Bool) := .chk (rh_vec_Dot_frac_Frac_1.ok v) (.leaf (ra_vec_Dot_frac_Frac_1 v))
theorem rn_vec_Dot_frac_Frac_1 (n0 : Int) (n1 : Int) (b2 : Bool) (n3 : Int) (n4 : Int) (b5 : Bool) : (ev GG gm_vec_Dot_frac_Frac_1 lm_vec_Dot_frac_Frac_1 xr_vec_Dot_frac_Frac_1 ⟨slots 9 0 [(0, .p (.agg [(.int .i64 n0), (.int .i64 n1), (.bool b2)])), (1, .p (.agg [(.int .i64 n3), (.int .i64 n4), (.bool b5)]))], []⟩ (fun S => finT Try.prog rs_vec_Dot_frac_Frac_1 S kf_vec_Dot_frac_Frac_1) (retT Try.prog rs_vec_Dot_frac_Frac_1 kf_vec_Dot_frac_Frac_1)).run = go_vec_Dot_frac_Frac_1 n0 n1 b2 n3 n4 b5 := by kernel_rfl
theorem ok_vec_Dot_frac_Frac_1 (n0 : Int) (n1 : Int) (b2 : Bool) (n3 : Int) (n4 : Int) (b5 : Bool) (r : (Int × Int × Bool)) (h : go_vec_Dot_frac_Frac_1 n0 n1 b2 n3 n4 b5 = some r) : FunEq Try.prog GG 101 [(.agg [(.int .i64 n0), (.int .i64 n1), (.bool b2)]), (.agg [(.int .i64 n3), (.int .i64 n4), (.bool b5)])] (em_vec_Dot_frac_Frac_1 r) :=
  fun_of_ev (x := xr_vec_Dot_frac_Frac_1) (Λ := lm_vec_Dot_frac_Frac_1) gk_vec_Dot_frac_Frac_1 [] Try.func101 rfl (by kernel_rfl) ir_vec_Dot_frac_Frac_1 (by kernel_rfl) (congrArg Array.toList Try.results101) Try.ntmps101 (⟨trivial, ⟨trivial, trivial⟩⟩) (leaf_of fun v => (by kernel_rfl : rh_vec_Dot_frac_Frac_1.build v = em_vec_Dot_frac_Frac_1 (ra_vec_Dot_frac_Frac_1 v))) (by kernel_rfl) ((rn_vec_Dot_frac_Frac_1 n0 n1 b2 n3 n4 b5).trans h)
def as_vec_Dot_frac_Frac_1 : List Shp := [(.agg [(.int .i64), (.int .i64), .bool]), (.agg [(.int .i64), (.int .i64), .bool])]
def ga_vec_Dot_frac_Frac_1 (vs : List PV) : Option (Int × Int × Bool) := go_vec_Dot_frac_Frac_1 (((tls 0 vs).headD .nilSl).subs.headD .nilSl).num (((tls 0 vs).headD .nilSl).subs.tail.headD .nilSl).num (((tls 0 vs).headD .nilSl).subs.tail.tail.headD .nilSl).tru (((tls 1 vs).headD .nilSl).subs.headD .nilSl).num (((tls 1 vs).headD .nilSl).subs.tail.headD .nilSl).num (((tls 1 vs).headD .nilSl).subs.tail.tail.headD .nilSl).tru
theorem at_vec_Dot_frac_Frac_1 : FnAt Try.prog GG 101 as_vec_Dot_frac_Frac_1 ga_vec_Dot_frac_Frac_1 em_vec_Dot_frac_Frac_1 := fun vs h r hr => by
  have e : Shp.buildL as_vec_Dot_frac_Frac_1 vs = [(.agg [(.int .i64 (((tls 0 vs).headD .nilSl).subs.headD .nilSl).num), (.int .i64 (((tls 0 vs).headD .nilSl).subs.tail.headD .nilSl).num), (.bool (((tls 0 vs).headD .nilSl).subs.tail.tail.headD .nilSl).tru)]), (.agg [(.int .i64 (((tls 1 vs).headD .nilSl).subs.headD .nilSl).num), (.int .i64 (((tls 1 vs).headD .nilSl).subs.tail.headD .nilSl).num), (.bool (((tls 1 vs).headD .nilSl).subs.tail.tail.headD .nilSl).tru)])] := by kernel_rfl
  rw [← Shp.buildL_eq _ h, e]
  exact .inl ⟨by decide, ok_vec_Dot_frac_Frac_1 _ _ _ _ _ _ r hr⟩
def xf_vec_of_frac_Frac_0 : Opd := (.tmp 12)
def xa_vec_of_frac_Frac_0 : XR := (.seq (.ops false [⟨⟨(some 8), (.alloc 58 [(.int .i64 (0)), (.int .i64 (0)), (.bool false)]), none⟩, none⟩, ⟨⟨none, (.st 3 (.tmp 8) (.tmp 13)), none⟩, none⟩]) (.ops false [⟨⟨(some 9), (.alloc 58 [(.int .i64 (0)), (.int .i64 (0)), (.bool false)]), none⟩, none⟩, ⟨⟨none, (.st 3 (.tmp 9) (.tmp 14)), none⟩, none⟩]))
def xb_vec_of_frac_Frac_0 : XR := (.block 1 (.ops true [⟨⟨(some 15), (.ld false 1 (.tmp 7)), none⟩, (some (.sl 3))⟩, ⟨⟨(some 16), (.ld false 1 (.tmp 5)), none⟩, none⟩, ⟨⟨(some 17), (.ld true 3 (.tmp 8)), none⟩, (some (.agg [(.int .i64), (.int .i64), .bool]))⟩, ⟨⟨(some 18), (.ld true 3 (.tmp 9)), none⟩, (some (.agg [(.int .i64), (.int .i64), .bool]))⟩, ⟨⟨(some 19), (.call (.tmp 16) [(.tmp 17), (.tmp 18)]), none⟩, none⟩, ⟨⟨(some 20), (.bsl 58 none 3 [(.tmp 19)]), none⟩, none⟩, ⟨⟨(some 21), (.app 58 none 3 24 (.tmp 15) (.tmp 20)), none⟩, none⟩, ⟨⟨none, (.st 1 (.tmp 7) (.tmp 21)), none⟩, none⟩]))
def xr_vec_of_frac_Frac : XR := (.seq (.ops false [⟨⟨(some 5), (.box 99 (.tmp 2)), none⟩, none⟩, ⟨⟨(some 6), (.mv (.c (.sl true true 3 []))), none⟩, none⟩]) (.seq (.ops false [⟨⟨(some 7), (.alloc 55 [(.sl true true 3 [])]), none⟩, none⟩]) (.seq (.seq (.ops false [⟨⟨(some 10), (.mv (.tmp 0)), none⟩, none⟩, ⟨⟨(some 11), (.mv (.tmp 1)), none⟩, none⟩, ⟨⟨(some 12), (.call (.func 120) [(.tmp 10), (.tmp 11)]), none⟩, none⟩]) (.block 0 (.range 0 [5, 7, 12] xf_vec_of_frac_Frac_0 [13, 14] xa_vec_of_frac_Frac_0 xb_vec_of_frac_Frac_0))) (.seq (.ops false [⟨⟨(some 22), (.ld false 1 (.tmp 7)), none⟩, (some (.sl 3))⟩, ⟨⟨(some 6), (.mv (.tmp 22)), none⟩, none⟩]) .ret))))
def rs_vec_of_frac_Frac : List ResultVar := [(.tmp 6)]
theorem ir_vec_of_frac_Frac : compCode Try.prog (Try.f100.body.getD .skip) [] = some (xr_vec_of_frac_Frac.erase, []) := by kernel_rfl
def gm_vec_of_frac_Frac : Gam := (Gam.fn 120 as_vec_Pairs_frac_Frac ga_vec_Pairs_frac_Frac em_vec_Pairs_frac_Frac (Gam.fn 101 as_vec_Dot_frac_Frac_1 ga_vec_Dot_frac_Frac_1 em_vec_Dot_frac_Frac_1 Gam.bot))
theorem gk_vec_of_frac_Frac : GamOk Try.prog GG gm_vec_of_frac_Frac := (GamOk.fn at_vec_Pairs_frac_Frac (GamOk.fn at_vec_Dot_frac_Frac_1 GamOk.bot))
def it_vec_of_frac_Frac_0 (b7 : Bool) (b8 : Bool) (es9 : List PV) (b10 : Bool) (b11 : Bool) (es12 : List PV) (b13 : Bool) (b14 : Bool) (es15 : List PV) : Option (List (Int × Int × Bool × Int × Int × Bool)) := it_pairspF b7 b8 es9 b10 b11 es12
def cp_vec_of_frac_Frac_0 (b7 : Bool) (b8 : Bool) (es9 : List PV) (b10 : Bool) (b11 : Bool) (es12 : List PV) (b13 : Bool) (b14 : Bool) (es15 : List PV) : List PV := [(.ref 0 [(.sl b7 b8 3 es9)]), (.ref 0 [(.sl b10 b11 3 es12)])]
def st_vec_of_frac_Frac_0 (b7 : Bool) (b8 : Bool) (es9 : List PV) (b10 : Bool) (b11 : Bool) (es12 : List PV) (b13 : Bool) (b14 : Bool) (es15 : List PV) (u16 : (Int × Int × Bool × Int × Int × Bool)) : Option (((Bool × Bool × List PV × Bool × Bool × List PV × Bool × Bool × List PV)) ⊕ (Unit)) :=
  (go_vec_Dot_frac_Frac_1 u16.1 u16.2.1 u16.2.2.1 u16.2.2.2.1 u16.2.2.2.2.1 u16.2.2.2.2.2).bind fun r17 =>
  bif (decide ((((List.length es15) + 1) * 24) ≤ 140737488355328)) then
   bif (decide (((List.length es15) + 1) ≤ 4611686018427387904)) then
    some (Sum.inl (b7, b8, es9, b10, b11, es12, (b13 && false), false, (es15 ++ [(.agg [(.int .i64 r17.1), (.int .i64 r17.2.1), (.bool r17.2.2)])])))
   else none
  else none
def lp_vec_of_frac_Frac_0 (b7 : Bool) (b8 : Bool) (es9 : List PV) (b10 : Bool) (b11 : Bool) (es12 : List PV) (b13 : Bool) (b14 : Bool) (es15 : List PV) : Option (((Bool × Bool × List PV × Bool × Bool × List PV × Bool × Bool × List PV)) ⊕ (Unit)) := (it_vec_of_frac_Frac_0 b7 b8 es9 b10 b11 es12 b13 b14 es15).bind fun is => foldS (X := (Bool × Bool × List PV × Bool × Bool × List PV × Bool × Bool × List PV)) (fun x i => st_vec_of_frac_Frac_0 x.1 x.2.1 x.2.2.1 x.2.2.2.1 x.2.2.2.2.1 x.2.2.2.2.2.1 x.2.2.2.2.2.2.1 x.2.2.2.2.2.2.2.1 x.2.2.2.2.2.2.2.2 i) is (b7, b8, es9, b10, b11, es12, b13, b14, es15)
def sh_vec_of_frac_Frac_0 : StSh := ⟨23, [(5, (.ptr 0 0)), (7, (.ptr 1 0)), (12, (.p (.fn 124 [(.ref 0 [(.sl 3)]), (.ref 0 [(.sl 3)])])))], [(.box 99 [(.p (.fn 101 []))]), (.box 55 [(.row 2)]), (.row 58 3)]⟩
def sx_vec_of_frac_Frac_0 (x : (Bool × Bool × List PV × Bool × Bool × List PV × Bool × Bool × List PV)) : St := ⟨slots 23 0 [(5, (.ptr 0 0)), (7, (.ptr 1 0)), (12, (.p (.fn 124 [(.ref 0 [(.sl x.1 x.2.1 3 x.2.2.1)]), (.ref 0 [(.sl x.2.2.2.1 x.2.2.2.2.1 3 x.2.2.2.2.2.1)])])))], [(.box 99 [(.p (.fn 101 []))]), (.box 55 [(.row 2)]), (.row 58 3 x.2.2.2.2.2.2.1 x.2.2.2.2.2.2.2.1 x.2.2.2.2.2.2.2.2)]⟩
def sa_vec_of_frac_Frac_0 (S : St) : (Bool × Bool × List PV × Bool × Bool × List PV × Bool × Bool × List PV) := (((((tls 12 S.t).headD .any).pv.subs.headD .nilSl).subs.headD .nilSl).nl, ((((tls 12 S.t).headD .any).pv.subs.headD .nilSl).subs.headD .nilSl).ex, ((((tls 12 S.t).headD .any).pv.subs.headD .nilSl).subs.headD .nilSl).elts, ((((tls 12 S.t).headD .any).pv.subs.tail.headD .nilSl).subs.headD .nilSl).nl, ((((tls 12 S.t).headD .any).pv.subs.tail.headD .nilSl).subs.headD .nilSl).ex, ((((tls 12 S.t).headD .any).pv.subs.tail.headD .nilSl).subs.headD .nilSl).elts, ((tls 2 S.own).headD .gone).pvD.nl, ((tls 2 S.own).headD .gone).pvD.ex, ((tls 2 S.own).headD .gone).pvD.elts)
def kb_vec_of_frac_Frac_0 : Exit → St → Tree (((Bool × Bool × List PV × Bool × Bool × List PV × Bool × Bool × List PV)) ⊕ (Unit)) := exNil
def ky_vec_of_frac_Frac_0 : Dec (Unit) := fun _ y ke => .fail
theorem kk_vec_of_frac_Frac_0 : ExOk Sum.inr kb_vec_of_frac_Frac_0 ky_vec_of_frac_Frac_0 := ExOk.nil
def lm_vec_of_frac_Frac : Lam := fun _ j S kn ke => match j with
  | 0 => prepT [5, 7, 12] [(100700, 58)] S fun S => .chk (sh_vec_of_frac_Frac_0.ok S) (.bind ((fun x => (it_vec_of_frac_Frac_0 x.1 x.2.1 x.2.2.1 x.2.2.2.1 x.2.2.2.2.1 x.2.2.2.2.2.1 x.2.2.2.2.2.2.1 x.2.2.2.2.2.2.2.1 x.2.2.2.2.2.2.2.2).bind fun is => foldS (X := (Bool × Bool × List PV × Bool × Bool × List PV × Bool × Bool × List PV)) (fun x i => st_vec_of_frac_Frac_0 x.1 x.2.1 x.2.2.1 x.2.2.2.1 x.2.2.2.2.1 x.2.2.2.2.2.1 x.2.2.2.2.2.2.1 x.2.2.2.2.2.2.2.1 x.2.2.2.2.2.2.2.2 i) is x) (sa_vec_of_frac_Frac_0 S)) fun r => .sum r (fun x => kn (sx_vec_of_frac_Frac_0 x)) (fun y => ky_vec_of_frac_Frac_0 _ y ke))
  | _ => .fail
theorem sr_vec_of_frac_Frac_0 (x : (Bool × Bool × List PV × Bool × Bool × List PV × Bool × Bool × List PV)) (i : (Int × Int × Bool × Int × Int × Bool)) : (ev GG gm_vec_of_frac_Frac lm_vec_of_frac_Frac xa_vec_of_frac_Frac_0 ⟨setL (sx_vec_of_frac_Frac_0 x).t [13, 14] (ie_pairspF i), (sx_vec_of_frac_Frac_0 x).own⟩ (fun S1 => ev GG gm_vec_of_frac_Frac lm_vec_of_frac_Frac xb_vec_of_frac_Frac_0 S1 (fun S => forgetT [5, 7, 12] ⟨(sx_vec_of_frac_Frac_0 x).t, S.own⟩ fun S => prepT [5, 7, 12] [(100700, 58)] S fun S => .chk (sh_vec_of_frac_Frac_0.ok S) (.leaf (.inl (sa_vec_of_frac_Frac_0 S)))) (fun e S => kb_vec_of_frac_Frac_0 e ⟨(sx_vec_of_frac_Frac_0 x).t, S.own⟩)) (fun _ _ => .fail)).run = st_vec_of_frac_Frac_0 x.1 x.2.1 x.2.2.1 x.2.2.2.1 x.2.2.2.2.1 x.2.2.2.2.2.1 x.2.2.2.2.2.2.1 x.2.2.2.2.2.2.2.1 x.2.2.2.2.2.2.2.2 i := by kernel_rfl
theorem la_vec_of_frac_Frac_0 : LamAt Try.prog GG lm_vec_of_frac_Frac 0 (.rangeF xf_vec_of_frac_Frac_0 [13, 14] xa_vec_of_frac_Frac_0.erase xb_vec_of_frac_Frac_0.erase) := lam_range (asg := xa_vec_of_frac_Frac_0) (bdy := xb_vec_of_frac_Frac_0) (Λ0 := lm_vec_of_frac_Frac) gk_vec_of_frac_Frac (by kernel_rfl) (by kernel_rfl) (fun S => (by kernel_rfl : sh_vec_of_frac_Frac_0.build S = sx_vec_of_frac_Frac_0 (sa_vec_of_frac_Frac_0 S))) (caps := fun x => cp_vec_of_frac_Frac_0 x.1 x.2.1 x.2.2.1 x.2.2.2.1 x.2.2.2.2.1 x.2.2.2.2.2.1 x.2.2.2.2.2.2.1 x.2.2.2.2.2.2.2.1 x.2.2.2.2.2.2.2.2) (fun x => (by kernel_rfl : evS GG (sx_vec_of_frac_Frac_0 x) xf_vec_of_frac_Frac_0 = .p (.fn 124 (cp_vec_of_frac_Frac_0 x.1 x.2.1 x.2.2.1 x.2.2.2.1 x.2.2.2.2.1 x.2.2.2.2.2.1 x.2.2.2.2.2.2.1 x.2.2.2.2.2.2.2.1 x.2.2.2.2.2.2.2.2)))) (its := fun x => it_vec_of_frac_Frac_0 x.1 x.2.1 x.2.2.1 x.2.2.2.1 x.2.2.2.2.1 x.2.2.2.2.2.1 x.2.2.2.2.2.2.1 x.2.2.2.2.2.2.2.1 x.2.2.2.2.2.2.2.2) (emb := ie_pairspF) (fun i => rfl) (fun x is h => sq_pairspF _ _ _ _ _ _ is h) (step := fun x i => st_vec_of_frac_Frac_0 x.1 x.2.1 x.2.2.1 x.2.2.2.1 x.2.2.2.2.1 x.2.2.2.2.2.1 x.2.2.2.2.2.2.1 x.2.2.2.2.2.2.2.1 x.2.2.2.2.2.2.2.2 i) kk_vec_of_frac_Frac_0 sr_vec_of_frac_Frac_0 (fun _ _ _ => rfl)
def go_vec_of_frac_Frac (b0 : Bool) (b1 : Bool) (es2 : List PV) (b3 : Bool) (b4 : Bool) (es5 : List PV) : Option (Bool × Bool × List PV) :=
  (go_vec_Pairs_frac_Frac b0 b1 es2 b3 b4 es5).bind fun r6 =>
  (lp_vec_of_frac_Frac_0 r6.1 r6.2.1 r6.2.2.1 r6.2.2.2.1 r6.2.2.2.2.1 r6.2.2.2.2.2 true true []).bind fun y18 =>
  Sum.elim (fun z19 =>
   some (z19.2.2.2.2.2.2.1, z19.2.2.2.2.2.2.2.1, z19.2.2.2.2.2.2.2.2)) (fun u_ =>
   none) y18
def em_vec_of_frac_Frac (r : (Bool × Bool × List PV)) : PV := (.sl r.1 r.2.1 3 r.2.2)
def rh_vec_of_frac_Frac : Shp := (.sl 3)
def ra_vec_of_frac_Frac (v : PV) : (Bool × Bool × List PV) := (v.nl, v.ex, v.elts)
def kf_vec_of_frac_Frac (v : PV) : Tree (Bool × Bool × List PV) := .chk (rh_vec_of_frac_Frac.ok v) (.leaf (ra_vec_of_frac_Frac v))
theorem rn_vec_of_frac_Frac (b0 : Bool) (b1 : Bool) (es2 : List PV) (b3 : Bool) (b4 : Bool) (es5 : List PV) : (ev GG gm_vec_of_frac_Frac lm_vec_of_frac_Frac xr_vec_of_frac_Frac ⟨slots 23 0 [(0, .p (.sl b0 b1 3 es2)), (1, .p (.sl b3 b4 3 es5)), (2, .p (.fn 101 []))], []⟩ (fun S => finT Try.prog rs_vec_of_frac_Frac S kf_vec_of_frac_Frac) (retT Try.prog rs_vec_of_frac_Frac kf_vec_of_frac_Frac)).run = go_vec_of_frac_Frac b0 b1 es2 b3 b4 es5 := by kernel_rfl
theorem ok_vec_of_frac_Frac (b0 : Bool) (b1 : Bool) (es2 : List PV) (b3 : Bool) (b4 : Bool) (es5 : List PV) (r : (Bool × Bool × List PV)) (h : go_vec_of_frac_Frac b0 b1 es2 b3 b4 es5 = some r) : FunEq Try.prog GG 100 [(.sl b0 b1 3 es2), (.sl b3 b4 3 es5), (.fn 101 [])] (em_vec_of_frac_Frac r) :=
  fun_of_ev (x := xr_vec_of_frac_Frac) (Λ := lm_vec_of_frac_Frac) gk_vec_of_frac_Frac [] Try.func100 rfl (by kernel_rfl) ir_vec_of_frac_Frac (by kernel_rfl) (congrArg Array.toList Try.results100) Try.ntmps100 (⟨trivial, ⟨trivial, ⟨⟨trivial, la_vec_of_frac_Frac_0⟩, ⟨trivial, trivial⟩⟩⟩⟩) (leaf_of fun v => (by kernel_rfl : rh_vec_of_frac_Frac.build v = em_vec_of_frac_Frac (ra_vec_of_frac_Frac v))) (by kernel_rfl) ((rn_vec_of_frac_Frac b0 b1 es2 b3 b4 es5).trans h)
def as_vec_of_frac_Frac : List Shp := [(.sl 3), (.sl 3), (.fn 101 [])]
def ga_vec_of_frac_Frac (vs : List PV) : Option (Bool × Bool × List PV) := go_vec_of_frac_Frac ((tls 0 vs).headD .nilSl).nl ((tls 0 vs).headD .nilSl).ex ((tls 0 vs).headD .nilSl).elts ((tls 1 vs).headD .nilSl).nl ((tls 1 vs).headD .nilSl).ex ((tls 1 vs).headD .nilSl).elts
theorem at_vec_of_frac_Frac : FnAt Try.prog GG 100 as_vec_of_frac_Frac ga_vec_of_frac_Frac em_vec_of_frac_Frac := fun vs h r hr => by
  have e : Shp.buildL as_vec_of_frac_Frac vs = [(.sl ((tls 0 vs).headD .nilSl).nl ((tls 0 vs).headD .nilSl).ex 3 ((tls 0 vs).headD .nilSl).elts), (.sl ((tls 1 vs).headD .nilSl).nl ((tls 1 vs).headD .nilSl).ex 3 ((tls 1 vs).headD .nilSl).elts), (.fn 101 [])] := by kernel_rfl
  rw [← Shp.buildL_eq _ h, e]
  exact .inl ⟨by decide, ok_vec_of_frac_Frac _ _ _ _ _ _ r hr⟩
def xr_frac_Frac_Add : XR := (.seq (.ops false [⟨⟨(some 2), (.box 58 (.tmp 0)), none⟩, none⟩, ⟨⟨(some 3), (.box 58 (.tmp 1)), none⟩, none⟩, ⟨⟨(some 4), (.alloc 58 [(.int .i64 (0)), (.int .i64 (0)), (.bool false)]), none⟩, none⟩]) (.seq (.seq (.ops false [⟨⟨(some 8), (.ld true 3 (.tmp 2)), none⟩, (some (.agg [(.int .i64), (.int .i64), .bool]))⟩, ⟨⟨(some 9), (.call (.func 97) [(.tmp 8)]), none⟩, none⟩, ⟨⟨(some 10), (.un .not (.tmp 9)), none⟩, none⟩, ⟨⟨(some 11), (.mv (.tmp 10)), none⟩, none⟩, ⟨⟨(some 12), (.ld true 3 (.tmp 3)), (some (11, false))⟩, (some (.agg [(.int .i64), (.int .i64), .bool]))⟩, ⟨⟨(some 13), (.call (.func 97) [(.tmp 12)]), (some (11, false))⟩, none⟩, ⟨⟨(some 14), (.un .not (.tmp 13)), (some (11, false))⟩, none⟩, ⟨⟨(some 15), (.pick (.tmp 11) (.c (.bool true)) (.tmp 14)), none⟩, none⟩]) (.cond (.tmp 15) (.seq (.ops false [⟨⟨(some 16), (.call (.func 98) []), none⟩, none⟩, ⟨⟨none, (.st 3 (.tmp 4) (.tmp 16)), none⟩, none⟩]) .ret) .skip)) (.seq (.ops true [⟨⟨(some 17), (.fldA 0 (.tmp 2)), none⟩, none⟩, ⟨⟨(some 18), (.ld false 1 (.tmp 17)), none⟩, (some (.int .i64))⟩, ⟨⟨(some 19), (.fldA 1 (.tmp 3)), none⟩, none⟩, ⟨⟨(some 20), (.ld false 1 (.tmp 19)), none⟩, (some (.int .i64))⟩, ⟨⟨(some 21), (.bin .mul (.tmp 18) (.tmp 20)), none⟩, none⟩, ⟨⟨(some 22), (.fldA 0 (.tmp 3)), none⟩, none⟩, ⟨⟨(some 23), (.ld false 1 (.tmp 22)), none⟩, (some (.int .i64))⟩, ⟨⟨(some 24), (.fldA 1 (.tmp 2)), none⟩, none⟩, ⟨⟨(some 25), (.ld false 1 (.tmp 24)), none⟩, (some (.int .i64))⟩, ⟨⟨(some 26), (.bin .mul (.tmp 23) (.tmp 25)), none⟩, none⟩, ⟨⟨(some 27), (.bin .add (.tmp 21) (.tmp 26)), none⟩, none⟩, ⟨⟨(some 28), (.fldA 1 (.tmp 2)), none⟩, none⟩, ⟨⟨(some 29), (.ld false 1 (.tmp 28)), none⟩, (some (.int .i64))⟩, ⟨⟨(some 30), (.fldA 1 (.tmp 3)), none⟩, none⟩, ⟨⟨(some 31), (.ld false 1 (.tmp 30)), none⟩, (some (.int .i64))⟩, ⟨⟨(some 32), (.bin .mul (.tmp 29) (.tmp 31)), none⟩, none⟩, ⟨⟨(some 5), (.mv (.tmp 27)), none⟩, none⟩, ⟨⟨(some 6), (.mv (.tmp 32)), none⟩, none⟩]) (.seq (.ops false [⟨⟨(some 33), (.mv (.tmp 5)), none⟩, none⟩, ⟨⟨(some 34), (.mv (.tmp 6)), none⟩, none⟩, ⟨⟨(some 35), (.call (.func 99) [(.tmp 33), (.tmp 34)]), none⟩, none⟩, ⟨⟨(some 7), (.mv (.tmp 35)), none⟩, none⟩]) (.seq (.ops true [⟨⟨(some 36), (.mv (.tmp 5)), none⟩, none⟩, ⟨⟨(some 37), (.mv (.tmp 7)), none⟩, none⟩, ⟨⟨(some 38), (.bin .quo (.tmp 36) (.tmp 37)), none⟩, none⟩, ⟨⟨(some 39), (.mv (.tmp 6)), none⟩, none⟩, ⟨⟨(some 40), (.mv (.tmp 7)), none⟩, none⟩, ⟨⟨(some 41), (.bin .quo (.tmp 39) (.tmp 40)), none⟩, none⟩, ⟨⟨(some 42), (.call (.func 58) [(.tmp 38), (.tmp 41)]), none⟩, none⟩, ⟨⟨none, (.st 3 (.tmp 4) (.tmp 42)), none⟩, none⟩]) .ret)))))
def rs_frac_Frac_Add : List ResultVar := [(.cell 4 58)]
theorem ir_frac_Frac_Add : compCode Try.prog (Try.f57.body.getD .skip) [] = some (xr_frac_Frac_Add.erase, []) := by kernel_rfl
def gm_frac_Frac_Add : Gam := (Gam.fn 97 as_frac_Frac_Fine ga_frac_Frac_Fine em_frac_Frac_Fine (Gam.fn 98 as_frac_Wrong ga_frac_Wrong em_frac_Wrong (Gam.fn 99 as_frac_common ga_frac_common em_frac_common (Gam.fn 58 as_frac_New ga_frac_New em_frac_New Gam.bot))))
theorem gk_frac_Frac_Add : GamOk Try.prog GG gm_frac_Frac_Add := (GamOk.fn at_frac_Frac_Fine (GamOk.fn at_frac_Wrong (GamOk.fn at_frac_common (GamOk.fn at_frac_New GamOk.bot))))
def lm_frac_Frac_Add : Lam := fun _ j S kn ke => match j with
  | _ => .fail
def go_frac_Frac_Add (n0 : Int) (n1 : Int) (b2 : Bool) (n3 : Int) (n4 : Int) (b5 : Bool) : Option (Int × Int × Bool) :=
  (go_frac_Frac_Fine n0 n1 b2).bind fun r6 =>
  bif (!r6) then
   (go_frac_Wrong).bind fun r7 =>
   some (r7.1, r7.2.1, r7.2.2)
  else
   (go_frac_Frac_Fine n3 n4 b5).bind fun r8 =>
   bif (!r8) then
    (go_frac_Wrong).bind fun r9 =>
    some (r9.1, r9.2.1, r9.2.2)
   else
    (go_frac_common (IntKind.wrap .i64 ((IntKind.wrap .i64 (n0 * n4)) + (IntKind.wrap .i64 (n3 * n1)))) (IntKind.wrap .i64 (n1 * n4))).bind fun r10 =>
    bif (decide (r10 ≠ 0)) then
     bif (decide (r10 ≠ 0)) then
      (go_frac_New (IntKind.wrap .i64 (Int.tdiv (IntKind.wrap .i64 ((IntKind.wrap .i64 (n0 * n4)) + (IntKind.wrap .i64 (n3 * n1)))) r10)) (IntKind.wrap .i64 (Int.tdiv (IntKind.wrap .i64 (n1 * n4)) r10))).bind fun r11 =>
      some (r11.1, r11.2.1, r11.2.2)
     else none
    else none
def em_frac_Frac_Add (r : (Int × Int × Bool)) : PV := (.agg [(.int .i64 r.1), (.int .i64 r.2.1), (.bool r.2.2)])
def rh_frac_Frac_Add : Shp := (.agg [(.int .i64), (.int .i64), .bool])
def ra_frac_Frac_Add (v : PV) : (Int × Int × Bool) := ((v.subs.headD .nilSl).num, (v.subs.tail.headD .nilSl).num, (v.subs.tail.tail.headD .nilSl).tru)
def kf_frac_Frac_Add (v : PV) : Tree (Int × Int × Bool) := .chk (rh_frac_Frac_Add.ok v) (.leaf (ra_frac_Frac_Add v))
theorem rn_frac_Frac_Add (n0 : Int) (n1 : Int) (b2 : Bool) (n3 : Int) (n4 : Int) (b5 : Bool) : (ev GG gm_frac_Frac_Add lm_frac_Frac_Add xr_frac_Frac_Add ⟨slots 43 0 [(0, .p (.agg [(.int .i64 n0), (.int .i64 n1), (.bool b2)])), (1, .p (.agg [(.int .i64 n3), (.int .i64 n4), (.bool b5)]))], []⟩ (fun S => finT Try.prog rs_frac_Frac_Add S kf_frac_Frac_Add) (retT Try.prog rs_frac_Frac_Add kf_frac_Frac_Add)).run = go_frac_Frac_Add n0 n1 b2 n3 n4 b5 := by kernel_rfl
theorem ok_frac_Frac_Add (n0 : Int) (n1 : Int) (b2 : Bool) (n3 : Int) (n4 : Int) (b5 : Bool) (r : (Int × Int × Bool)) (h : go_frac_Frac_Add n0 n1 b2 n3 n4 b5 = some r) : FunEq Try.prog GG 57 [(.agg [(.int .i64 n0), (.int .i64 n1), (.bool b2)]), (.agg [(.int .i64 n3), (.int .i64 n4), (.bool b5)])] (em_frac_Frac_Add r) :=
  fun_of_ev (x := xr_frac_Frac_Add) (Λ := lm_frac_Frac_Add) gk_frac_Frac_Add [] Try.func57 rfl (by kernel_rfl) ir_frac_Frac_Add (by kernel_rfl) (congrArg Array.toList Try.results57) Try.ntmps57 (⟨trivial, ⟨⟨trivial, ⟨⟨trivial, trivial⟩, trivial⟩⟩, ⟨trivial, ⟨trivial, ⟨trivial, trivial⟩⟩⟩⟩⟩) (leaf_of fun v => (by kernel_rfl : rh_frac_Frac_Add.build v = em_frac_Frac_Add (ra_frac_Frac_Add v))) (by kernel_rfl) ((rn_frac_Frac_Add n0 n1 b2 n3 n4 b5).trans h)
def as_frac_Frac_Add : List Shp := [(.agg [(.int .i64), (.int .i64), .bool]), (.agg [(.int .i64), (.int .i64), .bool])]
def ga_frac_Frac_Add (vs : List PV) : Option (Int × Int × Bool) := go_frac_Frac_Add (((tls 0 vs).headD .nilSl).subs.headD .nilSl).num (((tls 0 vs).headD .nilSl).subs.tail.headD .nilSl).num (((tls 0 vs).headD .nilSl).subs.tail.tail.headD .nilSl).tru (((tls 1 vs).headD .nilSl).subs.headD .nilSl).num (((tls 1 vs).headD .nilSl).subs.tail.headD .nilSl).num (((tls 1 vs).headD .nilSl).subs.tail.tail.headD .nilSl).tru
theorem at_frac_Frac_Add : FnAt Try.prog GG 57 as_frac_Frac_Add ga_frac_Frac_Add em_frac_Frac_Add := fun vs h r hr => by
  have e : Shp.buildL as_frac_Frac_Add vs = [(.agg [(.int .i64 (((tls 0 vs).headD .nilSl).subs.headD .nilSl).num), (.int .i64 (((tls 0 vs).headD .nilSl).subs.tail.headD .nilSl).num), (.bool (((tls 0 vs).headD .nilSl).subs.tail.tail.headD .nilSl).tru)]), (.agg [(.int .i64 (((tls 1 vs).headD .nilSl).subs.headD .nilSl).num), (.int .i64 (((tls 1 vs).headD .nilSl).subs.tail.headD .nilSl).num), (.bool (((tls 1 vs).headD .nilSl).subs.tail.tail.headD .nilSl).tru)])] := by kernel_rfl
  rw [← Shp.buildL_eq _ h, e]
  exact .inl ⟨by decide, ok_frac_Frac_Add _ _ _ _ _ _ r hr⟩
def xb_vec_Sum_frac_Frac_0 : XR := (.seq (.ops false [⟨⟨(some 13), (.bin .lss (.tmp 12) (.tmp 11)), none⟩, none⟩]) (.seq (.cond (.tmp 13) .skip (.exit 0)) (.seq (.block 1 (.seq (.ops false [⟨⟨(some 14), (.ixA 3 (.tmp 10) (.tmp 12)), none⟩, none⟩, ⟨⟨(some 15), (.ld true 3 (.tmp 14)), none⟩, (some (.agg [(.int .i64), (.int .i64), .bool]))⟩, ⟨⟨(some 6), (.alloc 58 [(.int .i64 (0)), (.int .i64 (0)), (.bool false)]), none⟩, none⟩, ⟨⟨none, (.st 3 (.tmp 6) (.tmp 15)), none⟩, none⟩]) (.ops false [⟨⟨(some 16), (.ld true 3 (.tmp 4)), none⟩, (some (.agg [(.int .i64), (.int .i64), .bool]))⟩, ⟨⟨(some 17), (.mkI 58 (.tmp 16)), none⟩, none⟩, ⟨⟨(some 18), (.ld true 3 (.tmp 6)), none⟩, (some (.agg [(.int .i64), (.int .i64), .bool]))⟩, ⟨⟨(some 19), (.callI 57 58 (.tmp 17) [(.tmp 18)]), none⟩, none⟩, ⟨⟨none, (.st 3 (.tmp 4) (.tmp 19)), none⟩, none⟩]))) (.ops false [⟨⟨(some 20), (.bin .add (.tmp 12) (.c (.int .i64 (1)))), none⟩, none⟩, ⟨⟨(some 12), (.mv (.tmp 20)), none⟩, none⟩]))))
def xr_vec_Sum_frac_Frac : XR := (.seq (.ops false [⟨⟨(some 2), (.alloc 58 [(.int .i64 (0)), (.int .i64 (0)), (.bool false)]), none⟩, none⟩]) (.seq (.ops false [⟨⟨(some 3), (.alloc 58 [(.int .i64 (0)), (.int .i64 (0)), (.bool false)]), none⟩, none⟩]) (.seq (.ops false [⟨⟨(some 7), (.ld true 3 (.tmp 3)), none⟩, (some (.agg [(.int .i64), (.int .i64), .bool]))⟩, ⟨⟨(some 8), (.mkI 58 (.tmp 7)), none⟩, none⟩, ⟨⟨(some 9), (.callI 140 58 (.tmp 8) [(.c (.int .i64 (0)))]), none⟩, none⟩, ⟨⟨(some 4), (.alloc 58 [(.int .i64 (0)), (.int .i64 (0)), (.bool false)]), none⟩, none⟩, ⟨⟨none, (.st 3 (.tmp 4) (.tmp 9)), none⟩, none⟩]) (.seq (.seq (.ops false [⟨⟨(some 10), (.mv (.tmp 0)), none⟩, none⟩, ⟨⟨(some 11), (.len (.tmp 10)), none⟩, none⟩, ⟨⟨(some 12), (.mv (.c (.int .i64 (0)))), none⟩, none⟩]) (.block 0 (.loop 0 [2, 4, 10, 11, 12] xb_vec_Sum_frac_Frac_0))) (.seq (.ops false [⟨⟨(some 21), (.ld true 3 (.tmp 4)), none⟩, (some (.agg [(.int .i64), (.int .i64), .bool]))⟩, ⟨⟨none, (.st 3 (.tmp 2) (.tmp 21)), none⟩, none⟩]) .ret)))))
def rs_vec_Sum_frac_Frac : List ResultVar := [(.cell 2 58)]
theorem ir_vec_Sum_frac_Frac : compCode Try.prog (Try.f56.body.getD .skip) [[2, 4, 10, 11, 12]] = some (xr_vec_Sum_frac_Frac.erase, []) := by kernel_rfl
def gm_vec_Sum_frac_Frac : Gam := (Gam.fn 140 as_frac_Frac_Of ga_frac_Frac_Of em_frac_Frac_Of (Gam.fn 57 as_frac_Frac_Add ga_frac_Frac_Add em_frac_Frac_Add Gam.bot))
theorem gk_vec_Sum_frac_Frac : GamOk Try.prog GG gm_vec_Sum_frac_Frac := (GamOk.fn at_frac_Frac_Of (GamOk.fn at_frac_Frac_Add GamOk.bot))
def st_vec_Sum_frac_Frac_0 (b4 : Bool) (b5 : Bool) (es6 : List PV) (n7 : Int) (n8 : Int) (n9 : Int) (n10 : Int) (b11 : Bool) (n12 : Int) (n13 : Int) (b14 : Bool) : Option (((Bool × Bool × List PV × Int × Int × Int × Int × Bool × Int × Int × Bool)) ⊕ (((Int × Int × Bool × Int × Int × Bool)))) :=
  bif (decide (n8 < n7)) then
   bif (decide (0 ≤ n8)) then
    bif (decide (n8 < (((List.length es6) : Nat) : Int))) then
     bif (decide ((Int.toNat n8) < (List.length es6))) then
      bif (decide ((List.length (PV.cells (List.getD es6 (Int.toNat n8) .nilSl))) = 3)) then
       bif (Shp.ok (.agg [(.int .i64), (.int .i64), .bool]) (.agg (PV.cells (List.getD es6 (Int.toNat n8) .nilSl)))) then
        (go_frac_Frac_Add n12 n13 b14 (PV.num (List.headD (PV.subs (.agg (PV.cells (List.getD es6 (Int.toNat n8) .nilSl)))) .nilSl)) (PV.num (List.headD (List.tail (PV.subs (.agg (PV.cells (List.getD es6 (Int.toNat n8) .nilSl))))) .nilSl)) (PV.tru (List.headD (List.tail (List.tail (PV.subs (.agg (PV.cells (List.getD es6 (Int.toNat n8) .nilSl)))))) .nilSl))).bind fun r15 =>
        some (Sum.inl (b4, b5, es6, n7, (IntKind.wrap .i64 (n8 + 1)), n9, n10, b11, r15.1, r15.2.1, r15.2.2))
       else none
      else none
     else none
    else none
   else none
  else
   some (Sum.inr (n9, n10, b11, n12, n13, b14))
def lp_vec_Sum_frac_Frac_0 (b4 : Bool) (b5 : Bool) (es6 : List PV) (n7 : Int) (n8 : Int) (n9 : Int) (n10 : Int) (b11 : Bool) (n12 : Int) (n13 : Int) (b14 : Bool) : Option (((Int × Int × Bool × Int × Int × Bool))) := loopN (X := (Bool × Bool × List PV × Int × Int × Int × Int × Bool × Int × Int × Bool)) (fun x => st_vec_Sum_frac_Frac_0 x.1 x.2.1 x.2.2.1 x.2.2.2.1 x.2.2.2.2.1 x.2.2.2.2.2.1 x.2.2.2.2.2.2.1 x.2.2.2.2.2.2.2.1 x.2.2.2.2.2.2.2.2.1 x.2.2.2.2.2.2.2.2.2.1 x.2.2.2.2.2.2.2.2.2.2) (b4, b5, es6, n7, n8, n9, n10, b11, n12, n13, b14)
def sh_vec_Sum_frac_Frac_0 : StSh := ⟨22, [(2, (.ptr 0 0)), (4, (.ptr 1 0)), (10, (.p (.sl 3))), (11, (.p (.int .i64))), (12, (.p (.int .i64)))], [(.box 58 [(.p (.int .i64)), (.p (.int .i64)), (.p .bool)]), (.box 58 [(.p (.int .i64)), (.p (.int .i64)), (.p .bool)])]⟩
def sx_vec_Sum_frac_Frac_0 (x : (Bool × Bool × List PV × Int × Int × Int × Int × Bool × Int × Int × Bool)) : St := ⟨slots 22 0 [(2, (.ptr 0 0)), (4, (.ptr 1 0)), (10, (.p (.sl x.1 x.2.1 3 x.2.2.1))), (11, (.p (.int .i64 x.2.2.2.1))), (12, (.p (.int .i64 x.2.2.2.2.1)))], [(.box 58 [(.p (.int .i64 x.2.2.2.2.2.1)), (.p (.int .i64 x.2.2.2.2.2.2.1)), (.p (.bool x.2.2.2.2.2.2.2.1))]), (.box 58 [(.p (.int .i64 x.2.2.2.2.2.2.2.2.1)), (.p (.int .i64 x.2.2.2.2.2.2.2.2.2.1)), (.p (.bool x.2.2.2.2.2.2.2.2.2.2))])]⟩
def sa_vec_Sum_frac_Frac_0 (S : St) : (Bool × Bool × List PV × Int × Int × Int × Int × Bool × Int × Int × Bool) := (((tls 10 S.t).headD .any).pv.nl, ((tls 10 S.t).headD .any).pv.ex, ((tls 10 S.t).headD .any).pv.elts, ((tls 11 S.t).headD .any).pv.num, ((tls 12 S.t).headD .any).pv.num, (((tls 0 S.own).headD .gone).subs.headD .any).pv.num, (((tls 0 S.own).headD .gone).subs.tail.headD .any).pv.num, (((tls 0 S.own).headD .gone).subs.tail.tail.headD .any).pv.tru, (((tls 1 S.own).headD .gone).subs.headD .any).pv.num, (((tls 1 S.own).headD .gone).subs.tail.headD .any).pv.num, (((tls 1 S.own).headD .gone).subs.tail.tail.headD .any).pv.tru)
def tz_vec_Sum_frac_Frac_0_0 : StSh := ⟨22, [(2, (.ptr 0 0)), (4, (.ptr 1 0))], [(.box 58 [(.p (.int .i64)), (.p (.int .i64)), (.p .bool)]), (.box 58 [(.p (.int .i64)), (.p (.int .i64)), (.p .bool)])]⟩
def tx_vec_Sum_frac_Frac_0_0 (x : (Int × Int × Bool × Int × Int × Bool)) : St := ⟨slots 22 0 [(2, (.ptr 0 0)), (4, (.ptr 1 0))], [(.box 58 [(.p (.int .i64 x.1)), (.p (.int .i64 x.2.1)), (.p (.bool x.2.2.1))]), (.box 58 [(.p (.int .i64 x.2.2.2.1)), (.p (.int .i64 x.2.2.2.2.1)), (.p (.bool x.2.2.2.2.2))])]⟩
def ta_vec_Sum_frac_Frac_0_0 (S : St) : (Int × Int × Bool × Int × Int × Bool) := ((((tls 0 S.own).headD .gone).subs.headD .any).pv.num, (((tls 0 S.own).headD .gone).subs.tail.headD .any).pv.num, (((tls 0 S.own).headD .gone).subs.tail.tail.headD .any).pv.tru, (((tls 1 S.own).headD .gone).subs.headD .any).pv.num, (((tls 1 S.own).headD .gone).subs.tail.headD .any).pv.num, (((tls 1 S.own).headD .gone).subs.tail.tail.headD .any).pv.tru)
def kb_vec_Sum_frac_Frac_0 : Exit → St → Tree (((Bool × Bool × List PV × Int × Int × Int × Int × Bool × Int × Int × Bool)) ⊕ (((Int × Int × Bool × Int × Int × Bool)))) := (exOne (.exit 0) [2, 4] tz_vec_Sum_frac_Frac_0_0 ta_vec_Sum_frac_Frac_0_0 (fun y => Sum.inr (y)) exNil)
def ky_vec_Sum_frac_Frac_0 : Dec (((Int × Int × Bool × Int × Int × Bool))) := fun _ y ke => ke ((.exit 0) : EK).ex (tx_vec_Sum_frac_Frac_0_0 y)
theorem kk_vec_Sum_frac_Frac_0 : ExOk Sum.inr kb_vec_Sum_frac_Frac_0 ky_vec_Sum_frac_Frac_0 := (ExOk.one (acc := ta_vec_Sum_frac_Frac_0_0) (bY := tx_vec_Sum_frac_Frac_0_0) (inj1 := fun y => y) (fun S => by kernel_rfl) (fun y _ ke => .inr (by kernel_rfl)) ExOk.nil)
def lm_vec_Sum_frac_Frac : Lam := fun _ j S kn ke => match j with
  | 0 => prepT [2, 4, 10, 11, 12] [] S fun S => .chk (sh_vec_Sum_frac_Frac_0.ok S) (.bind (loopN (fun x => st_vec_Sum_frac_Frac_0 x.1 x.2.1 x.2.2.1 x.2.2.2.1 x.2.2.2.2.1 x.2.2.2.2.2.1 x.2.2.2.2.2.2.1 x.2.2.2.2.2.2.2.1 x.2.2.2.2.2.2.2.2.1 x.2.2.2.2.2.2.2.2.2.1 x.2.2.2.2.2.2.2.2.2.2) (sa_vec_Sum_frac_Frac_0 S)) fun y => ky_vec_Sum_frac_Frac_0 _ y ke)
  | _ => .fail
theorem sr_vec_Sum_frac_Frac_0 (x : (Bool × Bool × List PV × Int × Int × Int × Int × Bool × Int × Int × Bool)) : (ev GG gm_vec_Sum_frac_Frac lm_vec_Sum_frac_Frac xb_vec_Sum_frac_Frac_0 (sx_vec_Sum_frac_Frac_0 x) (fun S => forgetT [2, 4, 10, 11, 12] S fun S => prepT [2, 4, 10, 11, 12] [] S fun S => .chk (sh_vec_Sum_frac_Frac_0.ok S) (.leaf (.inl (sa_vec_Sum_frac_Frac_0 S)))) kb_vec_Sum_frac_Frac_0).run = st_vec_Sum_frac_Frac_0 x.1 x.2.1 x.2.2.1 x.2.2.2.1 x.2.2.2.2.1 x.2.2.2.2.2.1 x.2.2.2.2.2.2.1 x.2.2.2.2.2.2.2.1 x.2.2.2.2.2.2.2.2.1 x.2.2.2.2.2.2.2.2.2.1 x.2.2.2.2.2.2.2.2.2.2 := by kernel_rfl
theorem la_vec_Sum_frac_Frac_0 : LamAt Try.prog GG lm_vec_Sum_frac_Frac 0 (.loop [2, 4, 10, 11, 12] xb_vec_Sum_frac_Frac_0.erase) := lam_loop (body := xb_vec_Sum_frac_Frac_0) (Λ' := lm_vec_Sum_frac_Frac) gk_vec_Sum_frac_Frac (⟨trivial, ⟨⟨trivial, trivial⟩, ⟨⟨trivial, trivial⟩, trivial⟩⟩⟩) (fun S => (by kernel_rfl : sh_vec_Sum_frac_Frac_0.build S = sx_vec_Sum_frac_Frac_0 (sa_vec_Sum_frac_Frac_0 S))) kk_vec_Sum_frac_Frac_0 sr_vec_Sum_frac_Frac_0 (fun _ _ _ => rfl)
def go_vec_Sum_frac_Frac (b0 : Bool) (b1 : Bool) (es2 : List PV) : Option (Int × Int × Bool) :=
  (go_frac_Frac_Of 0 0 false 0).bind fun r3 =>
  (lp_vec_Sum_frac_Frac_0 b0 b1 es2 (((List.length es2) : Nat) : Int) 0 0 0 false r3.1 r3.2.1 r3.2.2).bind fun y16 =>
  some (y16.2.2.2.1, y16.2.2.2.2.1, y16.2.2.2.2.2)
def em_vec_Sum_frac_Frac (r : (Int × Int × Bool)) : PV := (.agg [(.int .i64 r.1), (.int .i64 r.2.1), (.bool r.2.2)])
def rh_vec_Sum_frac_Frac : Shp := (.agg [(.int .i64), (.int .i64), .bool])
def ra_vec_Sum_frac_Frac (v : PV) : (Int × Int × Bool) := ((v.subs.headD .nilSl).num, (v.subs.tail.headD .nilSl).num, (v.subs.tail.tail.headD .nilSl).tru)
def kf_vec_Sum_frac_Frac (v : PV) : Tree (Int × Int × Bool) := .chk (rh_vec_Sum_frac_Frac.ok v) (.leaf (ra_vec_Sum_frac_Frac v))
theorem rn_vec_Sum_frac_Frac (b0 : Bool) (b1 : Bool) (es2 : List PV) : (ev GG gm_vec_Sum_frac_Frac lm_vec_Sum_frac_Frac xr_vec_Sum_frac_Frac ⟨slots 22 0 [(0, .p (.sl b0 b1 3 es2))], []⟩ (fun S => finT Try.prog rs_vec_Sum_frac_Frac S kf_vec_Sum_frac_Frac) (retT Try.prog rs_vec_Sum_frac_Frac kf_vec_Sum_frac_Frac)).run = go_vec_Sum_frac_Frac b0 b1 es2 := by kernel_rfl
theorem ok_vec_Sum_frac_Frac (b0 : Bool) (b1 : Bool) (es2 : List PV) (r : (Int × Int × Bool)) (h : go_vec_Sum_frac_Frac b0 b1 es2 = some r) : FunEq Try.prog GG 56 [(.sl b0 b1 3 es2)] (em_vec_Sum_frac_Frac r) :=
  fun_of_ev (x := xr_vec_Sum_frac_Frac) (Λ := lm_vec_Sum_frac_Frac) gk_vec_Sum_frac_Frac [[2, 4, 10, 11, 12]] Try.func56 rfl (by kernel_rfl) ir_vec_Sum_frac_Frac (by kernel_rfl) (congrArg Array.toList Try.results56) Try.ntmps56 (⟨trivial, ⟨trivial, ⟨trivial, ⟨⟨trivial, la_vec_Sum_frac_Frac_0⟩, ⟨trivial, trivial⟩⟩⟩⟩⟩) (leaf_of fun v => (by kernel_rfl : rh_vec_Sum_frac_Frac.build v = em_vec_Sum_frac_Frac (ra_vec_Sum_frac_Frac v))) (by kernel_rfl) ((rn_vec_Sum_frac_Frac b0 b1 es2).trans h)
def as_vec_Sum_frac_Frac : List Shp := [(.sl 3)]
def ga_vec_Sum_frac_Frac (vs : List PV) : Option (Int × Int × Bool) := go_vec_Sum_frac_Frac ((tls 0 vs).headD .nilSl).nl ((tls 0 vs).headD .nilSl).ex ((tls 0 vs).headD .nilSl).elts
theorem at_vec_Sum_frac_Frac : FnAt Try.prog GG 56 as_vec_Sum_frac_Frac ga_vec_Sum_frac_Frac em_vec_Sum_frac_Frac := fun vs h r hr => by
  have e : Shp.buildL as_vec_Sum_frac_Frac vs = [(.sl ((tls 0 vs).headD .nilSl).nl ((tls 0 vs).headD .nilSl).ex 3 ((tls 0 vs).headD .nilSl).elts)] := by kernel_rfl
  rw [← Shp.buildL_eq _ h, e]
  exact .inl ⟨by decide, ok_vec_Sum_frac_Frac _ _ _ r hr⟩
def xr_vec_Dot_frac_Frac : XR := (.seq (.ops false [⟨⟨(some 4), (.alloc 58 [(.int .i64 (0)), (.int .i64 (0)), (.bool false)]), none⟩, none⟩]) (.seq (.ops false [⟨⟨(some 5), (.mv (.tmp 0)), none⟩, none⟩, ⟨⟨(some 6), (.mv (.tmp 1)), none⟩, none⟩, ⟨⟨(some 7), (.call (.func 100) [(.tmp 5), (.tmp 6), (.func 101)]), none⟩, none⟩, ⟨⟨(some 8), (.call (.func 56) [(.tmp 7)]), none⟩, none⟩, ⟨⟨none, (.st 3 (.tmp 4) (.tmp 8)), none⟩, none⟩]) .ret))
def rs_vec_Dot_frac_Frac : List ResultVar := [(.cell 4 58)]
theorem ir_vec_Dot_frac_Frac : compCode Try.prog (Try.f59.body.getD .skip) [] = some (xr_vec_Dot_frac_Frac.erase, []) := by kernel_rfl
def gm_vec_Dot_frac_Frac : Gam := (Gam.fn 100 as_vec_of_frac_Frac ga_vec_of_frac_Frac em_vec_of_frac_Frac (Gam.fn 56 as_vec_Sum_frac_Frac ga_vec_Sum_frac_Frac em_vec_Sum_frac_Frac Gam.bot))
theorem gk_vec_Dot_frac_Frac : GamOk Try.prog GG gm_vec_Dot_frac_Frac := (GamOk.fn at_vec_of_frac_Frac (GamOk.fn at_vec_Sum_frac_Frac GamOk.bot))
def lm_vec_Dot_frac_Frac : Lam := fun _ j S kn ke => match j with
  | _ => .fail
def go_vec_Dot_frac_Frac (b0 : Bool) (b1 : Bool) (es2 : List PV) (b3 : Bool) (b4 : Bool) (es5 : List PV) : Option (Int × Int × Bool) :=
  (go_vec_of_frac_Frac b0 b1 es2 b3 b4 es5).bind fun r6 =>
  (go_vec_Sum_frac_Frac r6.1 r6.2.1 r6.2.2).bind fun r7 =>
  some (r7.1, r7.2.1, r7.2.2)
def em_vec_Dot_frac_Frac (r : (Int × Int × Bool)) : PV := (.agg [(.int .i64 r.1), (.int .i64 r.2.1), (.bool r.2.2)])
def rh_vec_Dot_frac_Frac : Shp := (.agg [(.int .i64), (.int .i64), .bool])
def ra_vec_Dot_frac_Frac (v : PV) : (Int × Int × Bool) := ((v.subs.headD .nilSl).num, (v.subs.tail.headD .nilSl).num, (v.subs.tail.tail.headD .nilSl).tru)
def kf_vec_Dot_frac_Frac (v : PV) : Tree (Int × Int × Bool) := .chk (rh_vec_Dot_frac_Frac.ok v) (.leaf (ra_vec_Dot_frac_Frac v))
theorem rn_vec_Dot_frac_Frac (b0 : Bool) (b1 : Bool) (es2 : List PV) (b3 : Bool) (b4 : Bool) (es5 : List PV) : (ev GG gm_vec_Dot_frac_Frac lm_vec_Dot_frac_Frac xr_vec_Dot_frac_Frac ⟨slots 9 0 [(0, .p (.sl b0 b1 3 es2)), (1, .p (.sl b3 b4 3 es5))], []⟩ (fun S => finT Try.prog rs_vec_Dot_frac_Frac S kf_vec_Dot_frac_Frac) (retT Try.prog rs_vec_Dot_frac_Frac kf_vec_Dot_frac_Frac)).run = go_vec_Dot_frac_Frac b0 b1 es2 b3 b4 es5 := by kernel_rfl
theorem ok_vec_Dot_frac_Frac (b0 : Bool) (b1 : Bool) (es2 : List PV) (b3 : Bool) (b4 : Bool) (es5 : List PV) (r : (Int × Int × Bool)) (h : go_vec_Dot_frac_Frac b0 b1 es2 b3 b4 es5 = some r) : FunEq Try.prog GG 59 [(.sl b0 b1 3 es2), (.sl b3 b4 3 es5)] (em_vec_Dot_frac_Frac r) :=
  fun_of_ev (x := xr_vec_Dot_frac_Frac) (Λ := lm_vec_Dot_frac_Frac) gk_vec_Dot_frac_Frac [] Try.func59 rfl (by kernel_rfl) ir_vec_Dot_frac_Frac (by kernel_rfl) (congrArg Array.toList Try.results59) Try.ntmps59 (⟨trivial, ⟨trivial, trivial⟩⟩) (leaf_of fun v => (by kernel_rfl : rh_vec_Dot_frac_Frac.build v = em_vec_Dot_frac_Frac (ra_vec_Dot_frac_Frac v))) (by kernel_rfl) ((rn_vec_Dot_frac_Frac b0 b1 es2 b3 b4 es5).trans h)
def as_vec_Dot_frac_Frac : List Shp := [(.sl 3), (.sl 3)]
def ga_vec_Dot_frac_Frac (vs : List PV) : Option (Int × Int × Bool) := go_vec_Dot_frac_Frac ((tls 0 vs).headD .nilSl).nl ((tls 0 vs).headD .nilSl).ex ((tls 0 vs).headD .nilSl).elts ((tls 1 vs).headD .nilSl).nl ((tls 1 vs).headD .nilSl).ex ((tls 1 vs).headD .nilSl).elts
theorem at_vec_Dot_frac_Frac : FnAt Try.prog GG 59 as_vec_Dot_frac_Frac ga_vec_Dot_frac_Frac em_vec_Dot_frac_Frac := fun vs h r hr => by
  have e : Shp.buildL as_vec_Dot_frac_Frac vs = [(.sl ((tls 0 vs).headD .nilSl).nl ((tls 0 vs).headD .nilSl).ex 3 ((tls 0 vs).headD .nilSl).elts), (.sl ((tls 1 vs).headD .nilSl).nl ((tls 1 vs).headD .nilSl).ex 3 ((tls 1 vs).headD .nilSl).elts)] := by kernel_rfl
  rw [← Shp.buildL_eq _ h, e]
  exact .inl ⟨by decide, ok_vec_Dot_frac_Frac _ _ _ _ _ _ r hr⟩
def xr_vec_Add_frac_Frac_1 : XR := (.seq (.ops false [⟨⟨(some 2), (.box 58 (.tmp 0)), none⟩, none⟩, ⟨⟨(some 3), (.box 58 (.tmp 1)), none⟩, none⟩, ⟨⟨(some 4), (.alloc 58 [(.int .i64 (0)), (.int .i64 (0)), (.bool false)]), none⟩, none⟩]) (.seq (.ops false [⟨⟨(some 5), (.ld true 3 (.tmp 2)), none⟩, (some (.agg [(.int .i64), (.int .i64), .bool]))⟩, ⟨⟨(some 6), (.mkI 58 (.tmp 5)), none⟩, none⟩, ⟨⟨(some 7), (.ld true 3 (.tmp 3)), none⟩, (some (.agg [(.int .i64), (.int .i64), .bool]))⟩, ⟨⟨(some 8), (.callI 57 58 (.tmp 6) [(.tmp 7)]), none⟩, none⟩, ⟨⟨none, (.st 3 (.tmp 4) (.tmp 8)), none⟩, none⟩]) .ret))
def rs_vec_Add_frac_Frac_1 : List ResultVar := [(.cell 4 58)]
theorem ir_vec_Add_frac_Frac_1 : compCode Try.prog (Try.f105.body.getD .skip) [] = some (xr_vec_Add_frac_Frac_1.erase, []) := by kernel_rfl
def gm_vec_Add_frac_Frac_1 : Gam := (Gam.fn 57 as_frac_Frac_Add ga_frac_Frac_Add em_frac_Frac_Add Gam.bot)
theorem gk_vec_Add_frac_Frac_1 : GamOk Try.prog GG gm_vec_Add_frac_Frac_1 := (GamOk.fn at_frac_Frac_Add GamOk.bot)
def lm_vec_Add_frac_Frac_1 : Lam := fun _ j S kn ke => match j with
  | _ => .fail
def go_vec_Add_frac_Frac_1 (n0 : Int) (n1 : Int) (b2 : Bool) (n3 : Int) (n4 : Int) (b5 : Bool) : Option (Int × Int × Bool) :=
  (go_frac_Frac_Add n0 n1 b2 n3 n4 b5).bind fun r6 =>
  some (r6.1, r6.2.1, r6.2.2)
def em_vec_Add_frac_Frac_1 (r : (Int × Int × Bool)) : PV := (.agg [(.int .i64 r.1), (.int .i64 r.2.1), (.bool r.2.2)])
def rh_vec_Add_frac_Frac_1 : Shp := (.agg [(.int .i64), (.int .i64), .bool])
def ra_vec_Add_frac_Frac_1 (v : PV) : (Int × Int × Bool) := ((v.subs.headD .nilSl).num, (v.subs.tail.headD .nilSl).num, (v.subs.tail.tail.headD .nilSl).tru)
def kf_vec_Add_frac_Frac_1 (v : PV) : Tree (Int × Int × Bool) := .chk (rh_vec_Add_frac_Frac_1.ok v) (.leaf (ra_vec_Add_frac_Frac_1 v))
theorem rn_vec_Add_frac_Frac_1 (n0 : Int) (n1 : Int) (b2 : Bool) (n3 : Int) (n4 : Int) (b5 : Bool) : (ev GG gm_vec_Add_frac_Frac_1 lm_vec_Add_frac_Frac_1 xr_vec_Add_frac_Frac_1 ⟨slots 9 0 [(0, .p (.agg [(.int .i64 n0), (.int .i64 n1), (.bool b2)])), (1, .p (.agg [(.int .i64 n3), (.int .i64 n4), (.bool b5)]))], []⟩ (fun S => finT Try.prog rs_vec_Add_frac_Frac_1 S kf_vec_Add_frac_Frac_1) (retT Try.prog rs_vec_Add_frac_Frac_1 kf_vec_Add_frac_Frac_1)).run = go_vec_Add_frac_Frac_1 n0 n1 b2 n3 n4 b5 := by kernel_rfl
theorem ok_vec_Add_frac_Frac_1 (n0 : Int) (n1 : Int) (b2 : Bool) (n3 : Int) (n4 : Int) (b5 : Bool) (r : (Int × Int × Bool)) (h : go_vec_Add_frac_Frac_1 n0 n1 b2 n3 n4 b5 = some r) : FunEq Try.prog GG 105 [(.agg [(.int .i64 n0), (.int .i64 n1), (.bool b2)]), (.agg [(.int .i64 n3), (.int .i64 n4), (.bool b5)])] (em_vec_Add_frac_Frac_1 r) :=
  fun_of_ev (x := xr_vec_Add_frac_Frac_1) (Λ := lm_vec_Add_frac_Frac_1) gk_vec_Add_frac_Frac_1 [] Try.func105 rfl (by kernel_rfl) ir_vec_Add_frac_Frac_1 (by kernel_rfl) (congrArg Array.toList Try.results105) Try.ntmps105 (⟨trivial, ⟨trivial, trivial⟩⟩) (leaf_of fun v => (by kernel_rfl : rh_vec_Add_frac_Frac_1.build v = em_vec_Add_frac_Frac_1 (ra_vec_Add_frac_Frac_1 v))) (by kernel_rfl) ((rn_vec_Add_frac_Frac_1 n0 n1 b2 n3 n4 b5).trans h)
def as_vec_Add_frac_Frac_1 : List Shp := [(.agg [(.int .i64), (.int .i64), .bool]), (.agg [(.int .i64), (.int .i64), .bool])]
def ga_vec_Add_frac_Frac_1 (vs : List PV) : Option (Int × Int × Bool) := go_vec_Add_frac_Frac_1 (((tls 0 vs).headD .nilSl).subs.headD .nilSl).num (((tls 0 vs).headD .nilSl).subs.tail.headD .nilSl).num (((tls 0 vs).headD .nilSl).subs.tail.tail.headD .nilSl).tru (((tls 1 vs).headD .nilSl).subs.headD .nilSl).num (((tls 1 vs).headD .nilSl).subs.tail.headD .nilSl).num (((tls 1 vs).headD .nilSl).subs.tail.tail.headD .nilSl).tru
theorem at_vec_Add_frac_Frac_1 : FnAt Try.prog GG 105 as_vec_Add_frac_Frac_1 ga_vec_Add_frac_Frac_1 em_vec_Add_frac_Frac_1 := fun vs h r hr => by
  have e : Shp.buildL as_vec_Add_frac_Frac_1 vs = [(.agg [(.int .i64 (((tls 0 vs).headD .nilSl).subs.headD .nilSl).num), (.int .i64 (((tls 0 vs).headD .nilSl).subs.tail.headD .nilSl).num), (.bool (((tls 0 vs).headD .nilSl).subs.tail.tail.headD .nilSl).tru)]), (.agg [(.int .i64 (((tls 1 vs).headD .nilSl).subs.headD .nilSl).num), (.int .i64 (((tls 1 vs).headD .nilSl).subs.tail.headD .nilSl).num), (.bool (((tls 1 vs).headD .nilSl).subs.tail.tail.headD .nilSl).tru)])] := by kernel_rfl
  rw [← Shp.buildL_eq _ h, e]
  exact .inl ⟨by decide, ok_vec_Add_frac_Frac_1 _ _ _ _ _ _ r hr⟩
def gm_vec_of_frac_Frac_v1 : Gam := (Gam.fn 120 as_vec_Pairs_frac_Frac ga_vec_Pairs_frac_Frac em_vec_Pairs_frac_Frac (Gam.fn 105 as_vec_Add_frac_Frac_1 ga_vec_Add_frac_Frac_1 em_vec_Add_frac_Frac_1 Gam.bot))
theorem gk_vec_of_frac_Frac_v1 : GamOk Try.prog GG gm_vec_of_frac_Frac_v1 := (GamOk.fn at_vec_Pairs_frac_Frac (GamOk.fn at_vec_Add_frac_Frac_1 GamOk.bot))
def it_vec_of_frac_Frac_v1_0 (b7 : Bool) (b8 : Bool) (es9 : List PV) (b10 : Bool) (b11 : Bool) (es12 : List PV) (b13 : Bool) (b14 : Bool) (es15 : List PV) : Option (List (Int × Int × Bool × Int × Int × Bool)) := it_pairspF b7 b8 es9 b10 b11 es12
def cp_vec_of_frac_Frac_v1_0 (b7 : Bool) (b8 : Bool) (es9 : List PV) (b10 : Bool) (b11 : Bool) (es12 : List PV) (b13 : Bool) (b14 : Bool) (es15 : List PV) : List PV := [(.ref 0 [(.sl b7 b8 3 es9)]), (.ref 0 [(.sl b10 b11 3 es12)])]
def st_vec_of_frac_Frac_v1_0 (b7 : Bool) (b8 : Bool) (es9 : List PV) (b10 : Bool) (b11 : Bool) (es12 : List PV) (b13 : Bool) (b14 : Bool) (es15 : List PV) (u16 : (Int × Int × Bool × Int × Int × Bool)) : Option (((Bool × Bool × List PV × Bool × Bool × List PV × Bool × Bool × List PV)) ⊕ (Unit)) :=
  (go_vec_Add_frac_Frac_1 u16.1 u16.2.1 u16.2.2.1 u16.2.2.2.1 u16.2.2.2.2.1 u16.2.2.2.2.2).bind fun r17 =>
  bif (decide ((((List.length es15) + 1) * 24) ≤ 140737488355328)) then
   bif (decide (((List.length es15) + 1) ≤ 4611686018427387904)) then
    some (Sum.inl (b7, b8, es9, b10, b11, es12, (b13 && false), false, (es15 ++ [(.agg [(.int .i64 r17.1), (.int .i64 r17.2.1), (.bool r17.2.2)])])))
   else none
  else none
def lp_vec_of_frac_Frac_v1_0 (b7 : Bool) (b8 : Bool) (es9 : List PV) (b10 : Bool) (b11 : Bool) (es12 : List PV) (b13 : Bool) (b14 : Bool) (es15 : List PV) : Option (((Bool × Bool × List PV × Bool × Bool × List PV × Bool × Bool × List PV)) ⊕ (Unit)) := (it_vec_of_frac_Frac_v1_0 b7 b8 es9 b10 b11 es12 b13 b14 es15).bind fun is => foldS (X := (Bool × Bool × List PV × Bool × Bool × List PV × Bool × Bool × List PV)) (fun x i => st_vec_of_frac_Frac_v1_0 x.1 x.2.1 x.2.2.1 x.2.2.2.1 x.2.2.2.2.1 x.2.2.2.2.2.1 x.2.2.2.2.2.2.1 x.2.2.2.2.2.2.2.1 x.2.2.2.2.2.2.2.2 i) is (b7, b8, es9, b10, b11, es12, b13, b14, es15)
def sh_vec_of_frac_Frac_v1_0 : StSh := ⟨23, [(5, (.ptr 0 0)), (7, (.ptr 1 0)), (12, (.p (.fn 124 [(.ref 0 [(.sl 3)]), (.ref 0 [(.sl 3)])])))], [(.box 99 [(.p (.fn 105 []))]), (.box 55 [(.row 2)]), (.row 58 3)]⟩
def sx_vec_of_frac_Frac_v1_0 (x : (Bool × Bool × List PV × Bool × Bool × List PV × Bool × Bool × List PV)) : St := ⟨slots 23 0 [(5, (.ptr 0 0)), (7, (.ptr 1 0)), (12, (.p (.fn 124 [(.ref 0 [(.sl x.1 x.2.1 3 x.2.2.1)]), (.ref 0 [(.sl x.2.2.2.1 x.2.2.2.2.1 3 x.2.2.2.2.2.1)])])))], [(.box 99 [(.p (.fn 105 []))]), (.box 55 [(.row 2)]), (.row 58 3 x.2.2.2.2.2.2.1 x.2.2.2.2.2.2.2.1 x.2.2.2.2.2.2.2.2)]⟩
def sa_vec_of_frac_Frac_v1_0 (S : St) : (Bool × Bool × List PV × Bool × Bool × List PV × Bool × Bool × List PV) := (((((tls 12 S.t).headD .any).pv.subs.headD .nilSl).subs.headD .nilSl).nl, ((((tls 12 S.t).headD .any).pv.subs.headD .nilSl).subs.headD .nilSl).ex, ((((tls 12 S.t).headD .any).pv.subs.headD .nilSl).subs.headD .nilSl).elts, ((((tls 12 S.t).headD .any).pv.subs.tail.headD .nilSl).subs.headD .nilSl).nl, ((((tls 12 S.t).headD .any).pv.subs.tail.headD .nilSl).subs.headD .nilSl).ex, ((((tls 12 S.t).headD .any).pv.subs.tail.headD .nilSl).subs.headD .nilSl).elts, ((tls 2 S.own).headD .gone).pvD.nl, ((tls 2 S.own).headD .gone).pvD.ex, ((tls 2 S.own).headD .gone).pvD.elts)
def kb_vec_of_frac_Frac_v1_0 : Exit → St → Tree (((Bool × Bool × List PV × Bool × Bool × List PV × Bool × Bool × List PV)) ⊕ (Unit)) := exNil
def ky_vec_of_frac_Frac_v1_0 : Dec (Unit) := fun _ y ke => .fail
theorem kk_vec_of_frac_Frac_v1_0 : ExOk Sum.inr kb_vec_of_frac_Frac_v1_0 ky_vec_of_frac_Frac_v1_0 := ExOk.nil
def lm_vec_of_frac_Frac_v1 : Lam := fun _ j S kn ke => match j with
  | 0 => prepT [5, 7, 12] [(100700, 58)] S fun S => .chk (sh_vec_of_frac_Frac_v1_0.ok S) (.bind ((fun x => (it_vec_of_frac_Frac_v1_0 x.1 x.2.1 x.2.2.1 x.2.2.2.1 x.2.2.2.2.1 x.2.2.2.2.2.1 x.2.2.2.2.2.2.1 x.2.2.2.2.2.2.2.1 x.2.2.2.2.2.2.2.2).bind fun is => foldS (X := (Bool × Bool × List PV × Bool × Bool × List PV × Bool × Bool × List PV)) (fun x i => st_vec_of_frac_Frac_v1_0 x.1 x.2.1 x.2.2.1 x.2.2.2.1 x.2.2.2.2.1 x.2.2.2.2.2.1 x.2.2.2.2.2.2.1 x.2.2.2.2.2.2.2.1 x.2.2.2.2.2.2.2.2 i) is x) (sa_vec_of_frac_Frac_v1_0 S)) fun r => .sum r (fun x => kn (sx_vec_of_frac_Frac_v1_0 x)) (fun y => ky_vec_of_frac_Frac_v1_0 _ y ke))
  | _ => .fail
theorem sr_vec_of_frac_Frac_v1_0 (x : (Bool × Bool × List PV × Bool × Bool × List PV × Bool × Bool × List PV)) (i : (Int × Int × Bool × Int × Int × Bool)) : (ev GG gm_vec_of_frac_Frac_v1 lm_vec_of_frac_Frac_v1 xa_vec_of_frac_Frac_0 ⟨setL (sx_vec_of_frac_Frac_v1_0 x).t [13, 14] (ie_pairspF i), (sx_vec_of_frac_Frac_v1_0 x).own⟩ (fun S1 => ev GG gm_vec_of_frac_Frac_v1 lm_vec_of_frac_Frac_v1 xb_vec_of_frac_Frac_0 S1 (fun S => forgetT [5, 7, 12] ⟨(sx_vec_of_frac_Frac_v1_0 x).t, S.own⟩ fun S => prepT [5, 7, 12] [(100700, 58)] S fun S => .chk (sh_vec_of_frac_Frac_v1_0.ok S) (.leaf (.inl (sa_vec_of_frac_Frac_v1_0 S)))) (fun e S => kb_vec_of_frac_Frac_v1_0 e ⟨(sx_vec_of_frac_Frac_v1_0 x).t, S.own⟩)) (fun _ _ => .fail)).run = st_vec_of_frac_Frac_v1_0 x.1 x.2.1 x.2.2.1 x.2.2.2.1 x.2.2.2.2.1 x.2.2.2.2.2.1 x.2.2.2.2.2.2.1 x.2.2.2.2.2.2.2.1 x.2.2.2.2.2.2.2.2 i := by kernel_rfl
theorem la_vec_of_frac_Frac_v1_0 : LamAt Try.prog GG lm_vec_of_frac_Frac_v1 0 (.rangeF xf_vec_of_frac_Frac_0 [13, 14] xa_vec_of_frac_Frac_0.erase xb_vec_of_frac_Frac_0.erase) := lam_range (asg := xa_vec_of_frac_Frac_0) (bdy := xb_vec_of_frac_Frac_0) (Λ0 := lm_vec_of_frac_Frac_v1) gk_vec_of_frac_Frac_v1 (by kernel_rfl) (by kernel_rfl) (fun S => (by kernel_rfl : sh_vec_of_frac_Frac_v1_0.build S = sx_vec_of_frac_Frac_v1_0 (sa_vec_of_frac_Frac_v1_0 S))) (caps := fun x => cp_vec_of_frac_Frac_v1_0 x.1 x.2.1 x.2.2.1 x.2.2.2.1 x.2.2.2.2.1 x.2.2.2.2.2.1 x.2.2.2.2.2.2.1 x.2.2.2.2.2.2.2.1 x.2.2.2.2.2.2.2.2) (fun x => (by kernel_rfl : evS GG (sx_vec_of_frac_Frac_v1_0 x) xf_vec_of_frac_Frac_0 = .p (.fn 124 (cp_vec_of_frac_Frac_v1_0 x.1 x.2.1 x.2.2.1 x.2.2.2.1 x.2.2.2.2.1 x.2.2.2.2.2.1 x.2.2.2.2.2.2.1 x.2.2.2.2.2.2.2.1 x.2.2.2.2.2.2.2.2)))) (its := fun x => it_vec_of_frac_Frac_v1_0 x.1 x.2.1 x.2.2.1 x.2.2.2.1 x.2.2.2.2.1 x.2.2.2.2.2.1 x.2.2.2.2.2.2.1 x.2.2.2.2.2.2.2.1 x.2.2.2.2.2.2.2.2) (emb := ie_pairspF) (fun i => rfl) (fun x is h => sq_pairspF _ _ _ _ _ _ is h) (step := fun x i => st_vec_of_frac_Frac_v1_0 x.1 x.2.1 x.2.2.1 x.2.2.2.1 x.2.2.2.2.1 x.2.2.2.2.2.1 x.2.2.2.2.2.2.1 x.2.2.2.2.2.2.2.1 x.2.2.2.2.2.2.2.2 i) kk_vec_of_frac_Frac_v1_0 sr_vec_of_frac_Frac_v1_0 (fun _ _ _ => rfl)
def go_vec_of_frac_Frac_v1 (b0 : Bool) (b1 : Bool) (es2 : List PV) (b3 : Bool) (b4 : Bool) (es5 : List PV) : Option (Bool × Bool × List PV) :=
  (go_vec_Pairs_frac_Frac b0 b1 es2 b3 b4 es5).bind fun r6 =>
  (lp_vec_of_frac_Frac_v1_0 r6.1 r6.2.1 r6.2.2.1 r6.2.2.2.1 r6.2.2.2.2.1 r6.2.2.2.2.2 true true []).bind fun y18 =>
  Sum.elim (fun z19 =>
   some (z19.2.2.2.2.2.2.1, z19.2.2.2.2.2.2.2.1, z19.2.2.2.2.2.2.2.2)) (fun u_ =>
   none) y18
def em_vec_of_frac_Frac_v1 (r : (Bool × Bool × List PV)) : PV := (.sl r.1 r.2.1 3 r.2.2)
def rh_vec_of_frac_Frac_v1 : Shp := (.sl 3)
def ra_vec_of_frac_Frac_v1 (v : PV) : (Bool × Bool × List PV) := (v.nl, v.ex, v.elts)
def kf_vec_of_frac_Frac_v1 (v : PV) : Tree (Bool × Bool × List PV) := .chk (rh_vec_of_frac_Frac_v1.ok v) (.leaf (ra_vec_of_frac_Frac_v1 v))
theorem rn_vec_of_frac_Frac_v1 (b0 : Bool) (b1 : Bool) (es2 : List PV) (b3 : Bool) (b4 : Bool) (es5 : List PV) : (ev GG gm_vec_of_frac_Frac_v1 lm_vec_of_frac_Frac_v1 xr_vec_of_frac_Frac ⟨slots 23 0 [(0, .p (.sl b0 b1 3 es2)), (1, .p (.sl b3 b4 3 es5)), (2, .p (.fn 105 []))], []⟩ (fun S => finT Try.prog rs_vec_of_frac_Frac S kf_vec_of_frac_Frac_v1) (retT Try.prog rs_vec_of_frac_Frac kf_vec_of_frac_Frac_v1)).run = go_vec_of_frac_Frac_v1 b0 b1 es2 b3 b4 es5 := by kernel_rfl
theorem ok_vec_of_frac_Frac_v1 (b0 : Bool) (b1 : Bool) (es2 : List PV) (b3 : Bool) (b4 : Bool) (es5 : List PV) (r : (Bool × Bool × List PV)) (h : go_vec_of_frac_Frac_v1 b0 b1 es2 b3 b4 es5 = some r) : FunEq Try.prog GG 100 [(.sl b0 b1 3 es2), (.sl b3 b4 3 es5), (.fn 105 [])] (em_vec_of_frac_Frac_v1 r) :=
  fun_of_ev (x := xr_vec_of_frac_Frac) (Λ := lm_vec_of_frac_Frac_v1) gk_vec_of_frac_Frac_v1 [] Try.func100 rfl (by kernel_rfl) ir_vec_of_frac_Frac (by kernel_rfl) (congrArg Array.toList Try.results100) Try.ntmps100 (⟨trivial, ⟨trivial, ⟨⟨trivial, la_vec_of_frac_Frac_v1_0⟩, ⟨trivial, trivial⟩⟩⟩⟩) (leaf_of fun v => (by kernel_rfl : rh_vec_of_frac_Frac_v1.build v = em_vec_of_frac_Frac_v1 (ra_vec_of_frac_Frac_v1 v))) (by kernel_rfl) ((rn_vec_of_frac_Frac_v1 b0 b1 es2 b3 b4 es5).trans h)
def as_vec_of_frac_Frac_v1 : List Shp := [(.sl 3), (.sl 3), (.fn 105 [])]
def ga_vec_of_frac_Frac_v1 (vs : List PV) : Option (Bool × Bool × List PV) := go_vec_of_frac_Frac_v1 ((tls 0 vs).headD .nilSl).nl ((tls 0 vs).headD .nilSl).ex ((tls 0 vs).headD .nilSl).elts ((tls 1 vs).headD .nilSl).nl ((tls 1 vs).headD .nilSl).ex ((tls 1 vs).headD .nilSl).elts
theorem at_vec_of_frac_Frac_v1 : FnAt Try.prog GG 100 as_vec_of_frac_Frac_v1 ga_vec_of_frac_Frac_v1 em_vec_of_frac_Frac_v1 := fun vs h r hr => by
  have e : Shp.buildL as_vec_of_frac_Frac_v1 vs = [(.sl ((tls 0 vs).headD .nilSl).nl ((tls 0 vs).headD .nilSl).ex 3 ((tls 0 vs).headD .nilSl).elts), (.sl ((tls 1 vs).headD .nilSl).nl ((tls 1 vs).headD .nilSl).ex 3 ((tls 1 vs).headD .nilSl).elts), (.fn 105 [])] := by kernel_rfl
  rw [← Shp.buildL_eq _ h, e]
  exact .inl ⟨by decide, ok_vec_of_frac_Frac_v1 _ _ _ _ _ _ r hr⟩
def xr_vec_Add_frac_Frac : XR := (.seq (.ops false [⟨⟨(some 4), (.mv (.c (.sl true true 3 []))), none⟩, none⟩]) (.seq (.ops false [⟨⟨(some 5), (.mv (.tmp 0)), none⟩, none⟩, ⟨⟨(some 6), (.mv (.tmp 1)), none⟩, none⟩, ⟨⟨(some 7), (.call (.func 100) [(.tmp 5), (.tmp 6), (.func 105)]), none⟩, none⟩, ⟨⟨(some 4), (.mv (.tmp 7)), none⟩, none⟩]) .ret))
def rs_vec_Add_frac_Frac : List ResultVar := [(.tmp 4)]
theorem ir_vec_Add_frac_Frac : compCode Try.prog (Try.f64.body.getD .skip) [] = some (xr_vec_Add_frac_Frac.erase, []) := by kernel_rfl
def gm_vec_Add_frac_Frac : Gam := (Gam.fn 100 as_vec_of_frac_Frac_v1 ga_vec_of_frac_Frac_v1 em_vec_of_frac_Frac_v1 Gam.bot)
theorem gk_vec_Add_frac_Frac : GamOk Try.prog GG gm_vec_Add_frac_Frac := (GamOk.fn at_vec_of_frac_Frac_v1 GamOk.bot)
def lm_vec_Add_frac_Frac : Lam := fun _ j S kn ke => match j with
  | _ => .fail
def go_vec_Add_frac_Frac (b0 : Bool) (b1 : Bool) (es2 : List PV) (b3 : Bool) (b4 : Bool) (es5 : List PV) : Option (Bool × Bool × List PV) :=
  (go_vec_of_frac_Frac_v1 b0 b1 es2 b3 b4 es5).bind fun r6 =>
  some (r6.1, r6.2.1, r6.2.2)
def em_vec_Add_frac_Frac (r : (Bool × Bool × List PV)) : PV := (.sl r.1 r.2.1 3 r.2.2)
def rh_vec_Add_frac_Frac : Shp := (.sl 3)
def ra_vec_Add_frac_Frac (v : PV) : (Bool × Bool × List PV) := (v.nl, v.ex, v.elts)
def kf_vec_Add_frac_Frac (v : PV) : Tree (Bool × Bool × List PV) := .chk (rh_vec_Add_frac_Frac.ok v) (.leaf (ra_vec_Add_frac_Frac v))
theorem rn_vec_Add_frac_Frac (b0 : Bool) (b1 : Bool) (es2 : List PV) (b3 : Bool) (b4 : Bool) (es5 : List PV) : (ev GG gm_vec_Add_frac_Frac lm_vec_Add_frac_Frac xr_vec_Add_frac_Frac ⟨slots 8 0 [(0, .p (.sl b0 b1 3 es2)), (1, .p (.sl b3 b4 3 es5))], []⟩ (fun S => finT Try.prog rs_vec_Add_frac_Frac S kf_vec_Add_frac_Frac) (retT Try.prog rs_vec_Add_frac_Frac kf_vec_Add_frac_Frac)).run = go_vec_Add_frac_Frac b0 b1 es2 b3 b4 es5 := by kernel_rfl
theorem ok_vec_Add_frac_Frac (b0 : Bool) (b1 : Bool) (es2 : List PV) (b3 : Bool) (b4 : Bool) (es5 : List PV) (r : (Bool × Bool × List PV)) (h : go_vec_Add_frac_Frac b0 b1 es2 b3 b4 es5 = some r) : FunEq Try.prog GG 64 [(.sl b0 b1 3 es2), (.sl b3 b4 3 es5)] (em_vec_Add_frac_Frac r) :=
  fun_of_ev (x := xr_vec_Add_frac_Frac) (Λ := lm_vec_Add_frac_Frac) gk_vec_Add_frac_Frac [] Try.func64 rfl (by kernel_rfl) ir_vec_Add_frac_Frac (by kernel_rfl) (congrArg Array.toList Try.results64) Try.ntmps64 (⟨trivial, ⟨trivial, trivial⟩⟩) (leaf_of fun v => (by kernel_rfl : rh_vec_Add_frac_Frac.build v = em_vec_Add_frac_Frac (ra_vec_Add_frac_Frac v))) (by kernel_rfl) ((rn_vec_Add_frac_Frac b0 b1 es2 b3 b4 es5).trans h)
def as_vec_Add_frac_Frac : List Shp := [(.sl 3), (.sl 3)]
def ga_vec_Add_frac_Frac (vs : List PV) : Option (Bool × Bool × List PV) := go_vec_Add_frac_Frac ((tls 0 vs).headD .nilSl).nl ((tls 0 vs).headD .nilSl).ex ((tls 0 vs).headD .nilSl).elts ((tls 1 vs).headD .nilSl).nl ((tls 1 vs).headD .nilSl).ex ((tls 1 vs).headD .nilSl).elts
theorem at_vec_Add_frac_Frac : FnAt Try.prog GG 64 as_vec_Add_frac_Frac ga_vec_Add_frac_Frac em_vec_Add_frac_Frac := fun vs h r hr => by
  have e : Shp.buildL as_vec_Add_frac_Frac vs = [(.sl ((tls 0 vs).headD .nilSl).nl ((tls 0 vs).headD .nilSl).ex 3 ((tls 0 vs).headD .nilSl).elts), (.sl ((tls 1 vs).headD .nilSl).nl ((tls 1 vs).headD .nilSl).ex 3 ((tls 1 vs).headD .nilSl).elts)] := by kernel_rfl
  rw [← Shp.buildL_eq _ h, e]
  exact .inl ⟨by decide, ok_vec_Add_frac_Frac _ _ _ _ _ _ r hr⟩
def xr_coupletlaw05_awake : XR := (.seq (.ops false [⟨⟨(some 0), (.mv (.c (.bool false))), none⟩, none⟩]) (.seq (.ops false [⟨⟨(some 3), (.bsl 3 (some .i64) 1 [(.c (.int .i64 (1))), (.c (.int .i64 (2)))]), none⟩, none⟩, ⟨⟨(some 4), (.call (.func 55) [(.tmp 3)]), none⟩, none⟩, ⟨⟨(some 5), (.bsl 3 (some .i64) 1 [(.c (.int .i64 (3))), (.c (.int .i64 (4)))]), none⟩, none⟩, ⟨⟨(some 6), (.call (.func 55) [(.tmp 5)]), none⟩, none⟩, ⟨⟨(some 1), (.mv (.tmp 4)), none⟩, none⟩, ⟨⟨(some 2), (.mv (.tmp 6)), none⟩, none⟩]) (.seq (.ops false [⟨⟨(some 7), (.mv (.tmp 1)), none⟩, none⟩, ⟨⟨(some 8), (.mv (.tmp 2)), none⟩, none⟩, ⟨⟨(some 9), (.call (.func 59) [(.tmp 7), (.tmp 8)]), none⟩, none⟩, ⟨⟨(some 10), (.call (.func 58) [(.c (.int .i64 (11))), (.c (.int .i64 (1)))]), none⟩, none⟩, ⟨⟨(some 11), (.eqAgg false [(.int .i64), (.int .i64), .bool] (.tmp 9) (.tmp 10)), none⟩, none⟩, ⟨⟨(some 12), (.mv (.tmp 11)), none⟩, none⟩, ⟨⟨(some 13), (.mv (.tmp 1)), (some (12, true))⟩, none⟩, ⟨⟨(some 14), (.len (.tmp 13)), (some (12, true))⟩, none⟩, ⟨⟨(some 15), (.bin .eql (.tmp 14) (.c (.int .i64 (2)))), (some (12, true))⟩, none⟩, ⟨⟨(some 16), (.pick (.tmp 12) (.tmp 15) (.c (.bool false))), none⟩, none⟩, ⟨⟨(some 17), (.mv (.tmp 16)), none⟩, none⟩, ⟨⟨(some 18), (.mv (.tmp 1)), (some (17, true))⟩, none⟩, ⟨⟨(some 19), (.mv (.tmp 2)), (some (17, true))⟩, none⟩, ⟨⟨(some 20), (.call (.func 64) [(.tmp 18), (.tmp 19)]), (some (17, true))⟩, none⟩, ⟨⟨(some 21), (.len (.tmp 20)), (some (17, true))⟩, none⟩, ⟨⟨(some 22), (.bin .eql (.tmp 21) (.c (.int .i64 (2)))), (some (17, true))⟩, none⟩, ⟨⟨(some 23), (.pick (.tmp 17) (.tmp 22) (.c (.bool false))), none⟩, none⟩, ⟨⟨(some 24), (.mv (.tmp 23)), none⟩, none⟩, ⟨⟨(some 25), (.mv (.tmp 1)), (some (24, true))⟩, none⟩, ⟨⟨(some 26), (.call (.func 56) [(.tmp 25)]), (some (24, true))⟩, none⟩, ⟨⟨(some 27), (.call (.func 58) [(.c (.int .i64 (3))), (.c (.int .i64 (1)))]), (some (24, true))⟩, none⟩, ⟨⟨(some 28), (.eqAgg false [(.int .i64), (.int .i64), .bool] (.tmp 26) (.tmp 27)), (some (24, true))⟩, none⟩, ⟨⟨(some 29), (.pick (.tmp 24) (.tmp 28) (.c (.bool false))), none⟩, none⟩, ⟨⟨(some 0), (.mv (.tmp 29)), none⟩, none⟩]) .ret)))
def rs_coupletlaw05_awake : List ResultVar := [(.tmp 0)]
theorem ir_coupletlaw05_awake : compCode Try.prog (Try.f50.body.getD .skip) [] = some (xr_coupletlaw05_awake.erase, []) := by kernel_rfl
def gm_coupletlaw05_awake : Gam := (Gam.fn 55 as_vec_Whole_frac_Frac ga_vec_Whole_frac_Frac em_vec_Whole_frac_Frac (Gam.fn 59 as_vec_Dot_frac_Frac ga_vec_Dot_frac_Frac em_vec_Dot_frac_Frac (Gam.fn 58 as_frac_New ga_frac_New em_frac_New (Gam.fn 64 as_vec_Add_frac_Frac ga_vec_Add_frac_Frac em_vec_Add_frac_Frac (Gam.fn 56 as_vec_Sum_frac_Frac ga_vec_Sum_frac_Frac em_vec_Sum_frac_Frac Gam.bot)))))
theorem gk_coupletlaw05_awake : GamOk Try.prog GG gm_coupletlaw05_awake := (GamOk.fn at_vec_Whole_frac_Frac (GamOk.fn at_vec_Dot_frac_Frac (GamOk.fn at_frac_New (GamOk.fn at_vec_Add_frac_Frac (GamOk.fn at_vec_Sum_frac_Frac GamOk.bot)))))
def lm_coupletlaw05_awake : Lam := fun _ j S kn ke => match j with
  | _ => .fail
def go_coupletlaw05_awake : Option Bool :=
  (go_vec_Whole_frac_Frac false true [1, 2]).bind fun r0 =>
  (go_vec_Whole_frac_Frac false true [3, 4]).bind fun r1 =>
  (go_vec_Dot_frac_Frac r0.1 r0.2.1 r0.2.2 r1.1 r1.2.1 r1.2.2).bind fun r2 =>
  (go_frac_New 11 1).bind fun r3 =>
  bif ((r2.1 == r3.1) && ((r2.2.1 == r3.2.1) && ((r2.2.2 == r3.2.2) && true))) then
   bif ((((List.length r0.2.2) : Nat) : Int) == 2) then
    (go_vec_Add_frac_Frac r0.1 r0.2.1 r0.2.2 r1.1 r1.2.1 r1.2.2).bind fun r4 =>
    bif ((((List.length r4.2.2) : Nat) : Int) == 2) then
     (go_vec_Sum_frac_Frac r0.1 r0.2.1 r0.2.2).bind fun r5 =>
     (go_frac_New 3 1).bind fun r6 =>
     some ((r5.1 == r6.1) && ((r5.2.1 == r6.2.1) && ((r5.2.2 == r6.2.2) && true)))
    else
     some false
   else
    some false
  else
   some false
def em_coupletlaw05_awake (r : Bool) : PV := (.bool r)
def rh_coupletlaw05_awake : Shp := .bool
def ra_coupletlaw05_awake (v : PV) : Bool := v.tru
def kf_coupletlaw05_awake (v : PV) : Tree Bool := .chk (rh_coupletlaw05_awake.ok v) (.leaf (ra_coupletlaw05_awake v))
theorem rn_coupletlaw05_awake : (ev GG gm_coupletlaw05_awake lm_coupletlaw05_awake xr_coupletlaw05_awake ⟨slots 30 0 [], []⟩ (fun S => finT Try.prog rs_coupletlaw05_awake S kf_coupletlaw05_awake) (retT Try.prog rs_coupletlaw05_awake kf_coupletlaw05_awake)).run = go_coupletlaw05_awake := by kernel_rfl
theorem ok_coupletlaw05_awake (r : Bool) (h : go_coupletlaw05_awake = some r) : FunEq Try.prog GG 50 [] (em_coupletlaw05_awake r) :=
  fun_of_ev (x := xr_coupletlaw05_awake) (Λ := lm_coupletlaw05_awake) gk_coupletlaw05_awake [] Try.func50 rfl (by kernel_rfl) ir_coupletlaw05_awake (by kernel_rfl) (congrArg Array.toList Try.results50) Try.ntmps50 (⟨trivial, ⟨trivial, ⟨trivial, trivial⟩⟩⟩) (leaf_of fun v => (by kernel_rfl : rh_coupletlaw05_awake.build v = em_coupletlaw05_awake (ra_coupletlaw05_awake v))) (by kernel_rfl) ((rn_coupletlaw05_awake).trans h)
def as_coupletlaw05_awake : List Shp := []
def ga_coupletlaw05_awake (vs : List PV) : Option Bool := go_coupletlaw05_awake
theorem at_coupletlaw05_awake : FnAt Try.prog GG 50 as_coupletlaw05_awake ga_coupletlaw05_awake em_coupletlaw05_awake := fun vs h r hr => by
  have e : Shp.buildL as_coupletlaw05_awake vs = [] := by kernel_rfl
  rw [← Shp.buildL_eq _ h, e]
  exact .inl ⟨by decide, ok_coupletlaw05_awake  r hr⟩
end Go.Proofs
end
