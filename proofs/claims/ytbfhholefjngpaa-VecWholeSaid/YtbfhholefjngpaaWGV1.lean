import Derived.Test.YtbfhholefjngpaaWSVG
import Derived.Test.YtbfhholefjngpaaWSVpf
import Derived.Test.YtbfhholefjngpaaFxRng
import Derived.Test.YtbfhholefjngpaaChecked
set_option linter.unusedVariables false
set_option maxRecDepth 100000
noncomputable section
namespace Go.Proofs
open Go Go.Fx

def xr_frac_Wrong : XR := (.seq (.ops false [⟨⟨(some 0), (.alloc 58 [(.int .i64 (0)), (.int .i64 (0)), (.bool false)]), none⟩, none⟩]) (.seq (.ops false [⟨⟨(some 1), (.build [(.int .i64 (0)), (.int .i64 (0)), (.bool false)] [(2, (1, (.c (.bool true))))]), none⟩, none⟩, ⟨⟨none, (.st 3 (.tmp 0) (.tmp 1)), none⟩, none⟩]) .ret))
def rs_frac_Wrong : List ResultVar := [(.cell 0 58)]
theorem ir_frac_Wrong : compCode Try.prog (Try.f98.body.getD .skip) [] = some (xr_frac_Wrong.erase, []) := by kernel_rfl
/-! frac_Wrong -/
def gm_frac_Wrong : Gam := Gam.bot
theorem gk_frac_Wrong : GamOk Try.prog GG gm_frac_Wrong := GamOk.bot
def lm_frac_Wrong : Lam := fun _ j S kn ke => match j with
  | _ => .fail
/-- frac_Wrong -/
def go_frac_Wrong : Option (Int × Int × Bool) :=
  some (0, 0, true)
def em_frac_Wrong (r : (Int × Int × Bool)) : PV := (.agg [(.int .i64 r.1), (.int .i64 r.2.1), (.bool r.2.2)])
def rh_frac_Wrong : Shp := (.agg [(.int .i64), (.int .i64), .bool])
def ra_frac_Wrong (v : PV) : (Int × Int × Bool) := ((v.subs.headD .nilSl).num, (v.subs.tail.headD .nilSl).num, (v.subs.tail.tail.headD .nilSl).tru)
def kf_frac_Wrong (v : PV) : Tree (Int × Int × Bool) := .chk (rh_frac_Wrong.ok v) (.leaf (ra_frac_Wrong v))
theorem rn_frac_Wrong : (ev GG gm_frac_Wrong lm_frac_Wrong xr_frac_Wrong ⟨slots 2 0 [], []⟩ (fun S => finT Try.prog rs_frac_Wrong S kf_frac_Wrong) (retT Try.prog rs_frac_Wrong kf_frac_Wrong)).run = go_frac_Wrong := by kernel_rfl
theorem ok_frac_Wrong (r : (Int × Int × Bool)) (h : go_frac_Wrong = some r) : FunEq Try.prog GG 98 [] (em_frac_Wrong r) :=
  fun_of_ev (x := xr_frac_Wrong) (Λ := lm_frac_Wrong) gk_frac_Wrong [] Try.func98 rfl (by kernel_rfl) ir_frac_Wrong (by kernel_rfl) (congrArg Array.toList Try.results98) Try.ntmps98 (⟨trivial, ⟨trivial, trivial⟩⟩) (leaf_of fun v => (by kernel_rfl : rh_frac_Wrong.build v = em_frac_Wrong (ra_frac_Wrong v))) (by kernel_rfl) ((rn_frac_Wrong).trans h)
def as_frac_Wrong : List Shp := []
def ga_frac_Wrong (vs : List PV) : Option (Int × Int × Bool) := go_frac_Wrong
theorem at_frac_Wrong : FnAt Try.prog GG 98 as_frac_Wrong ga_frac_Wrong em_frac_Wrong := fun vs h r hr => by
  have e : Shp.buildL as_frac_Wrong vs = [] := by kernel_rfl
  rw [← Shp.buildL_eq _ h, e]
  exact .inl ⟨by decide, ok_frac_Wrong  r hr⟩

def xb_frac_common_0 : XR := (.seq (.seq (.ops false [⟨⟨(some 13), (.mv (.tmp 1)), none⟩, none⟩, ⟨⟨(some 14), (.bin .gtr (.tmp 13) (.c (.int .i64 (0)))), none⟩, none⟩]) (.cond (.tmp 14) .skip (.exit 0))) (.block 1 (.ops true [⟨⟨(some 15), (.mv (.tmp 1)), none⟩, none⟩, ⟨⟨(some 16), (.mv (.tmp 0)), none⟩, none⟩, ⟨⟨(some 17), (.mv (.tmp 1)), none⟩, none⟩, ⟨⟨(some 18), (.bin .rem (.tmp 16) (.tmp 17)), none⟩, none⟩, ⟨⟨(some 0), (.mv (.tmp 15)), none⟩, none⟩, ⟨⟨(some 1), (.mv (.tmp 18)), none⟩, none⟩])))
def xr_frac_common : XR := (.seq (.ops false [⟨⟨(some 4), (.mv (.c (.int .i64 (0)))), none⟩, none⟩]) (.seq (.ops false [⟨⟨(some 5), (.mv (.tmp 0)), none⟩, none⟩, ⟨⟨(some 6), (.mv (.tmp 0)), none⟩, none⟩, ⟨⟨(some 7), (.un .neg (.tmp 6)), none⟩, none⟩, ⟨⟨(some 8), (.maxs [(.tmp 5), (.tmp 7)]), none⟩, none⟩, ⟨⟨(some 9), (.mv (.tmp 1)), none⟩, none⟩, ⟨⟨(some 10), (.mv (.tmp 1)), none⟩, none⟩, ⟨⟨(some 11), (.un .neg (.tmp 10)), none⟩, none⟩, ⟨⟨(some 12), (.maxs [(.tmp 9), (.tmp 11)]), none⟩, none⟩, ⟨⟨(some 0), (.mv (.tmp 8)), none⟩, none⟩, ⟨⟨(some 1), (.mv (.tmp 12)), none⟩, none⟩]) (.seq (.block 0 (.loop 0 [0, 1] xb_frac_common_0)) (.seq (.ops false [⟨⟨(some 19), (.mv (.tmp 0)), none⟩, none⟩, ⟨⟨(some 4), (.mv (.tmp 19)), none⟩, none⟩]) .ret))))
def rs_frac_common : List ResultVar := [(.tmp 4)]
theorem ir_frac_common : compCode Try.prog (Try.f99.body.getD .skip) [[0, 1]] = some (xr_frac_common.erase, []) := by kernel_rfl
/-! frac_common -/
def gm_frac_common : Gam := Gam.bot
theorem gk_frac_common : GamOk Try.prog GG gm_frac_common := GamOk.bot
def st_frac_common_0 (n2 : Int) (n3 : Int) : Option (((Int × Int)) ⊕ ((Int))) :=
  bif (decide (n3 > 0)) then
   bif (decide (n3 ≠ 0)) then
    some (Sum.inl (n3, (Int.tmod n2 n3)))
   else none
  else
   some (Sum.inr n2)
def lp_frac_common_0 (n2 : Int) (n3 : Int) : Option ((Int)) := loopN (X := (Int × Int)) (fun x => st_frac_common_0 x.1 x.2) (n2, n3)
def sh_frac_common_0 : StSh := ⟨20, [(0, (.p (.int .i64))), (1, (.p (.int .i64)))], []⟩
def sx_frac_common_0 (x : (Int × Int)) : St := ⟨slots 20 0 [(0, (.p (.int .i64 x.1))), (1, (.p (.int .i64 x.2)))], []⟩
def sa_frac_common_0 (S : St) : (Int × Int) := (((tls 0 S.t).headD .any).pv.num, ((tls 1 S.t).headD .any).pv.num)
def tz_frac_common_0_0 : StSh := ⟨20, [(0, (.p (.int .i64)))], []⟩
def tx_frac_common_0_0 (x : Int) : St := ⟨slots 20 0 [(0, (.p (.int .i64 x)))], []⟩
def ta_frac_common_0_0 (S : St) : Int := ((tls 0 S.t).headD .any).pv.num
def kb_frac_common_0 : Exit → St → Tree (((Int × Int)) ⊕ ((Int))) := (exOne (.exit 0) [0] tz_frac_common_0_0 ta_frac_common_0_0 (fun y => Sum.inr (y)) exNil)
def ky_frac_common_0 : Dec ((Int)) := fun _ y ke => ke ((.exit 0) : EK).ex (tx_frac_common_0_0 y)
theorem kk_frac_common_0 : ExOk Sum.inr kb_frac_common_0 ky_frac_common_0 := (ExOk.one (acc := ta_frac_common_0_0) (bY := tx_frac_common_0_0) (inj1 := fun y => y) (fun S => by kernel_rfl) (fun y _ ke => .inr (by kernel_rfl)) ExOk.nil)
def lm_frac_common : Lam := fun _ j S kn ke => match j with
  | 0 => prepT [0, 1] [] S fun S => .chk (sh_frac_common_0.ok S) (.bind (loopN (fun x => st_frac_common_0 x.1 x.2) (sa_frac_common_0 S)) fun y => ky_frac_common_0 _ y ke)
  | _ => .fail
theorem sr_frac_common_0 (x : (Int × Int)) : (ev GG gm_frac_common lm_frac_common xb_frac_common_0 (sx_frac_common_0 x) (fun S => forgetT [0, 1] S fun S => prepT [0, 1] [] S fun S => .chk (sh_frac_common_0.ok S) (.leaf (.inl (sa_frac_common_0 S)))) kb_frac_common_0).run = st_frac_common_0 x.1 x.2 := by kernel_rfl
theorem la_frac_common_0 : LamAt Try.prog GG lm_frac_common 0 (.loop [0, 1] xb_frac_common_0.erase) := lam_loop (body := xb_frac_common_0) (Λ' := lm_frac_common) gk_frac_common (⟨⟨trivial, ⟨trivial, trivial⟩⟩, trivial⟩) (fun S => (by kernel_rfl : sh_frac_common_0.build S = sx_frac_common_0 (sa_frac_common_0 S))) kk_frac_common_0 sr_frac_common_0 (fun _ _ _ => rfl)
/-- frac_common -/
def go_frac_common (n0 : Int) (n1 : Int) : Option Int :=
  (lp_frac_common_0 (max n0 (IntKind.wrap .i64 (0 - n0))) (max n1 (IntKind.wrap .i64 (0 - n1)))).bind fun y4 =>
  some y4
def em_frac_common (r : Int) : PV := (.int .i64 r)
def rh_frac_common : Shp := (.int .i64)
def ra_frac_common (v : PV) : Int := v.num
def kf_frac_common (v : PV) : Tree Int := .chk (rh_frac_common.ok v) (.leaf (ra_frac_common v))
theorem rn_frac_common (n0 : Int) (n1 : Int) : (ev GG gm_frac_common lm_frac_common xr_frac_common ⟨slots 20 0 [(0, .p (.int .i64 n0)), (1, .p (.int .i64 n1))], []⟩ (fun S => finT Try.prog rs_frac_common S kf_frac_common) (retT Try.prog rs_frac_common kf_frac_common)).run = go_frac_common n0 n1 := by kernel_rfl
theorem ok_frac_common (n0 : Int) (n1 : Int) (r : Int) (h : go_frac_common n0 n1 = some r) : FunEq Try.prog GG 99 [(.int .i64 n0), (.int .i64 n1)] (em_frac_common r) :=
  fun_of_ev (x := xr_frac_common) (Λ := lm_frac_common) gk_frac_common [[0, 1]] Try.func99 rfl (by kernel_rfl) ir_frac_common (by kernel_rfl) (congrArg Array.toList Try.results99) Try.ntmps99 (⟨trivial, ⟨trivial, ⟨la_frac_common_0, ⟨trivial, trivial⟩⟩⟩⟩) (leaf_of fun v => (by kernel_rfl : rh_frac_common.build v = em_frac_common (ra_frac_common v))) (by kernel_rfl) ((rn_frac_common n0 n1).trans h)
def as_frac_common : List Shp := [(.int .i64), (.int .i64)]
def ga_frac_common (vs : List PV) : Option Int := go_frac_common ((tls 0 vs).headD .nilSl).num ((tls 1 vs).headD .nilSl).num
theorem at_frac_common : FnAt Try.prog GG 99 as_frac_common ga_frac_common em_frac_common := fun vs h r hr => by
  have e : Shp.buildL as_frac_common vs = [(.int .i64 ((tls 0 vs).headD .nilSl).num), (.int .i64 ((tls 1 vs).headD .nilSl).num)] := by kernel_rfl
  rw [← Shp.buildL_eq _ h, e]
  exact .inl ⟨by decide, ok_frac_common _ _ r hr⟩

def xr_frac_New : XR := (.seq (.ops false [⟨⟨(some 4), (.alloc 58 [(.int .i64 (0)), (.int .i64 (0)), (.bool false)]), none⟩, none⟩]) (.seq (.seq (.ops false [⟨⟨(some 6), (.mv (.tmp 0)), none⟩, none⟩, ⟨⟨(some 7), (.bin .gtr (.tmp 6) (.c (.int .i64 (1152921504606846976)))), none⟩, none⟩, ⟨⟨(some 8), (.mv (.tmp 7)), none⟩, none⟩, ⟨⟨(some 9), (.mv (.tmp 0)), (some (8, false))⟩, none⟩, ⟨⟨(some 10), (.bin .lss (.tmp 9) (.c (.int .i64 (-1152921504606846976)))), (some (8, false))⟩, none⟩, ⟨⟨(some 11), (.pick (.tmp 8) (.c (.bool true)) (.tmp 10)), none⟩, none⟩, ⟨⟨(some 12), (.mv (.tmp 11)), none⟩, none⟩, ⟨⟨(some 13), (.mv (.tmp 1)), (some (12, false))⟩, none⟩, ⟨⟨(some 14), (.bin .gtr (.tmp 13) (.c (.int .i64 (1152921504606846976)))), (some (12, false))⟩, none⟩, ⟨⟨(some 15), (.pick (.tmp 12) (.c (.bool true)) (.tmp 14)), none⟩, none⟩, ⟨⟨(some 16), (.mv (.tmp 15)), none⟩, none⟩, ⟨⟨(some 17), (.mv (.tmp 1)), (some (16, false))⟩, none⟩, ⟨⟨(some 18), (.bin .lss (.tmp 17) (.c (.int .i64 (-1152921504606846976)))), (some (16, false))⟩, none⟩, ⟨⟨(some 19), (.pick (.tmp 16) (.c (.bool true)) (.tmp 18)), none⟩, none⟩, ⟨⟨(some 20), (.mv (.tmp 19)), none⟩, none⟩, ⟨⟨(some 21), (.mv (.tmp 1)), (some (20, false))⟩, none⟩, ⟨⟨(some 22), (.bin .eql (.tmp 21) (.c (.int .i64 (0)))), (some (20, false))⟩, none⟩, ⟨⟨(some 23), (.pick (.tmp 20) (.c (.bool true)) (.tmp 22)), none⟩, none⟩]) (.cond (.tmp 23) (.seq (.ops false [⟨⟨(some 24), (.call (.func 98) []), none⟩, none⟩, ⟨⟨none, (.st 3 (.tmp 4) (.tmp 24)), none⟩, none⟩]) .ret) .skip)) (.seq (.seq (.ops false [⟨⟨(some 25), (.mv (.tmp 1)), none⟩, none⟩, ⟨⟨(some 26), (.bin .lss (.tmp 25) (.c (.int .i64 (0)))), none⟩, none⟩]) (.cond (.tmp 26) (.ops false [⟨⟨(some 27), (.mv (.tmp 0)), none⟩, none⟩, ⟨⟨(some 28), (.un .neg (.tmp 27)), none⟩, none⟩, ⟨⟨(some 29), (.mv (.tmp 1)), none⟩, none⟩, ⟨⟨(some 30), (.un .neg (.tmp 29)), none⟩, none⟩, ⟨⟨(some 0), (.mv (.tmp 28)), none⟩, none⟩, ⟨⟨(some 1), (.mv (.tmp 30)), none⟩, none⟩]) .skip)) (.seq (.ops false [⟨⟨(some 31), (.mv (.tmp 0)), none⟩, none⟩, ⟨⟨(some 32), (.mv (.tmp 1)), none⟩, none⟩, ⟨⟨(some 33), (.call (.func 99) [(.tmp 31), (.tmp 32)]), none⟩, none⟩, ⟨⟨(some 5), (.mv (.tmp 33)), none⟩, none⟩]) (.seq (.ops true [⟨⟨(some 34), (.mv (.tmp 0)), none⟩, none⟩, ⟨⟨(some 35), (.mv (.tmp 5)), none⟩, none⟩, ⟨⟨(some 36), (.bin .quo (.tmp 34) (.tmp 35)), none⟩, none⟩, ⟨⟨(some 37), (.mv (.tmp 1)), none⟩, none⟩, ⟨⟨(some 38), (.mv (.tmp 5)), none⟩, none⟩, ⟨⟨(some 39), (.bin .quo (.tmp 37) (.tmp 38)), none⟩, none⟩, ⟨⟨(some 0), (.mv (.tmp 36)), none⟩, none⟩, ⟨⟨(some 1), (.mv (.tmp 39)), none⟩, none⟩]) (.seq (.seq (.ops false [⟨⟨(some 40), (.mv (.tmp 0)), none⟩, none⟩, ⟨⟨(some 41), (.bin .gtr (.tmp 40) (.c (.int .i64 (1073741824)))), none⟩, none⟩, ⟨⟨(some 42), (.mv (.tmp 41)), none⟩, none⟩, ⟨⟨(some 43), (.mv (.tmp 0)), (some (42, false))⟩, none⟩, ⟨⟨(some 44), (.bin .lss (.tmp 43) (.c (.int .i64 (-1073741824)))), (some (42, false))⟩, none⟩, ⟨⟨(some 45), (.pick (.tmp 42) (.c (.bool true)) (.tmp 44)), none⟩, none⟩, ⟨⟨(some 46), (.mv (.tmp 45)), none⟩, none⟩, ⟨⟨(some 47), (.mv (.tmp 1)), (some (46, false))⟩, none⟩, ⟨⟨(some 48), (.bin .gtr (.tmp 47) (.c (.int .i64 (1073741824)))), (some (46, false))⟩, none⟩, ⟨⟨(some 49), (.pick (.tmp 46) (.c (.bool true)) (.tmp 48)), none⟩, none⟩]) (.cond (.tmp 49) (.seq (.ops false [⟨⟨(some 50), (.call (.func 98) []), none⟩, none⟩, ⟨⟨none, (.st 3 (.tmp 4) (.tmp 50)), none⟩, none⟩]) .ret) .skip)) (.seq (.ops false [⟨⟨(some 51), (.mv (.tmp 0)), none⟩, none⟩, ⟨⟨(some 52), (.mv (.tmp 1)), none⟩, none⟩, ⟨⟨(some 53), (.build [(.int .i64 (0)), (.int .i64 (0)), (.bool false)] [(0, (1, (.tmp 51))), (1, (1, (.tmp 52)))]), none⟩, none⟩, ⟨⟨none, (.st 3 (.tmp 4) (.tmp 53)), none⟩, none⟩]) .ret)))))))
def rs_frac_New : List ResultVar := [(.cell 4 58)]
theorem ir_frac_New : compCode Try.prog (Try.f58.body.getD .skip) [] = some (xr_frac_New.erase, []) := by kernel_rfl
/-! frac_New -/
def gm_frac_New : Gam := (Gam.fn 98 as_frac_Wrong ga_frac_Wrong em_frac_Wrong (Gam.fn 99 as_frac_common ga_frac_common em_frac_common Gam.bot))
theorem gk_frac_New : GamOk Try.prog GG gm_frac_New := (GamOk.fn at_frac_Wrong (GamOk.fn at_frac_common GamOk.bot))
def lm_frac_New : Lam := fun _ j S kn ke => match j with
  | _ => .fail
/-- frac_New -/
def go_frac_New (n0 : Int) (n1 : Int) : Option (Int × Int × Bool) :=
  bif (decide (n0 > 1152921504606846976)) then
   (go_frac_Wrong).bind fun r2 =>
   some (r2.1, r2.2.1, r2.2.2)
  else
   bif (decide (n0 < (-1152921504606846976))) then
    (go_frac_Wrong).bind fun r3 =>
    some (r3.1, r3.2.1, r3.2.2)
   else
    bif (decide (n1 > 1152921504606846976)) then
     (go_frac_Wrong).bind fun r4 =>
     some (r4.1, r4.2.1, r4.2.2)
    else
     bif (decide (n1 < (-1152921504606846976))) then
      (go_frac_Wrong).bind fun r5 =>
      some (r5.1, r5.2.1, r5.2.2)
     else
      bif (n1 == 0) then
       (go_frac_Wrong).bind fun r6 =>
       some (r6.1, r6.2.1, r6.2.2)
      else
       bif (decide (n1 < 0)) then
        (go_frac_common (IntKind.wrap .i64 (0 - n0)) (IntKind.wrap .i64 (0 - n1))).bind fun r7 =>
        bif (decide (r7 ≠ 0)) then
         bif (decide (r7 ≠ 0)) then
          bif (decide ((IntKind.wrap .i64 (Int.tdiv (IntKind.wrap .i64 (0 - n0)) r7)) > 1073741824)) then
           (go_frac_Wrong).bind fun r8 =>
           some (r8.1, r8.2.1, r8.2.2)
          else
           bif (decide ((IntKind.wrap .i64 (Int.tdiv (IntKind.wrap .i64 (0 - n0)) r7)) < (-1073741824))) then
            (go_frac_Wrong).bind fun r9 =>
            some (r9.1, r9.2.1, r9.2.2)
           else
            bif (decide ((IntKind.wrap .i64 (Int.tdiv (IntKind.wrap .i64 (0 - n1)) r7)) > 1073741824)) then
             (go_frac_Wrong).bind fun r10 =>
             some (r10.1, r10.2.1, r10.2.2)
            else
             some ((IntKind.wrap .i64 (Int.tdiv (IntKind.wrap .i64 (0 - n0)) r7)), (IntKind.wrap .i64 (Int.tdiv (IntKind.wrap .i64 (0 - n1)) r7)), false)
         else none
        else none
       else
        (go_frac_common n0 n1).bind fun r11 =>
        bif (decide (r11 ≠ 0)) then
         bif (decide (r11 ≠ 0)) then
          bif (decide ((IntKind.wrap .i64 (Int.tdiv n0 r11)) > 1073741824)) then
           (go_frac_Wrong).bind fun r12 =>
           some (r12.1, r12.2.1, r12.2.2)
          else
           bif (decide ((IntKind.wrap .i64 (Int.tdiv n0 r11)) < (-1073741824))) then
            (go_frac_Wrong).bind fun r13 =>
            some (r13.1, r13.2.1, r13.2.2)
           else
            bif (decide ((IntKind.wrap .i64 (Int.tdiv n1 r11)) > 1073741824)) then
             (go_frac_Wrong).bind fun r14 =>
             some (r14.1, r14.2.1, r14.2.2)
            else
             some ((IntKind.wrap .i64 (Int.tdiv n0 r11)), (IntKind.wrap .i64 (Int.tdiv n1 r11)), false)
         else none
        else none
def em_frac_New (r : (Int × Int × Bool)) : PV := (.agg [(.int .i64 r.1), (.int .i64 r.2.1), (.bool r.2.2)])
def rh_frac_New : Shp := (.agg [(.int .i64), (.int .i64), .bool])
def ra_frac_New (v : PV) : (Int × Int × Bool) := ((v.subs.headD .nilSl).num, (v.subs.tail.headD .nilSl).num, (v.subs.tail.tail.headD .nilSl).tru)
def kf_frac_New (v : PV) : Tree (Int × Int × Bool) := .chk (rh_frac_New.ok v) (.leaf (ra_frac_New v))
theorem rn_frac_New (n0 : Int) (n1 : Int) : (ev GG gm_frac_New lm_frac_New xr_frac_New ⟨slots 54 0 [(0, .p (.int .i64 n0)), (1, .p (.int .i64 n1))], []⟩ (fun S => finT Try.prog rs_frac_New S kf_frac_New) (retT Try.prog rs_frac_New kf_frac_New)).run = go_frac_New n0 n1 := by kernel_rfl
theorem ok_frac_New (n0 : Int) (n1 : Int) (r : (Int × Int × Bool)) (h : go_frac_New n0 n1 = some r) : FunEq Try.prog GG 58 [(.int .i64 n0), (.int .i64 n1)] (em_frac_New r) :=
  fun_of_ev (x := xr_frac_New) (Λ := lm_frac_New) gk_frac_New [] Try.func58 rfl (by kernel_rfl) ir_frac_New (by kernel_rfl) (congrArg Array.toList Try.results58) Try.ntmps58 (⟨trivial, ⟨⟨trivial, ⟨⟨trivial, trivial⟩, trivial⟩⟩, ⟨⟨trivial, ⟨trivial, trivial⟩⟩, ⟨trivial, ⟨trivial, ⟨⟨trivial, ⟨⟨trivial, trivial⟩, trivial⟩⟩, ⟨trivial, trivial⟩⟩⟩⟩⟩⟩⟩) (leaf_of fun v => (by kernel_rfl : rh_frac_New.build v = em_frac_New (ra_frac_New v))) (by kernel_rfl) ((rn_frac_New n0 n1).trans h)
def as_frac_New : List Shp := [(.int .i64), (.int .i64)]
def ga_frac_New (vs : List PV) : Option (Int × Int × Bool) := go_frac_New ((tls 0 vs).headD .nilSl).num ((tls 1 vs).headD .nilSl).num
theorem at_frac_New : FnAt Try.prog GG 58 as_frac_New ga_frac_New em_frac_New := fun vs h r hr => by
  have e : Shp.buildL as_frac_New vs = [(.int .i64 ((tls 0 vs).headD .nilSl).num), (.int .i64 ((tls 1 vs).headD .nilSl).num)] := by kernel_rfl
  rw [← Shp.buildL_eq _ h, e]
  exact .inl ⟨by decide, ok_frac_New _ _ r hr⟩

def xr_frac_Frac_Of : XR := (.seq (.ops false [⟨⟨(some 2), (.box 58 (.tmp 0)), none⟩, none⟩, ⟨⟨(some 4), (.alloc 58 [(.int .i64 (0)), (.int .i64 (0)), (.bool false)]), none⟩, none⟩]) (.seq (.ops false [⟨⟨(some 5), (.mv (.tmp 1)), none⟩, none⟩, ⟨⟨(some 6), (.call (.func 58) [(.tmp 5), (.c (.int .i64 (1)))]), none⟩, none⟩, ⟨⟨none, (.st 3 (.tmp 4) (.tmp 6)), none⟩, none⟩]) .ret))
def rs_frac_Frac_Of : List ResultVar := [(.cell 4 58)]
theorem ir_frac_Frac_Of : compCode Try.prog (Try.f140.body.getD .skip) [] = some (xr_frac_Frac_Of.erase, []) := by kernel_rfl
/-! frac_Frac_Of -/
def gm_frac_Frac_Of : Gam := (Gam.fn 58 as_frac_New ga_frac_New em_frac_New Gam.bot)
theorem gk_frac_Frac_Of : GamOk Try.prog GG gm_frac_Frac_Of := (GamOk.fn at_frac_New GamOk.bot)
def lm_frac_Frac_Of : Lam := fun _ j S kn ke => match j with
  | _ => .fail
/-- frac_Frac_Of -/
def go_frac_Frac_Of (n0 : Int) (n1 : Int) (b2 : Bool) (n3 : Int) : Option (Int × Int × Bool) :=
  (go_frac_New n3 1).bind fun r4 =>
  some (r4.1, r4.2.1, r4.2.2)
def em_frac_Frac_Of (r : (Int × Int × Bool)) : PV := (.agg [(.int .i64 r.1), (.int .i64 r.2.1), (.bool r.2.2)])
def rh_frac_Frac_Of : Shp := (.agg [(.int .i64), (.int .i64), .bool])
def ra_frac_Frac_Of (v : PV) : (Int × Int × Bool) := ((v.subs.headD .nilSl).num, (v.subs.tail.headD .nilSl).num, (v.subs.tail.tail.headD .nilSl).tru)
def kf_frac_Frac_Of (v : PV) : Tree (Int × Int × Bool) := .chk (rh_frac_Frac_Of.ok v) (.leaf (ra_frac_Frac_Of v))
theorem rn_frac_Frac_Of (n0 : Int) (n1 : Int) (b2 : Bool) (n3 : Int) : (ev GG gm_frac_Frac_Of lm_frac_Frac_Of xr_frac_Frac_Of ⟨slots 7 0 [(0, .p (.agg [(.int .i64 n0), (.int .i64 n1), (.bool b2)])), (1, .p (.int .i64 n3))], []⟩ (fun S => finT Try.prog rs_frac_Frac_Of S kf_frac_Frac_Of) (retT Try.prog rs_frac_Frac_Of kf_frac_Frac_Of)).run = go_frac_Frac_Of n0 n1 b2 n3 := by kernel_rfl
theorem ok_frac_Frac_Of (n0 : Int) (n1 : Int) (b2 : Bool) (n3 : Int) (r : (Int × Int × Bool)) (h : go_frac_Frac_Of n0 n1 b2 n3 = some r) : FunEq Try.prog GG 140 [(.agg [(.int .i64 n0), (.int .i64 n1), (.bool b2)]), (.int .i64 n3)] (em_frac_Frac_Of r) :=
  fun_of_ev (x := xr_frac_Frac_Of) (Λ := lm_frac_Frac_Of) gk_frac_Frac_Of [] Try.func140 rfl (by kernel_rfl) ir_frac_Frac_Of (by kernel_rfl) (congrArg Array.toList Try.results140) Try.ntmps140 (⟨trivial, ⟨trivial, trivial⟩⟩) (leaf_of fun v => (by kernel_rfl : rh_frac_Frac_Of.build v = em_frac_Frac_Of (ra_frac_Frac_Of v))) (by kernel_rfl) ((rn_frac_Frac_Of n0 n1 b2 n3).trans h)
def as_frac_Frac_Of : List Shp := [(.agg [(.int .i64), (.int .i64), .bool]), (.int .i64)]
def ga_frac_Frac_Of (vs : List PV) : Option (Int × Int × Bool) := go_frac_Frac_Of (((tls 0 vs).headD .nilSl).subs.headD .nilSl).num (((tls 0 vs).headD .nilSl).subs.tail.headD .nilSl).num (((tls 0 vs).headD .nilSl).subs.tail.tail.headD .nilSl).tru ((tls 1 vs).headD .nilSl).num
theorem at_frac_Frac_Of : FnAt Try.prog GG 140 as_frac_Frac_Of ga_frac_Frac_Of em_frac_Frac_Of := fun vs h r hr => by
  have e : Shp.buildL as_frac_Frac_Of vs = [(.agg [(.int .i64 (((tls 0 vs).headD .nilSl).subs.headD .nilSl).num), (.int .i64 (((tls 0 vs).headD .nilSl).subs.tail.headD .nilSl).num), (.bool (((tls 0 vs).headD .nilSl).subs.tail.tail.headD .nilSl).tru)]), (.int .i64 ((tls 1 vs).headD .nilSl).num)] := by kernel_rfl
  rw [← Shp.buildL_eq _ h, e]
  exact .inl ⟨by decide, ok_frac_Frac_Of _ _ _ _ r hr⟩

def xb_vec_Whole_frac_Frac_0 : XR := (.seq (.ops false [⟨⟨(some 10), (.bin .lss (.tmp 9) (.tmp 8)), none⟩, none⟩]) (.seq (.cond (.tmp 10) .skip (.exit 0)) (.seq (.block 1 (.seq (.ops false [⟨⟨(some 11), (.ixA 1 (.tmp 7) (.tmp 9)), none⟩, none⟩, ⟨⟨(some 12), (.ld false 1 (.tmp 11)), none⟩, (some (.int .i64))⟩, ⟨⟨(some 6), (.mv (.tmp 12)), none⟩, none⟩]) (.ops false [⟨⟨(some 13), (.mv (.tmp 3)), none⟩, none⟩, ⟨⟨(some 14), (.ld true 3 (.tmp 4)), none⟩, (some (.agg [(.int .i64), (.int .i64), .bool]))⟩, ⟨⟨(some 15), (.mkI 58 (.tmp 14)), none⟩, none⟩, ⟨⟨(some 16), (.mv (.tmp 6)), none⟩, none⟩, ⟨⟨(some 17), (.callI 140 58 (.tmp 15) [(.tmp 16)]), none⟩, none⟩, ⟨⟨(some 18), (.bsl 58 none 3 [(.tmp 17)]), none⟩, none⟩, ⟨⟨(some 19), (.app 58 none 3 24 (.tmp 13) (.tmp 18)), none⟩, none⟩, ⟨⟨(some 3), (.mv (.tmp 19)), none⟩, none⟩]))) (.ops false [⟨⟨(some 20), (.bin .add (.tmp 9) (.c (.int .i64 (1)))), none⟩, none⟩, ⟨⟨(some 9), (.mv (.tmp 20)), none⟩, none⟩]))))
def xr_vec_Whole_frac_Frac : XR := (.seq (.ops false [⟨⟨(some 2), (.mv (.c (.sl true true 3 []))), none⟩, none⟩]) (.seq (.ops false [⟨⟨(some 3), (.mv (.c (.sl true true 3 []))), none⟩, none⟩]) (.seq (.ops false [⟨⟨(some 4), (.alloc 58 [(.int .i64 (0)), (.int .i64 (0)), (.bool false)]), none⟩, none⟩]) (.seq (.seq (.ops false [⟨⟨(some 7), (.mv (.tmp 0)), none⟩, none⟩, ⟨⟨(some 8), (.len (.tmp 7)), none⟩, none⟩, ⟨⟨(some 9), (.mv (.c (.int .i64 (0)))), none⟩, none⟩]) (.block 0 (.loop 0 [3, 4, 7, 8, 9] xb_vec_Whole_frac_Frac_0))) (.seq (.ops false [⟨⟨(some 21), (.mv (.tmp 3)), none⟩, none⟩, ⟨⟨(some 2), (.mv (.tmp 21)), none⟩, none⟩]) .ret)))))
def rs_vec_Whole_frac_Frac : List ResultVar := [(.tmp 2)]
theorem ir_vec_Whole_frac_Frac : compCode Try.prog (Try.f55.body.getD .skip) [[3, 4, 7, 8, 9]] = some (xr_vec_Whole_frac_Frac.erase, []) := by kernel_rfl
/-! vec_Whole_frac_Frac -/
def gm_vec_Whole_frac_Frac : Gam := (Gam.fn 140 as_frac_Frac_Of ga_frac_Frac_Of em_frac_Frac_Of Gam.bot)
theorem gk_vec_Whole_frac_Frac : GamOk Try.prog GG gm_vec_Whole_frac_Frac := (GamOk.fn at_frac_Frac_Of GamOk.bot)
def st_vec_Whole_frac_Frac_0 (b3 : Bool) (b4 : Bool) (l5 : List Int) (n6 : Int) (n7 : Int) (b8 : Bool) (b9 : Bool) (es10 : List PV) (n11 : Int) (n12 : Int) (b13 : Bool) : Option (((Bool × Bool × List Int × Int × Int × Bool × Bool × List PV × Int × Int × Bool)) ⊕ (((Bool × Bool × List PV)))) :=
  bif (decide (n7 < n6)) then
   bif (decide (0 ≤ n7)) then
    bif (decide (n7 < (((List.length l5) : Nat) : Int))) then
     bif (decide ((Int.toNat n7) < (List.length l5))) then
      (go_frac_Frac_Of n11 n12 b13 (List.getD l5 (Int.toNat n7) 0)).bind fun r14 =>
      bif (decide ((((List.length es10) + 1) * 24) ≤ 140737488355328)) then
       bif (decide (((List.length es10) + 1) ≤ 4611686018427387904)) then
        some (Sum.inl (b3, b4, l5, n6, (IntKind.wrap .i64 (n7 + 1)), (b8 && false), false, (es10 ++ [(.agg [(.int .i64 r14.1), (.int .i64 r14.2.1), (.bool r14.2.2)])]), n11, n12, b13))
       else none
      else none
     else none
    else none
   else none
  else
   some (Sum.inr (b8, b9, es10))
def lp_vec_Whole_frac_Frac_0 (b3 : Bool) (b4 : Bool) (l5 : List Int) (n6 : Int) (n7 : Int) (b8 : Bool) (b9 : Bool) (es10 : List PV) (n11 : Int) (n12 : Int) (b13 : Bool) : Option (((Bool × Bool × List PV))) := loopN (X := (Bool × Bool × List Int × Int × Int × Bool × Bool × List PV × Int × Int × Bool)) (fun x => st_vec_Whole_frac_Frac_0 x.1 x.2.1 x.2.2.1 x.2.2.2.1 x.2.2.2.2.1 x.2.2.2.2.2.1 x.2.2.2.2.2.2.1 x.2.2.2.2.2.2.2.1 x.2.2.2.2.2.2.2.2.1 x.2.2.2.2.2.2.2.2.2.1 x.2.2.2.2.2.2.2.2.2.2) (b3, b4, l5, n6, n7, b8, b9, es10, n11, n12, b13)
def sh_vec_Whole_frac_Frac_0 : StSh := ⟨22, [(3, (.row 0)), (4, (.ptr 1 0)), (7, (.p (.isl .i64))), (8, (.p (.int .i64))), (9, (.p (.int .i64)))], [(.row 58 3), (.box 58 [(.p (.int .i64)), (.p (.int .i64)), (.p .bool)])]⟩
def sx_vec_Whole_frac_Frac_0 (x : (Bool × Bool × List Int × Int × Int × Bool × Bool × List PV × Int × Int × Bool)) : St := ⟨slots 22 0 [(3, (.row 0)), (4, (.ptr 1 0)), (7, (.p (.isl x.1 x.2.1 .i64 x.2.2.1))), (8, (.p (.int .i64 x.2.2.2.1))), (9, (.p (.int .i64 x.2.2.2.2.1)))], [(.row 58 3 x.2.2.2.2.2.1 x.2.2.2.2.2.2.1 x.2.2.2.2.2.2.2.1), (.box 58 [(.p (.int .i64 x.2.2.2.2.2.2.2.2.1)), (.p (.int .i64 x.2.2.2.2.2.2.2.2.2.1)), (.p (.bool x.2.2.2.2.2.2.2.2.2.2))])]⟩
def sa_vec_Whole_frac_Frac_0 (S : St) : (Bool × Bool × List Int × Int × Int × Bool × Bool × List PV × Int × Int × Bool) := (((tls 7 S.t).headD .any).pv.nl, ((tls 7 S.t).headD .any).pv.ex, ((tls 7 S.t).headD .any).pv.ints, ((tls 8 S.t).headD .any).pv.num, ((tls 9 S.t).headD .any).pv.num, ((tls 0 S.own).headD .gone).pvD.nl, ((tls 0 S.own).headD .gone).pvD.ex, ((tls 0 S.own).headD .gone).pvD.elts, (((tls 1 S.own).headD .gone).subs.headD .any).pv.num, (((tls 1 S.own).headD .gone).subs.tail.headD .any).pv.num, (((tls 1 S.own).headD .gone).subs.tail.tail.headD .any).pv.tru)
def tz_vec_Whole_frac_Frac_0_0 : StSh := ⟨22, [(3, (.row 0))], [(.row 58 3)]⟩
def tx_vec_Whole_frac_Frac_0_0 (x : (Bool × Bool × List PV)) : St := ⟨slots 22 0 [(3, (.row 0))], [(.row 58 3 x.1 x.2.1 x.2.2)]⟩
def ta_vec_Whole_frac_Frac_0_0 (S : St) : (Bool × Bool × List PV) := (((tls 0 S.own).headD .gone).pvD.nl, ((tls 0 S.own).headD .gone).pvD.ex, ((tls 0 S.own).headD .gone).pvD.elts)
def kb_vec_Whole_frac_Frac_0 : Exit → St → Tree (((Bool × Bool × List Int × Int × Int × Bool × Bool × List PV × Int × Int × Bool)) ⊕ (((Bool × Bool × List PV)))) := (exOne (.exit 0) [3] tz_vec_Whole_frac_Frac_0_0 ta_vec_Whole_frac_Frac_0_0 (fun y => Sum.inr (y)) exNil)
def ky_vec_Whole_frac_Frac_0 : Dec (((Bool × Bool × List PV))) := fun _ y ke => ke ((.exit 0) : EK).ex (tx_vec_Whole_frac_Frac_0_0 y)
theorem kk_vec_Whole_frac_Frac_0 : ExOk Sum.inr kb_vec_Whole_frac_Frac_0 ky_vec_Whole_frac_Frac_0 := (ExOk.one (acc := ta_vec_Whole_frac_Frac_0_0) (bY := tx_vec_Whole_frac_Frac_0_0) (inj1 := fun y => y) (fun S => by kernel_rfl) (fun y _ ke => .inr (by kernel_rfl)) ExOk.nil)
def lm_vec_Whole_frac_Frac : Lam := fun _ j S kn ke => match j with
  | 0 => prepT [3, 4, 7, 8, 9] [(3, 58)] S fun S => .chk (sh_vec_Whole_frac_Frac_0.ok S) (.bind (loopN (fun x => st_vec_Whole_frac_Frac_0 x.1 x.2.1 x.2.2.1 x.2.2.2.1 x.2.2.2.2.1 x.2.2.2.2.2.1 x.2.2.2.2.2.2.1 x.2.2.2.2.2.2.2.1 x.2.2.2.2.2.2.2.2.1 x.2.2.2.2.2.2.2.2.2.1 x.2.2.2.2.2.2.2.2.2.2) (sa_vec_Whole_frac_Frac_0 S)) fun y => ky_vec_Whole_frac_Frac_0 _ y ke)
  | _ => .fail
theorem sr_vec_Whole_frac_Frac_0 (x : (Bool × Bool × List Int × Int × Int × Bool × Bool × List PV × Int × Int × Bool)) : (ev GG gm_vec_Whole_frac_Frac lm_vec_Whole_frac_Frac xb_vec_Whole_frac_Frac_0 (sx_vec_Whole_frac_Frac_0 x) (fun S => forgetT [3, 4, 7, 8, 9] S fun S => prepT [3, 4, 7, 8, 9] [(3, 58)] S fun S => .chk (sh_vec_Whole_frac_Frac_0.ok S) (.leaf (.inl (sa_vec_Whole_frac_Frac_0 S)))) kb_vec_Whole_frac_Frac_0).run = st_vec_Whole_frac_Frac_0 x.1 x.2.1 x.2.2.1 x.2.2.2.1 x.2.2.2.2.1 x.2.2.2.2.2.1 x.2.2.2.2.2.2.1 x.2.2.2.2.2.2.2.1 x.2.2.2.2.2.2.2.2.1 x.2.2.2.2.2.2.2.2.2.1 x.2.2.2.2.2.2.2.2.2.2 := by kernel_rfl
theorem la_vec_Whole_frac_Frac_0 : LamAt Try.prog GG lm_vec_Whole_frac_Frac 0 (.loop [3, 4, 7, 8, 9] xb_vec_Whole_frac_Frac_0.erase) := lam_loop (body := xb_vec_Whole_frac_Frac_0) (Λ' := lm_vec_Whole_frac_Frac) gk_vec_Whole_frac_Frac (⟨trivial, ⟨⟨trivial, trivial⟩, ⟨⟨trivial, trivial⟩, trivial⟩⟩⟩) (fun S => (by kernel_rfl : sh_vec_Whole_frac_Frac_0.build S = sx_vec_Whole_frac_Frac_0 (sa_vec_Whole_frac_Frac_0 S))) kk_vec_Whole_frac_Frac_0 sr_vec_Whole_frac_Frac_0 (fun _ _ _ => rfl)
/-- vec_Whole_frac_Frac -/
def go_vec_Whole_frac_Frac (b0 : Bool) (b1 : Bool) (l2 : List Int) : Option (Bool × Bool × List PV) :=
  (lp_vec_Whole_frac_Frac_0 b0 b1 l2 (((List.length l2) : Nat) : Int) 0 true true [] 0 0 false).bind fun y15 =>
  some (y15.1, y15.2.1, y15.2.2)
def em_vec_Whole_frac_Frac (r : (Bool × Bool × List PV)) : PV := (.sl r.1 r.2.1 3 r.2.2)
def rh_vec_Whole_frac_Frac : Shp := (.sl 3)
def ra_vec_Whole_frac_Frac (v : PV) : (Bool × Bool × List PV) := (v.nl, v.ex, v.elts)
def kf_vec_Whole_frac_Frac (v : PV) : Tree (Bool × Bool × List PV) := .chk (rh_vec_Whole_frac_Frac.ok v) (.leaf (ra_vec_Whole_frac_Frac v))
theorem rn_vec_Whole_frac_Frac (b0 : Bool) (b1 : Bool) (l2 : List Int) : (ev GG gm_vec_Whole_frac_Frac lm_vec_Whole_frac_Frac xr_vec_Whole_frac_Frac ⟨slots 22 0 [(0, .p (.isl b0 b1 .i64 l2))], []⟩ (fun S => finT Try.prog rs_vec_Whole_frac_Frac S kf_vec_Whole_frac_Frac) (retT Try.prog rs_vec_Whole_frac_Frac kf_vec_Whole_frac_Frac)).run = go_vec_Whole_frac_Frac b0 b1 l2 := by kernel_rfl
theorem ok_vec_Whole_frac_Frac (b0 : Bool) (b1 : Bool) (l2 : List Int) (r : (Bool × Bool × List PV)) (h : go_vec_Whole_frac_Frac b0 b1 l2 = some r) : FunEq Try.prog GG 55 [(.isl b0 b1 .i64 l2)] (em_vec_Whole_frac_Frac r) :=
  fun_of_ev (x := xr_vec_Whole_frac_Frac) (Λ := lm_vec_Whole_frac_Frac) gk_vec_Whole_frac_Frac [[3, 4, 7, 8, 9]] Try.func55 rfl (by kernel_rfl) ir_vec_Whole_frac_Frac (by kernel_rfl) (congrArg Array.toList Try.results55) Try.ntmps55 (⟨trivial, ⟨trivial, ⟨trivial, ⟨⟨trivial, la_vec_Whole_frac_Frac_0⟩, ⟨trivial, trivial⟩⟩⟩⟩⟩) (leaf_of fun v => (by kernel_rfl : rh_vec_Whole_frac_Frac.build v = em_vec_Whole_frac_Frac (ra_vec_Whole_frac_Frac v))) (by kernel_rfl) ((rn_vec_Whole_frac_Frac b0 b1 l2).trans h)
def as_vec_Whole_frac_Frac : List Shp := [(.isl .i64)]
def ga_vec_Whole_frac_Frac (vs : List PV) : Option (Bool × Bool × List PV) := go_vec_Whole_frac_Frac ((tls 0 vs).headD .nilSl).nl ((tls 0 vs).headD .nilSl).ex ((tls 0 vs).headD .nilSl).ints
theorem at_vec_Whole_frac_Frac : FnAt Try.prog GG 55 as_vec_Whole_frac_Frac ga_vec_Whole_frac_Frac em_vec_Whole_frac_Frac := fun vs h r hr => by
  have e : Shp.buildL as_vec_Whole_frac_Frac vs = [(.isl ((tls 0 vs).headD .nilSl).nl ((tls 0 vs).headD .nilSl).ex .i64 ((tls 0 vs).headD .nilSl).ints)] := by kernel_rfl
  rw [← Shp.buildL_eq _ h, e]
  exact .inl ⟨by decide, ok_vec_Whole_frac_Frac _ _ _ r hr⟩

def xr_vec_Pairs_frac_Frac : XR := (.seq (.ops false [⟨⟨(some 2), (.box 55 (.tmp 0)), none⟩, none⟩, ⟨⟨(some 3), (.box 55 (.tmp 1)), none⟩, none⟩, ⟨⟨(some 4), (.mv (.c .nilFn)), none⟩, none⟩]) (.seq (.ops false [⟨⟨(some 5), (.mkFn 124 [(.tmp 2), (.tmp 3)]), none⟩, none⟩, ⟨⟨(some 4), (.mv (.tmp 5)), none⟩, none⟩]) .ret))
def rs_vec_Pairs_frac_Frac : List ResultVar := [(.tmp 4)]
theorem ir_vec_Pairs_frac_Frac : compCode Try.prog (Try.f120.body.getD .skip) [] = some (xr_vec_Pairs_frac_Frac.erase, []) := by kernel_rfl
/-! vec_Pairs_frac_Frac -/
def gm_vec_Pairs_frac_Frac : Gam := Gam.bot
theorem gk_vec_Pairs_frac_Frac : GamOk Try.prog GG gm_vec_Pairs_frac_Frac := GamOk.bot
def lm_vec_Pairs_frac_Frac : Lam := fun _ j S kn ke => match j with
  | _ => .fail
/-- vec_Pairs_frac_Frac -/
def go_vec_Pairs_frac_Frac (b0 : Bool) (b1 : Bool) (es2 : List PV) (b3 : Bool) (b4 : Bool) (es5 : List PV) : Option (Bool × Bool × List PV × Bool × Bool × List PV) :=
  some (b0, b1, es2, b3, b4, es5)
def em_vec_Pairs_frac_Frac (r : (Bool × Bool × List PV × Bool × Bool × List PV)) : PV := (.fn 124 [(.ref 0 [(.sl r.1 r.2.1 3 r.2.2.1)]), (.ref 0 [(.sl r.2.2.2.1 r.2.2.2.2.1 3 r.2.2.2.2.2)])])
def rh_vec_Pairs_frac_Frac : Shp := (.fn 124 [(.ref 0 [(.sl 3)]), (.ref 0 [(.sl 3)])])
def ra_vec_Pairs_frac_Frac (v : PV) : (Bool × Bool × List PV × Bool × Bool × List PV) := (((v.subs.headD .nilSl).subs.headD .nilSl).nl, ((v.subs.headD .nilSl).subs.headD .nilSl).ex, ((v.subs.headD .nilSl).subs.headD .nilSl).elts, ((v.subs.tail.headD .nilSl).subs.headD .nilSl).nl, ((v.subs.tail.headD .nilSl).subs.headD .nilSl).ex, ((v.subs.tail.headD .nilSl).subs.headD .nilSl).elts)
def kf_vec_Pairs_frac_Frac (v : PV) : Tree (Bool × Bool × List PV × Bool × Bool × List PV) := .chk (rh_vec_Pairs_frac_Frac.ok v) (.leaf (ra_vec_Pairs_frac_Frac v))
theorem rn_vec_Pairs_frac_Frac (b0 : Bool) (b1 : Bool) (es2 : List PV) (b3 : Bool) (b4 : Bool) (es5 : List PV) : (ev GG gm_vec_Pairs_frac_Frac lm_vec_Pairs_frac_Frac xr_vec_Pairs_frac_Frac ⟨slots 6 0 [(0, .p (.sl b0 b1 3 es2)), (1, .p (.sl b3 b4 3 es5))], []⟩ (fun S => finT Try.prog rs_vec_Pairs_frac_Frac S kf_vec_Pairs_frac_Frac) (retT Try.prog rs_vec_Pairs_frac_Frac kf_vec_Pairs_frac_Frac)).run = go_vec_Pairs_frac_Frac b0 b1 es2 b3 b4 es5 := by kernel_rfl
theorem ok_vec_Pairs_frac_Frac (b0 : Bool) (b1 : Bool) (es2 : List PV) (b3 : Bool) (b4 : Bool) (es5 : List PV) (r : (Bool × Bool × List PV × Bool × Bool × List PV)) (h : go_vec_Pairs_frac_Frac b0 b1 es2 b3 b4 es5 = some r) : FunEq Try.prog GG 120 [(.sl b0 b1 3 es2), (.sl b3 b4 3 es5)] (em_vec_Pairs_frac_Frac r) :=
  fun_of_ev (x := xr_vec_Pairs_frac_Frac) (Λ := lm_vec_Pairs_frac_Frac) gk_vec_Pairs_frac_Frac [] Try.func120 rfl (by kernel_rfl) ir_vec_Pairs_frac_Frac (by kernel_rfl) (congrArg Array.toList Try.results120) Try.ntmps120 (⟨trivial, ⟨trivial, trivial⟩⟩) (leaf_of fun v => (by kernel_rfl : rh_vec_Pairs_frac_Frac.build v = em_vec_Pairs_frac_Frac (ra_vec_Pairs_frac_Frac v))) (by kernel_rfl) ((rn_vec_Pairs_frac_Frac b0 b1 es2 b3 b4 es5).trans h)
def as_vec_Pairs_frac_Frac : List Shp := [(.sl 3), (.sl 3)]
def ga_vec_Pairs_frac_Frac (vs : List PV) : Option (Bool × Bool × List PV × Bool × Bool × List PV) := go_vec_Pairs_frac_Frac ((tls 0 vs).headD .nilSl).nl ((tls 0 vs).headD .nilSl).ex ((tls 0 vs).headD .nilSl).elts ((tls 1 vs).headD .nilSl).nl ((tls 1 vs).headD .nilSl).ex ((tls 1 vs).headD .nilSl).elts
theorem at_vec_Pairs_frac_Frac : FnAt Try.prog GG 120 as_vec_Pairs_frac_Frac ga_vec_Pairs_frac_Frac em_vec_Pairs_frac_Frac := fun vs h r hr => by
  have e : Shp.buildL as_vec_Pairs_frac_Frac vs = [(.sl ((tls 0 vs).headD .nilSl).nl ((tls 0 vs).headD .nilSl).ex 3 ((tls 0 vs).headD .nilSl).elts), (.sl ((tls 1 vs).headD .nilSl).nl ((tls 1 vs).headD .nilSl).ex 3 ((tls 1 vs).headD .nilSl).elts)] := by kernel_rfl
  rw [← Shp.buildL_eq _ h, e]
  exact .inl ⟨by decide, ok_vec_Pairs_frac_Frac _ _ _ _ _ _ r hr⟩

def xr_frac_Frac_Fine : XR := (.seq (.ops false [⟨⟨(some 1), (.box 58 (.tmp 0)), none⟩, none⟩, ⟨⟨(some 2), (.mv (.c (.bool false))), none⟩, none⟩]) (.seq (.ops true [⟨⟨(some 3), (.fldA 2 (.tmp 1)), none⟩, none⟩, ⟨⟨(some 4), (.ld false 1 (.tmp 3)), none⟩, (some .bool)⟩, ⟨⟨(some 5), (.un .not (.tmp 4)), none⟩, none⟩, ⟨⟨(some 6), (.mv (.tmp 5)), none⟩, none⟩, ⟨⟨(some 7), (.fldA 1 (.tmp 1)), (some (6, true))⟩, none⟩, ⟨⟨(some 8), (.ld false 1 (.tmp 7)), (some (6, true))⟩, (some (.int .i64))⟩, ⟨⟨(some 9), (.bin .geq (.tmp 8) (.c (.int .i64 (1)))), (some (6, true))⟩, none⟩, ⟨⟨(some 10), (.pick (.tmp 6) (.tmp 9) (.c (.bool false))), none⟩, none⟩, ⟨⟨(some 11), (.mv (.tmp 10)), none⟩, none⟩, ⟨⟨(some 12), (.fldA 1 (.tmp 1)), (some (11, true))⟩, none⟩, ⟨⟨(some 13), (.ld false 1 (.tmp 12)), (some (11, true))⟩, (some (.int .i64))⟩, ⟨⟨(some 14), (.bin .leq (.tmp 13) (.c (.int .i64 (1073741824)))), (some (11, true))⟩, none⟩, ⟨⟨(some 15), (.pick (.tmp 11) (.tmp 14) (.c (.bool false))), none⟩, none⟩, ⟨⟨(some 16), (.mv (.tmp 15)), none⟩, none⟩, ⟨⟨(some 17), (.fldA 0 (.tmp 1)), (some (16, true))⟩, none⟩, ⟨⟨(some 18), (.ld false 1 (.tmp 17)), (some (16, true))⟩, (some (.int .i64))⟩, ⟨⟨(some 19), (.bin .leq (.tmp 18) (.c (.int .i64 (1073741824)))), (some (16, true))⟩, none⟩, ⟨⟨(some 20), (.pick (.tmp 16) (.tmp 19) (.c (.bool false))), none⟩, none⟩, ⟨⟨(some 21), (.mv (.tmp 20)), none⟩, none⟩, ⟨⟨(some 22), (.fldA 0 (.tmp 1)), (some (21, true))⟩, none⟩, ⟨⟨(some 23), (.ld false 1 (.tmp 22)), (some (21, true))⟩, (some (.int .i64))⟩, ⟨⟨(some 24), (.bin .geq (.tmp 23) (.c (.int .i64 (-1073741824)))), (some (21, true))⟩, none⟩, ⟨⟨(some 25), (.pick (.tmp 21) (.tmp 24) (.c (.bool false))), none⟩, none⟩, ⟨⟨(some 26), (.mv (.tmp 25)), none⟩, none⟩, ⟨⟨(some 27), (.fldA 0 (.tmp 1)), (some (26, true))⟩, none⟩, ⟨⟨(some 28), (.ld false 1 (.tmp 27)), (some (26, true))⟩, (some (.int .i64))⟩, ⟨⟨(some 29), (.fldA 1 (.tmp 1)), (some (26, true))⟩, none⟩, ⟨⟨(some 30), (.ld false 1 (.tmp 29)), (some (26, true))⟩, (some (.int .i64))⟩, ⟨⟨(some 31), (.call (.func 58) [(.tmp 28), (.tmp 30)]), (some (26, true))⟩, none⟩, ⟨⟨(some 32), (.ld true 3 (.tmp 1)), (some (26, true))⟩, (some (.agg [(.int .i64), (.int .i64), .bool]))⟩, ⟨⟨(some 33), (.eqAgg false [(.int .i64), (.int .i64), .bool] (.tmp 31) (.tmp 32)), (some (26, true))⟩, none⟩, ⟨⟨(some 34), (.pick (.tmp 26) (.tmp 33) (.c (.bool false))), none⟩, none⟩, ⟨⟨(some 2), (.mv (.tmp 34)), none⟩, none⟩]) .ret))
def rs_frac_Frac_Fine : List ResultVar := [(.tmp 2)]
theorem ir_frac_Frac_Fine : compCode Try.prog (Try.f97.body.getD .skip) [] = some (xr_frac_Frac_Fine.erase, []) := by kernel_rfl
/-! frac_Frac_Fine -/
def gm_frac_Frac_Fine : Gam := (Gam.fn 58 as_frac_New ga_frac_New em_frac_New Gam.bot)
theorem gk_frac_Frac_Fine : GamOk Try.prog GG gm_frac_Frac_Fine := (GamOk.fn at_frac_New GamOk.bot)
def lm_frac_Frac_Fine : Lam := fun _ j S kn ke => match j with
  | _ => .fail
/-- frac_Frac_Fine -/
def go_frac_Frac_Fine (n0 : Int) (n1 : Int) (b2 : Bool) : Option Bool :=
  bif (!b2) then
   bif (decide (n1 ≥ 1)) then
    bif (decide (n1 ≤ 1073741824)) then
     bif (decide (n0 ≤ 1073741824)) then
      bif (decide (n0 ≥ (-1073741824))) then
       (go_frac_New n0 n1).bind fun r3 =>
       some ((r3.1 == n0) && ((r3.2.1 == n1) && ((r3.2.2 == b2) && true)))
      else
       some false
     else
      some false
    else
     some false
   else
    some false
  else
   some false
def em_frac_Frac_Fine (r : Bool) : PV := (.bool r)
def rh_frac_Frac_Fine : Shp := .bool
def ra_frac_Frac_Fine (v : PV) : Bool := v.tru
def kf_frac_Frac_Fine (v : PV) : Tree Bool := .chk (rh_frac_Frac_Fine.ok v) (.leaf (ra_frac_Frac_Fine v))
theorem rn_frac_Frac_Fine (n0 : Int) (n1 : Int) (b2 : Bool) : (ev GG gm_frac_Frac_Fine lm_frac_Frac_Fine xr_frac_Frac_Fine ⟨slots 35 0 [(0, .p (.agg [(.int .i64 n0), (.int .i64 n1), (.bool b2)]))], []⟩ (fun S => finT Try.prog rs_frac_Frac_Fine S kf_frac_Frac_Fine) (retT Try.prog rs_frac_Frac_Fine kf_frac_Frac_Fine)).run = go_frac_Frac_Fine n0 n1 b2 := by kernel_rfl
theorem ok_frac_Frac_Fine (n0 : Int) (n1 : Int) (b2 : Bool) (r : Bool) (h : go_frac_Frac_Fine n0 n1 b2 = some r) : FunEq Try.prog GG 97 [(.agg [(.int .i64 n0), (.int .i64 n1), (.bool b2)])] (em_frac_Frac_Fine r) :=
  fun_of_ev (x := xr_frac_Frac_Fine) (Λ := lm_frac_Frac_Fine) gk_frac_Frac_Fine [] Try.func97 rfl (by kernel_rfl) ir_frac_Frac_Fine (by kernel_rfl) (congrArg Array.toList Try.results97) Try.ntmps97 (⟨trivial, ⟨trivial, trivial⟩⟩) (leaf_of fun v => (by kernel_rfl : rh_frac_Frac_Fine.build v = em_frac_Frac_Fine (ra_frac_Frac_Fine v))) (by kernel_rfl) ((rn_frac_Frac_Fine n0 n1 b2).trans h)
def as_frac_Frac_Fine : List Shp := [(.agg [(.int .i64), (.int .i64), .bool])]
def ga_frac_Frac_Fine (vs : List PV) : Option Bool := go_frac_Frac_Fine (((tls 0 vs).headD .nilSl).subs.headD .nilSl).num (((tls 0 vs).headD .nilSl).subs.tail.headD .nilSl).num (((tls 0 vs).headD .nilSl).subs.tail.tail.headD .nilSl).tru
theorem at_frac_Frac_Fine : FnAt Try.prog GG 97 as_frac_Frac_Fine ga_frac_Frac_Fine em_frac_Frac_Fine := fun vs h r hr => by
  have e : Shp.buildL as_frac_Frac_Fine vs = [(.agg [(.int .i64 (((tls 0 vs).headD .nilSl).subs.headD .nilSl).num), (.int .i64 (((tls 0 vs).headD .nilSl).subs.tail.headD .nilSl).num), (.bool (((tls 0 vs).headD .nilSl).subs.tail.tail.headD .nilSl).tru)])] := by kernel_rfl
  rw [← Shp.buildL_eq _ h, e]
  exact .inl ⟨by decide, ok_frac_Frac_Fine _ _ _ r hr⟩

def xr_frac_Frac_Mul_1 : XR := (.seq (.ops false [⟨⟨(some 2), (.mv (.c (.int .i64 (0)))), none⟩, none⟩, ⟨⟨(some 3), (.mv (.c (.int .i64 (0)))), none⟩, none⟩]) (.seq (.ops true [⟨⟨(some 4), (.fldA 0 (.tmp 0)), none⟩, none⟩, ⟨⟨(some 5), (.ld false 1 (.tmp 4)), none⟩, (some (.int .i64))⟩, ⟨⟨(some 6), (.fldA 0 (.tmp 1)), none⟩, none⟩, ⟨⟨(some 7), (.ld false 1 (.tmp 6)), none⟩, (some (.int .i64))⟩, ⟨⟨(some 8), (.bin .mul (.tmp 5) (.tmp 7)), none⟩, none⟩, ⟨⟨(some 9), (.fldA 1 (.tmp 0)), none⟩, none⟩, ⟨⟨(some 10), (.ld false 1 (.tmp 9)), none⟩, (some (.int .i64))⟩, ⟨⟨(some 11), (.fldA 1 (.tmp 1)), none⟩, none⟩, ⟨⟨(some 12), (.ld false 1 (.tmp 11)), none⟩, (some (.int .i64))⟩, ⟨⟨(some 13), (.bin .mul (.tmp 10) (.tmp 12)), none⟩, none⟩, ⟨⟨(some 2), (.mv (.tmp 8)), none⟩, none⟩, ⟨⟨(some 3), (.mv (.tmp 13)), none⟩, none⟩]) .ret))
def rs_frac_Frac_Mul_1 : List ResultVar := [(.tmp 2), (.tmp 3)]
theorem ir_frac_Frac_Mul_1 : compCode Try.prog (Try.f109.body.getD .skip) [] = some (xr_frac_Frac_Mul_1.erase, []) := by kernel_rfl
/-! frac_Frac_Mul_1 -/
def gm_frac_Frac_Mul_1 : Gam := Gam.bot
theorem gk_frac_Frac_Mul_1 : GamOk Try.prog GG gm_frac_Frac_Mul_1 := GamOk.bot
def lm_frac_Frac_Mul_1 : Lam := fun _ j S kn ke => match j with
  | _ => .fail
/-- frac_Frac_Mul_1 -/
def go_frac_Frac_Mul_1 (n0 : Int) (n1 : Int) (b2 : Bool) (n3 : Int) (n4 : Int) (b5 : Bool) : Option (Int × Int) :=
  some ((IntKind.wrap .i64 (n0 * n3)), (IntKind.wrap .i64 (n1 * n4)))
def em_frac_Frac_Mul_1 (r : (Int × Int)) : PV := (.tup [(.int .i64 r.1), (.int .i64 r.2)])
def rh_frac_Frac_Mul_1 : Shp := (.tup [(.int .i64), (.int .i64)])
def ra_frac_Frac_Mul_1 (v : PV) : (Int × Int) := ((v.subs.headD .nilSl).num, (v.subs.tail.headD .nilSl).num)
def kf_frac_Frac_Mul_1 (v : PV) : Tree (Int × Int) := .chk (rh_frac_Frac_Mul_1.ok v) (.leaf (ra_frac_Frac_Mul_1 v))
theorem rn_frac_Frac_Mul_1 (n0 : Int) (n1 : Int) (b2 : Bool) (n3 : Int) (n4 : Int) (b5 : Bool) : (ev GG gm_frac_Frac_Mul_1 lm_frac_Frac_Mul_1 xr_frac_Frac_Mul_1 ⟨slots 14 0 [(0, .p (.ref 0 [(.int .i64 n0), (.int .i64 n1), (.bool b2)])), (1, .p (.ref 0 [(.int .i64 n3), (.int .i64 n4), (.bool b5)]))], []⟩ (fun S => finT Try.prog rs_frac_Frac_Mul_1 S kf_frac_Frac_Mul_1) (retT Try.prog rs_frac_Frac_Mul_1 kf_frac_Frac_Mul_1)).run = go_frac_Frac_Mul_1 n0 n1 b2 n3 n4 b5 := by kernel_rfl
theorem ok_frac_Frac_Mul_1 (n0 : Int) (n1 : Int) (b2 : Bool) (n3 : Int) (n4 : Int) (b5 : Bool) (r : (Int × Int)) (h : go_frac_Frac_Mul_1 n0 n1 b2 n3 n4 b5 = some r) : FunEq Try.prog GG 109 [(.ref 0 [(.int .i64 n0), (.int .i64 n1), (.bool b2)]), (.ref 0 [(.int .i64 n3), (.int .i64 n4), (.bool b5)])] (em_frac_Frac_Mul_1 r) :=
  fun_of_ev (x := xr_frac_Frac_Mul_1) (Λ := lm_frac_Frac_Mul_1) gk_frac_Frac_Mul_1 [] Try.func109 rfl (by kernel_rfl) ir_frac_Frac_Mul_1 (by kernel_rfl) (congrArg Array.toList Try.results109) Try.ntmps109 (⟨trivial, ⟨trivial, trivial⟩⟩) (leaf_of fun v => (by kernel_rfl : rh_frac_Frac_Mul_1.build v = em_frac_Frac_Mul_1 (ra_frac_Frac_Mul_1 v))) (by kernel_rfl) ((rn_frac_Frac_Mul_1 n0 n1 b2 n3 n4 b5).trans h)
def as_frac_Frac_Mul_1 : List Shp := [(.ref 0 [(.int .i64), (.int .i64), .bool]), (.ref 0 [(.int .i64), (.int .i64), .bool])]
def ga_frac_Frac_Mul_1 (vs : List PV) : Option (Int × Int) := go_frac_Frac_Mul_1 (((tls 0 vs).headD .nilSl).subs.headD .nilSl).num (((tls 0 vs).headD .nilSl).subs.tail.headD .nilSl).num (((tls 0 vs).headD .nilSl).subs.tail.tail.headD .nilSl).tru (((tls 1 vs).headD .nilSl).subs.headD .nilSl).num (((tls 1 vs).headD .nilSl).subs.tail.headD .nilSl).num (((tls 1 vs).headD .nilSl).subs.tail.tail.headD .nilSl).tru
theorem at_frac_Frac_Mul_1 : FnAt Try.prog GG 109 as_frac_Frac_Mul_1 ga_frac_Frac_Mul_1 em_frac_Frac_Mul_1 := fun vs h r hr => by
  have e : Shp.buildL as_frac_Frac_Mul_1 vs = [(.ref 0 [(.int .i64 (((tls 0 vs).headD .nilSl).subs.headD .nilSl).num), (.int .i64 (((tls 0 vs).headD .nilSl).subs.tail.headD .nilSl).num), (.bool (((tls 0 vs).headD .nilSl).subs.tail.tail.headD .nilSl).tru)]), (.ref 0 [(.int .i64 (((tls 1 vs).headD .nilSl).subs.headD .nilSl).num), (.int .i64 (((tls 1 vs).headD .nilSl).subs.tail.headD .nilSl).num), (.bool (((tls 1 vs).headD .nilSl).subs.tail.tail.headD .nilSl).tru)])] := by kernel_rfl
  rw [← Shp.buildL_eq _ h, e]
  exact .inl ⟨by decide, ok_frac_Frac_Mul_1 _ _ _ _ _ _ r hr⟩

def xr_frac_of : XR := (.seq (.ops false [⟨⟨(some 3), (.box 58 (.tmp 0)), none⟩, none⟩, ⟨⟨(some 4), (.box 58 (.tmp 1)), none⟩, none⟩, ⟨⟨(some 6), (.alloc 58 [(.int .i64 (0)), (.int .i64 (0)), (.bool false)]), none⟩, none⟩]) (.seq (.seq (.ops false [⟨⟨(some 7), (.ld true 3 (.tmp 3)), none⟩, (some (.agg [(.int .i64), (.int .i64), .bool]))⟩, ⟨⟨(some 8), (.call (.func 97) [(.tmp 7)]), none⟩, none⟩, ⟨⟨(some 9), (.un .not (.tmp 8)), none⟩, none⟩, ⟨⟨(some 10), (.mv (.tmp 9)), none⟩, none⟩, ⟨⟨(some 11), (.ld true 3 (.tmp 4)), (some (10, false))⟩, (some (.agg [(.int .i64), (.int .i64), .bool]))⟩, ⟨⟨(some 12), (.call (.func 97) [(.tmp 11)]), (some (10, false))⟩, none⟩, ⟨⟨(some 13), (.un .not (.tmp 12)), (some (10, false))⟩, none⟩, ⟨⟨(some 14), (.pick (.tmp 10) (.c (.bool true)) (.tmp 13)), none⟩, none⟩]) (.cond (.tmp 14) (.seq (.ops false [⟨⟨(some 15), (.call (.func 98) []), none⟩, none⟩, ⟨⟨none, (.st 3 (.tmp 6) (.tmp 15)), none⟩, none⟩]) .ret) .skip)) (.seq (.ops false [⟨⟨(some 16), (.mv (.tmp 2)), none⟩, none⟩, ⟨⟨(some 17), (.call (.tmp 16) []), none⟩, none⟩, ⟨⟨(some 18), (.ext (.tmp 17) 0), none⟩, none⟩, ⟨⟨(some 19), (.ext (.tmp 17) 1), none⟩, none⟩, ⟨⟨(some 20), (.call (.func 58) [(.tmp 18), (.tmp 19)]), none⟩, none⟩, ⟨⟨none, (.st 3 (.tmp 6) (.tmp 20)), none⟩, none⟩]) .ret)))
def rs_frac_of : List ResultVar := [(.cell 6 58)]
theorem ir_frac_of : compCode Try.prog (Try.f108.body.getD .skip) [] = some (xr_frac_of.erase, []) := by kernel_rfl
/-! frac_of -/
def gm_frac_of : Gam := (Gam.fn 97 as_frac_Frac_Fine ga_frac_Frac_Fine em_frac_Frac_Fine (Gam.fn 98 as_frac_Wrong ga_frac_Wrong em_frac_Wrong (Gam.fn 109 as_frac_Frac_Mul_1 ga_frac_Frac_Mul_1 em_frac_Frac_Mul_1 (Gam.fn 58 as_frac_New ga_frac_New em_frac_New Gam.bot))))
theorem gk_frac_of : GamOk Try.prog GG gm_frac_of := (GamOk.fn at_frac_Frac_Fine (GamOk.fn at_frac_Wrong (GamOk.fn at_frac_Frac_Mul_1 (GamOk.fn at_frac_New GamOk.bot))))
def lm_frac_of : Lam := fun _ j S kn ke => match j with
  | _ => .fail
/-- frac_of -/
def go_frac_of (n0 : Int) (n1 : Int) (b2 : Bool) (n3 : Int) (n4 : Int) (b5 : Bool) (n6 : Int) (n7 : Int) (b8 : Bool) (n9 : Int) (n10 : Int) (b11 : Bool) : Option (Int × Int × Bool) :=
  (go_frac_Frac_Fine n0 n1 b2).bind fun r12 =>
  bif (!r12) then
   (go_frac_Wrong).bind fun r13 =>
   some (r13.1, r13.2.1, r13.2.2)
  else
   (go_frac_Frac_Fine n3 n4 b5).bind fun r14 =>
   bif (!r14) then
    (go_frac_Wrong).bind fun r15 =>
    some (r15.1, r15.2.1, r15.2.2)
   else
    (go_frac_Frac_Mul_1 n6 n7 b8 n9 n10 b11).bind fun r16 =>
    (go_frac_New r16.1 r16.2).bind fun r17 =>
    some (r17.1, r17.2.1, r17.2.2)
def em_frac_of (r : (Int × Int × Bool)) : PV := (.agg [(.int .i64 r.1), (.int .i64 r.2.1), (.bool r.2.2)])
def rh_frac_of : Shp := (.agg [(.int .i64), (.int .i64), .bool])
def ra_frac_of (v : PV) : (Int × Int × Bool) := ((v.subs.headD .nilSl).num, (v.subs.tail.headD .nilSl).num, (v.subs.tail.tail.headD .nilSl).tru)
def kf_frac_of (v : PV) : Tree (Int × Int × Bool) := .chk (rh_frac_of.ok v) (.leaf (ra_frac_of v))
theorem rn_frac_of (n0 : Int) (n1 : Int) (b2 : Bool) (n3 : Int) (n4 : Int) (b5 : Bool) (n6 : Int) (n7 : Int) (b8 : Bool) (n9 : Int) (n10 : Int) (b11 : Bool) : (ev GG gm_frac_of lm_frac_of xr_frac_of ⟨slots 21 0 [(0, .p (.agg [(.int .i64 n0), (.int .i64 n1), (.bool b2)])), (1, .p (.agg [(.int .i64 n3), (.int .i64 n4), (.bool b5)])), (2, .p (.fn 109 [(.ref 0 [(.int .i64 n6), (.int .i64 n7), (.bool b8)]), (.ref 0 [(.int .i64 n9), (.int .i64 n10), (.bool b11)])]))], []⟩ (fun S => finT Try.prog rs_frac_of S kf_frac_of) (retT Try.prog rs_frac_of kf_frac_of)).run = go_frac_of n0 n1 b2 n3 n4 b5 n6 n7 b8 n9 n10 b11 := by kernel_rfl
theorem ok_frac_of (n0 : Int) (n1 : Int) (b2 : Bool) (n3 : Int) (n4 : Int) (b5 : Bool) (n6 : Int) (n7 : Int) (b8 : Bool) (n9 : Int) (n10 : Int) (b11 : Bool) (r : (Int × Int × Bool)) (h : go_frac_of n0 n1 b2 n3 n4 b5 n6 n7 b8 n9 n10 b11 = some r) : FunEq Try.prog GG 108 [(.agg [(.int .i64 n0), (.int .i64 n1), (.bool b2)]), (.agg [(.int .i64 n3), (.int .i64 n4), (.bool b5)]), (.fn 109 [(.ref 0 [(.int .i64 n6), (.int .i64 n7), (.bool b8)]), (.ref 0 [(.int .i64 n9), (.int .i64 n10), (.bool b11)])])] (em_frac_of r) :=
  fun_of_ev (x := xr_frac_of) (Λ := lm_frac_of) gk_frac_of [] Try.func108 rfl (by kernel_rfl) ir_frac_of (by kernel_rfl) (congrArg Array.toList Try.results108) Try.ntmps108 (⟨trivial, ⟨⟨trivial, ⟨⟨trivial, trivial⟩, trivial⟩⟩, ⟨trivial, trivial⟩⟩⟩) (leaf_of fun v => (by kernel_rfl : rh_frac_of.build v = em_frac_of (ra_frac_of v))) (by kernel_rfl) ((rn_frac_of n0 n1 b2 n3 n4 b5 n6 n7 b8 n9 n10 b11).trans h)
def as_frac_of : List Shp := [(.agg [(.int .i64), (.int .i64), .bool]), (.agg [(.int .i64), (.int .i64), .bool]), (.fn 109 [(.ref 0 [(.int .i64), (.int .i64), .bool]), (.ref 0 [(.int .i64), (.int .i64), .bool])])]
def ga_frac_of (vs : List PV) : Option (Int × Int × Bool) := go_frac_of (((tls 0 vs).headD .nilSl).subs.headD .nilSl).num (((tls 0 vs).headD .nilSl).subs.tail.headD .nilSl).num (((tls 0 vs).headD .nilSl).subs.tail.tail.headD .nilSl).tru (((tls 1 vs).headD .nilSl).subs.headD .nilSl).num (((tls 1 vs).headD .nilSl).subs.tail.headD .nilSl).num (((tls 1 vs).headD .nilSl).subs.tail.tail.headD .nilSl).tru ((((tls 2 vs).headD .nilSl).subs.headD .nilSl).subs.headD .nilSl).num ((((tls 2 vs).headD .nilSl).subs.headD .nilSl).subs.tail.headD .nilSl).num ((((tls 2 vs).headD .nilSl).subs.headD .nilSl).subs.tail.tail.headD .nilSl).tru ((((tls 2 vs).headD .nilSl).subs.tail.headD .nilSl).subs.headD .nilSl).num ((((tls 2 vs).headD .nilSl).subs.tail.headD .nilSl).subs.tail.headD .nilSl).num ((((tls 2 vs).headD .nilSl).subs.tail.headD .nilSl).subs.tail.tail.headD .nilSl).tru
theorem at_frac_of : FnAt Try.prog GG 108 as_frac_of ga_frac_of em_frac_of := fun vs h r hr => by
  have e : Shp.buildL as_frac_of vs = [(.agg [(.int .i64 (((tls 0 vs).headD .nilSl).subs.headD .nilSl).num), (.int .i64 (((tls 0 vs).headD .nilSl).subs.tail.headD .nilSl).num), (.bool (((tls 0 vs).headD .nilSl).subs.tail.tail.headD .nilSl).tru)]), (.agg [(.int .i64 (((tls 1 vs).headD .nilSl).subs.headD .nilSl).num), (.int .i64 (((tls 1 vs).headD .nilSl).subs.tail.headD .nilSl).num), (.bool (((tls 1 vs).headD .nilSl).subs.tail.tail.headD .nilSl).tru)]), (.fn 109 [(.ref 0 [(.int .i64 ((((tls 2 vs).headD .nilSl).subs.headD .nilSl).subs.headD .nilSl).num), (.int .i64 ((((tls 2 vs).headD .nilSl).subs.headD .nilSl).subs.tail.headD .nilSl).num), (.bool ((((tls 2 vs).headD .nilSl).subs.headD .nilSl).subs.tail.tail.headD .nilSl).tru)]), (.ref 0 [(.int .i64 ((((tls 2 vs).headD .nilSl).subs.tail.headD .nilSl).subs.headD .nilSl).num), (.int .i64 ((((tls 2 vs).headD .nilSl).subs.tail.headD .nilSl).subs.tail.headD .nilSl).num), (.bool ((((tls 2 vs).headD .nilSl).subs.tail.headD .nilSl).subs.tail.tail.headD .nilSl).tru)])])] := by kernel_rfl
  rw [← Shp.buildL_eq _ h, e]
  exact .inl ⟨by decide, ok_frac_of _ _ _ _ _ _ _ _ _ _ _ _ r hr⟩

def xr_frac_Frac_Mul : XR := (.seq (.ops false [⟨⟨(some 2), (.box 58 (.tmp 0)), none⟩, none⟩, ⟨⟨(some 3), (.box 58 (.tmp 1)), none⟩, none⟩, ⟨⟨(some 4), (.alloc 58 [(.int .i64 (0)), (.int .i64 (0)), (.bool false)]), none⟩, none⟩]) (.seq (.ops false [⟨⟨(some 5), (.ld true 3 (.tmp 2)), none⟩, (some (.agg [(.int .i64), (.int .i64), .bool]))⟩, ⟨⟨(some 6), (.ld true 3 (.tmp 3)), none⟩, (some (.agg [(.int .i64), (.int .i64), .bool]))⟩, ⟨⟨(some 7), (.mkFn 109 [(.tmp 2), (.tmp 3)]), none⟩, none⟩, ⟨⟨(some 8), (.call (.func 108) [(.tmp 5), (.tmp 6), (.tmp 7)]), none⟩, none⟩, ⟨⟨none, (.st 3 (.tmp 4) (.tmp 8)), none⟩, none⟩]) .ret))
def rs_frac_Frac_Mul : List ResultVar := [(.cell 4 58)]
theorem ir_frac_Frac_Mul : compCode Try.prog (Try.f69.body.getD .skip) [] = some (xr_frac_Frac_Mul.erase, []) := by kernel_rfl
/-! frac_Frac_Mul -/
def gm_frac_Frac_Mul : Gam := (Gam.fn 108 as_frac_of ga_frac_of em_frac_of Gam.bot)
theorem gk_frac_Frac_Mul : GamOk Try.prog GG gm_frac_Frac_Mul := (GamOk.fn at_frac_of GamOk.bot)
def lm_frac_Frac_Mul : Lam := fun _ j S kn ke => match j with
  | _ => .fail
/-- frac_Frac_Mul -/
def go_frac_Frac_Mul (n0 : Int) (n1 : Int) (b2 : Bool) (n3 : Int) (n4 : Int) (b5 : Bool) : Option (Int × Int × Bool) :=
  (go_frac_of n0 n1 b2 n3 n4 b5 n0 n1 b2 n3 n4 b5).bind fun r6 =>
  some (r6.1, r6.2.1, r6.2.2)
def em_frac_Frac_Mul (r : (Int × Int × Bool)) : PV := (.agg [(.int .i64 r.1), (.int .i64 r.2.1), (.bool r.2.2)])
def rh_frac_Frac_Mul : Shp := (.agg [(.int .i64), (.int .i64), .bool])
def ra_frac_Frac_Mul (v : PV) : (Int × Int × Bool) := ((v.subs.headD .nilSl).num, (v.subs.tail.headD .nilSl).num, (v.subs.tail.tail.headD .nilSl).tru)
def kf_frac_Frac_Mul (v : PV) : Tree (Int × Int × Bool) := .chk (rh_frac_Frac_Mul.ok v) (.leaf (ra_frac_Frac_Mul v))
theorem rn_frac_Frac_Mul (n0 : Int) (n1 : Int) (b2 : Bool) (n3 : Int) (n4 : Int) (b5 : Bool) : (ev GG gm_frac_Frac_Mul lm_frac_Frac_Mul xr_frac_Frac_Mul ⟨slots 9 0 [(0, .p (.agg [(.int .i64 n0), (.int .i64 n1), (.bool b2)])), (1, .p (.agg [(.int .i64 n3), (.int .i64 n4), (.bool b5)]))], []⟩ (fun S => finT Try.prog rs_frac_Frac_Mul S kf_frac_Frac_Mul) (retT Try.prog rs_frac_Frac_Mul kf_frac_Frac_Mul)).run = go_frac_Frac_Mul n0 n1 b2 n3 n4 b5 := by kernel_rfl
theorem ok_frac_Frac_Mul (n0 : Int) (n1 : Int) (b2 : Bool) (n3 : Int) (n4 : Int) (b5 : Bool) (r : (Int × Int × Bool)) (h : go_frac_Frac_Mul n0 n1 b2 n3 n4 b5 = some r) : FunEq Try.prog GG 69 [(.agg [(.int .i64 n0), (.int .i64 n1), (.bool b2)]), (.agg [(.int .i64 n3), (.int .i64 n4), (.bool b5)])] (em_frac_Frac_Mul r) :=
  fun_of_ev (x := xr_frac_Frac_Mul) (Λ := lm_frac_Frac_Mul) gk_frac_Frac_Mul [] Try.func69 rfl (by kernel_rfl) ir_frac_Frac_Mul (by kernel_rfl) (congrArg Array.toList Try.results69) Try.ntmps69 (⟨trivial, ⟨trivial, trivial⟩⟩) (leaf_of fun v => (by kernel_rfl : rh_frac_Frac_Mul.build v = em_frac_Frac_Mul (ra_frac_Frac_Mul v))) (by kernel_rfl) ((rn_frac_Frac_Mul n0 n1 b2 n3 n4 b5).trans h)
def as_frac_Frac_Mul : List Shp := [(.agg [(.int .i64), (.int .i64), .bool]), (.agg [(.int .i64), (.int .i64), .bool])]
def ga_frac_Frac_Mul (vs : List PV) : Option (Int × Int × Bool) := go_frac_Frac_Mul (((tls 0 vs).headD .nilSl).subs.headD .nilSl).num (((tls 0 vs).headD .nilSl).subs.tail.headD .nilSl).num (((tls 0 vs).headD .nilSl).subs.tail.tail.headD .nilSl).tru (((tls 1 vs).headD .nilSl).subs.headD .nilSl).num (((tls 1 vs).headD .nilSl).subs.tail.headD .nilSl).num (((tls 1 vs).headD .nilSl).subs.tail.tail.headD .nilSl).tru
theorem at_frac_Frac_Mul : FnAt Try.prog GG 69 as_frac_Frac_Mul ga_frac_Frac_Mul em_frac_Frac_Mul := fun vs h r hr => by
  have e : Shp.buildL as_frac_Frac_Mul vs = [(.agg [(.int .i64 (((tls 0 vs).headD .nilSl).subs.headD .nilSl).num), (.int .i64 (((tls 0 vs).headD .nilSl).subs.tail.headD .nilSl).num), (.bool (((tls 0 vs).headD .nilSl).subs.tail.tail.headD .nilSl).tru)]), (.agg [(.int .i64 (((tls 1 vs).headD .nilSl).subs.headD .nilSl).num), (.int .i64 (((tls 1 vs).headD .nilSl).subs.tail.headD .nilSl).num), (.bool (((tls 1 vs).headD .nilSl).subs.tail.tail.headD .nilSl).tru)])] := by kernel_rfl
  rw [← Shp.buildL_eq _ h, e]
  exact .inl ⟨by decide, ok_frac_Frac_Mul _ _ _ _ _ _ r hr⟩

def xr_vec_Dot_frac_Frac_1 : XR := (.seq (.ops false [⟨⟨(some 2), (.box 58 (.tmp 0)), none⟩, none⟩, ⟨⟨(some 3), (.box 58 (.tmp 1)), none⟩, none⟩, ⟨⟨(some 4), (.alloc 58 [(.int .i64 (0)), (.int .i64 (0)), (.bool false)]), none⟩, none⟩]) (.seq (.ops false [⟨⟨(some 5), (.ld true 3 (.tmp 2)), none⟩, (some (.agg [(.int .i64), (.int .i64), .bool]))⟩, ⟨⟨(some 6), (.mkI 58 (.tmp 5)), none⟩, none⟩, ⟨⟨(some 7), (.ld true 3 (.tmp 3)), none⟩, (some (.agg [(.int .i64), (.int .i64), .bool]))⟩, ⟨⟨(some 8), (.callI 69 58 (.tmp 6) [(.tmp 7)]), none⟩, none⟩, ⟨⟨none, (.st 3 (.tmp 4) (.tmp 8)), none⟩, none⟩]) .ret))
def rs_vec_Dot_frac_Frac_1 : List ResultVar := [(.cell 4 58)]
theorem ir_vec_Dot_frac_Frac_1 : compCode Try.prog (Try.f101.body.getD .skip) [] = some (xr_vec_Dot_frac_Frac_1.erase, []) := by kernel_rfl
/-! vec_Dot_frac_Frac_1 -/
def gm_vec_Dot_frac_Frac_1 : Gam := (Gam.fn 69 as_frac_Frac_Mul ga_frac_Frac_Mul em_frac_Frac_Mul Gam.bot)
theorem gk_vec_Dot_frac_Frac_1 : GamOk Try.prog GG gm_vec_Dot_frac_Frac_1 := (GamOk.fn at_frac_Frac_Mul GamOk.bot)
def lm_vec_Dot_frac_Frac_1 : Lam := fun _ j S kn ke => match j with
  | _ => .fail
/-- vec_Dot_frac_Frac_1 -/
def go_vec_Dot_frac_Frac_1 (n0 : Int) (n1 : Int) (b2 : Bool) (n3 : Int) (n4 : Int) (b5 : Bool) : Option (Int × Int × Bool) :=
  (go_frac_Frac_Mul n0 n1 b2 n3 n4 b5).bind fun r6 =>
  some (r6.1, r6.2.1, r6.2.2)
def em_vec_Dot_frac_Frac_1 (r : (Int × Int × Bool)) : PV := (.agg [(.int .i64 r.1), (.int .i64 r.2.1), (.bool r.2.2)])
def rh_vec_Dot_frac_Frac_1 : Shp := (.agg [(.int .i64), (.int .i64), .bool])
def ra_vec_Dot_frac_Frac_1 (v : PV) : (Int × Int × Bool) := ((v.subs.headD .nilSl).num, (v.subs.tail.headD .nilSl).num, (v.subs.tail.tail.headD .nilSl).tru)
def kf_vec_Dot_frac_Frac_1 (v : PV) : Tree (Int × Int × Bool) := .chk (rh_vec_Dot_frac_Frac_1.ok v) (.leaf (ra_vec_Dot_frac_Frac_1 v))
theorem rn_vec_Dot_frac_Frac_1 (n0 : Int) (n1 : Int) (b2 : Bool) (n3 : Int) (n4 : Int) (b5 : Bool) : (ev GG gm_vec_Dot_frac_Frac_1 lm_vec_Dot_frac_Frac_1 xr_vec_Dot_frac_Frac_1 ⟨slots 9 0 [(0, .p (.agg [(.int .i64 n0), (.int .i64 n1), (.bool b2)])), (1, .p (.agg [(.int .i64 n3), (.int .i64 n4), (.bool b5)]))], []⟩ (fun S => finT Try.prog rs_vec_Dot_frac_Frac_1 S kf_vec_Dot_frac_Frac_1) (retT Try.prog rs_vec_Dot_frac_Frac_1 kf_vec_Dot_frac_Frac_1)).run = go_vec_Dot_frac_Frac_1 n0 n1 b2 n3 n4 b5 := by kernel_rfl
theorem ok_vec_Dot_frac_Frac_1 (n0 : Int) (n1 : Int) (b2 : Bool) (n3 : Int) (n4 : Int) (b5 : Bool) (r : (Int × Int × Bool)) (h : go_vec_Dot_frac_Frac_1 n0 n1 b2 n3 n4 b5 = some r) : FunEq Try.prog GG 101 [(.agg [(.int .i64 n0), (.int .i64 n1), (.bool b2)]), (.agg [(.int .i64 n3), (.int .i64 n4), (.bool b5)])] (em_vec_Dot_frac_Frac_1 r) :=
  fun_of_ev (x := xr_vec_Dot_frac_Frac_1) (Λ := lm_vec_Dot_frac_Frac_1) gk_vec_Dot_frac_Frac_1 [] Try.func101 rfl (by kernel_rfl) ir_vec_Dot_frac_Frac_1 (by kernel_rfl) (congrArg Array.toList Try.results101) Try.ntmps101 (⟨trivial, ⟨trivial, trivial⟩⟩) (leaf_of fun v => (by kernel_rfl : rh_vec_Dot_frac_Frac_1.build v = em_vec_Dot_frac_Frac_1 (ra_vec_Dot_frac_Frac_1 v))) (by kernel_rfl) ((rn_vec_Dot_frac_Frac_1 n0 n1 b2 n3 n4 b5).trans h)
def as_vec_Dot_frac_Frac_1 : List Shp := [(.agg [(.int .i64), (.int .i64), .bool]), (.agg [(.int .i64), (.int .i64), .bool])]
def ga_vec_Dot_frac_Frac_1 (vs : List PV) : Option (Int × Int × Bool) := go_vec_Dot_frac_Frac_1 (((tls 0 vs).headD .nilSl).subs.headD .nilSl).num (((tls 0 vs).headD .nilSl).subs.tail.headD .nilSl).num (((tls 0 vs).headD .nilSl).subs.tail.tail.headD .nilSl).tru (((tls 1 vs).headD .nilSl).subs.headD .nilSl).num (((tls 1 vs).headD .nilSl).subs.tail.headD .nilSl).num (((tls 1 vs).headD .nilSl).subs.tail.tail.headD .nilSl).tru
theorem at_vec_Dot_frac_Frac_1 : FnAt Try.prog GG 101 as_vec_Dot_frac_Frac_1 ga_vec_Dot_frac_Frac_1 em_vec_Dot_frac_Frac_1 := fun vs h r hr => by
  have e : Shp.buildL as_vec_Dot_frac_Frac_1 vs = [(.agg [(.int .i64 (((tls 0 vs).headD .nilSl).subs.headD .nilSl).num), (.int .i64 (((tls 0 vs).headD .nilSl).subs.tail.headD .nilSl).num), (.bool (((tls 0 vs).headD .nilSl).subs.tail.tail.headD .nilSl).tru)]), (.agg [(.int .i64 (((tls 1 vs).headD .nilSl).subs.headD .nilSl).num), (.int .i64 (((tls 1 vs).headD .nilSl).subs.tail.headD .nilSl).num), (.bool (((tls 1 vs).headD .nilSl).subs.tail.tail.headD .nilSl).tru)])] := by kernel_rfl
  rw [← Shp.buildL_eq _ h, e]
  exact .inl ⟨by decide, ok_vec_Dot_frac_Frac_1 _ _ _ _ _ _ r hr⟩

def xf_vec_of_frac_Frac_0 : Opd := (.tmp 12)
def xa_vec_of_frac_Frac_0 : XR := (.seq (.ops false [⟨⟨(some 8), (.alloc 58 [(.int .i64 (0)), (.int .i64 (0)), (.bool false)]), none⟩, none⟩, ⟨⟨none, (.st 3 (.tmp 8) (.tmp 13)), none⟩, none⟩]) (.ops false [⟨⟨(some 9), (.alloc 58 [(.int .i64 (0)), (.int .i64 (0)), (.bool false)]), none⟩, none⟩, ⟨⟨none, (.st 3 (.tmp 9) (.tmp 14)), none⟩, none⟩]))
def xb_vec_of_frac_Frac_0 : XR := (.block 1 (.ops true [⟨⟨(some 15), (.ld false 1 (.tmp 7)), none⟩, (some (.sl 3))⟩, ⟨⟨(some 16), (.ld false 1 (.tmp 5)), none⟩, none⟩, ⟨⟨(some 17), (.ld true 3 (.tmp 8)), none⟩, (some (.agg [(.int .i64), (.int .i64), .bool]))⟩, ⟨⟨(some 18), (.ld true 3 (.tmp 9)), none⟩, (some (.agg [(.int .i64), (.int .i64), .bool]))⟩, ⟨⟨(some 19), (.call (.tmp 16) [(.tmp 17), (.tmp 18)]), none⟩, none⟩, ⟨⟨(some 20), (.bsl 58 none 3 [(.tmp 19)]), none⟩, none⟩, ⟨⟨(some 21), (.app 58 none 3 24 (.tmp 15) (.tmp 20)), none⟩, none⟩, ⟨⟨none, (.st 1 (.tmp 7) (.tmp 21)), none⟩, none⟩]))
def xr_vec_of_frac_Frac : XR := (.seq (.ops false [⟨⟨(some 5), (.box 99 (.tmp 2)), none⟩, none⟩, ⟨⟨(some 6), (.mv (.c (.sl true true 3 []))), none⟩, none⟩]) (.seq (.ops false [⟨⟨(some 7), (.alloc 55 [(.sl true true 3 [])]), none⟩, none⟩]) (.seq (.seq (.ops false [⟨⟨(some 10), (.mv (.tmp 0)), none⟩, none⟩, ⟨⟨(some 11), (.mv (.tmp 1)), none⟩, none⟩, ⟨⟨(some 12), (.call (.func 120) [(.tmp 10), (.tmp 11)]), none⟩, none⟩]) (.block 0 (.range 0 [5, 7, 12] xf_vec_of_frac_Frac_0 [13, 14] xa_vec_of_frac_Frac_0 xb_vec_of_frac_Frac_0))) (.seq (.ops false [⟨⟨(some 22), (.ld false 1 (.tmp 7)), none⟩, (some (.sl 3))⟩, ⟨⟨(some 6), (.mv (.tmp 22)), none⟩, none⟩]) .ret))))
def rs_vec_of_frac_Frac : List ResultVar := [(.tmp 6)]
theorem ir_vec_of_frac_Frac : compCode Try.prog (Try.f100.body.getD .skip) [] = some (xr_vec_of_frac_Frac.erase, []) := by kernel_rfl
/-! vec_of_frac_Frac -/
def gm_vec_of_frac_Frac : Gam := (Gam.fn 120 as_vec_Pairs_frac_Frac ga_vec_Pairs_frac_Frac em_vec_Pairs_frac_Frac (Gam.fn 101 as_vec_Dot_frac_Frac_1 ga_vec_Dot_frac_Frac_1 em_vec_Dot_frac_Frac_1 Gam.bot))
theorem gk_vec_of_frac_Frac : GamOk Try.prog GG gm_vec_of_frac_Frac := (GamOk.fn at_vec_Pairs_frac_Frac (GamOk.fn at_vec_Dot_frac_Frac_1 GamOk.bot))
def it_vec_of_frac_Frac_0 (b7 : Bool) (b8 : Bool) (es9 : List PV) (b10 : Bool) (b11 : Bool) (es12 : List PV) (b13 : Bool) (b14 : Bool) (es15 : List PV) : Option (List (Int × Int × Bool × Int × Int × Bool)) := it_pairspF b7 b8 es9 b10 b11 es12
def cp_vec_of_frac_Frac_0 (b7 : Bool) (b8 : Bool) (es9 : List PV) (b10 : Bool) (b11 : Bool) (es12 : List PV) (b13 : Bool) (b14 : Bool) (es15 : List PV) : List PV := [(.ref 0 [(.sl b7 b8 3 es9)]), (.ref 0 [(.sl b10 b11 3 es12)])]
def st_vec_of_frac_Frac_0 (b7 : Bool) (b8 : Bool) (es9 : List PV) (b10 : Bool) (b11 : Bool) (es12 : List PV) (b13 : Bool) (b14 : Bool) (es15 : List PV) (u16 : (Int × Int × Bool × Int × Int × Bool)) : Option (((Bool × Bool × List PV × Bool × Bool × List PV × Bool × Bool × List PV)) ⊕ (Unit)) :=
  (go_vec_Dot_frac_Frac_1 u16.1 u16.2.1 u16.2.2.1 u16.2.2.2.1 u16.2.2.2.2.1 u16.2.2.2.2.2).bind fun r17 =>
  bif (decide ((((List.length es15) + 1) * 24) ≤ 140737488355328)) then
   bif (decide (((List.length es15) + 1) ≤ 4611686018427387904)) then
    some (Sum.inl (b7, b8, es9, b10, b11, es12, (b13 && false), false, (es15 ++ [(.agg [(.int .i64 r17.1), (.int .i64 r17.2.1), (.bool r17.2.2)])])))
   else none
  else none
def lp_vec_of_frac_Frac_0 (b7 : Bool) (b8 : Bool) (es9 : List PV) (b10 : Bool) (b11 : Bool) (es12 : List PV) (b13 : Bool) (b14 : Bool) (es15 : List PV) : Option (((Bool × Bool × List PV × Bool × Bool × List PV × Bool × Bool × List PV)) ⊕ (Unit)) := (it_vec_of_frac_Frac_0 b7 b8 es9 b10 b11 es12 b13 b14 es15).bind fun is => foldS (X := (Bool × Bool × List PV × Bool × Bool × List PV × Bool × Bool × List PV)) (fun x i => st_vec_of_frac_Frac_0 x.1 x.2.1 x.2.2.1 x.2.2.2.1 x.2.2.2.2.1 x.2.2.2.2.2.1 x.2.2.2.2.2.2.1 x.2.2.2.2.2.2.2.1 x.2.2.2.2.2.2.2.2 i) is (b7, b8, es9, b10, b11, es12, b13, b14, es15)
def sh_vec_of_frac_Frac_0 : StSh := ⟨23, [(5, (.ptr 0 0)), (7, (.ptr 1 0)), (12, (.p (.fn 124 [(.ref 0 [(.sl 3)]), (.ref 0 [(.sl 3)])])))], [(.box 99 [(.p (.fn 101 []))]), (.box 55 [(.row 2)]), (.row 58 3)]⟩
def sx_vec_of_frac_Frac_0 (x : (Bool × Bool × List PV × Bool × Bool × List PV × Bool × Bool × List PV)) : St := ⟨slots 23 0 [(5, (.ptr 0 0)), (7, (.ptr 1 0)), (12, (.p (.fn 124 [(.ref 0 [(.sl x.1 x.2.1 3 x.2.2.1)]), (.ref 0 [(.sl x.2.2.2.1 x.2.2.2.2.1 3 x.2.2.2.2.2.1)])])))], [(.box 99 [(.p (.fn 101 []))]), (.box 55 [(.row 2)]), (.row 58 3 x.2.2.2.2.2.2.1 x.2.2.2.2.2.2.2.1 x.2.2.2.2.2.2.2.2)]⟩
def sa_vec_of_frac_Frac_0 (S : St) : (Bool × Bool × List PV × Bool × Bool × List PV × Bool × Bool × List PV) := (((((tls 12 S.t).headD .any).pv.subs.headD .nilSl).subs.headD .nilSl).nl, ((((tls 12 S.t).headD .any).pv.subs.headD .nilSl).subs.headD .nilSl).ex, ((((tls 12 S.t).headD .any).pv.subs.headD .nilSl).subs.headD .nilSl).elts, ((((tls 12 S.t).headD .any).pv.subs.tail.headD .nilSl).subs.headD .nilSl).nl, ((((tls 12 S.t).headD .any).pv.subs.tail.headD .nilSl).subs.headD .nilSl).ex, ((((tls 12 S.t).headD .any).pv.subs.tail.headD .nilSl).subs.headD .nilSl).elts, ((tls 2 S.own).headD .gone).pvD.nl, ((tls 2 S.own).headD .gone).pvD.ex, ((tls 2 S.own).headD .gone).pvD.elts)
def kb_vec_of_frac_Frac_0 : Exit → St → Tree (((Bool × Bool × List PV × Bool × Bool × List PV × Bool × Bool × List PV)) ⊕ (Unit)) := exNil
def ky_vec_of_frac_Frac_0 : Dec (Unit) := fun _ y ke => .fail
theorem kk_vec_of_frac_Frac_0 : ExOk Sum.inr kb_vec_of_frac_Frac_0 ky_vec_of_frac_Frac_0 := ExOk.nil
def lm_vec_of_frac_Frac : Lam := fun _ j S kn ke => match j with
  | 0 => prepT [5, 7, 12] [(100700, 58)] S fun S => .chk (sh_vec_of_frac_Frac_0.ok S) (.bind ((fun x => (it_vec_of_frac_Frac_0 x.1 x.2.1 x.2.2.1 x.2.2.2.1 x.2.2.2.2.1 x.2.2.2.2.2.1 x.2.2.2.2.2.2.1 x.2.2.2.2.2.2.2.1 x.2.2.2.2.2.2.2.2).bind fun is => foldS (X := (Bool × Bool × List PV × Bool × Bool × List PV × Bool × Bool × List PV)) (fun x i => st_vec_of_frac_Frac_0 x.1 x.2.1 x.2.2.1 x.2.2.2.1 x.2.2.2.2.1 x.2.2.2.2.2.1 x.2.2.2.2.2.2.1 x.2.2.2.2.2.2.2.1 x.2.2.2.2.2.2.2.2 i) is x) (sa_vec_of_frac_Frac_0 S)) fun r => .sum r (fun x => kn (sx_vec_of_frac_Frac_0 x)) (fun y => ky_vec_of_frac_Frac_0 _ y ke))
  | _ => .fail
theorem sr_vec_of_frac_Frac_0 (x : (Bool × Bool × List PV × Bool × Bool × List PV × Bool × Bool × List PV)) (i : (Int × Int × Bool × Int × Int × Bool)) : (ev GG gm_vec_of_frac_Frac lm_vec_of_frac_Frac xa_vec_of_frac_Frac_0 ⟨setL (sx_vec_of_frac_Frac_0 x).t [13, 14] (ie_pairspF i), (sx_vec_of_frac_Frac_0 x).own⟩ (fun S1 => ev GG gm_vec_of_frac_Frac lm_vec_of_frac_Frac xb_vec_of_frac_Frac_0 S1 (fun S => forgetT [5, 7, 12] ⟨(sx_vec_of_frac_Frac_0 x).t, S.own⟩ fun S => prepT [5, 7, 12] [(100700, 58)] S fun S => .chk (sh_vec_of_frac_Frac_0.ok S) (.leaf (.inl (sa_vec_of_frac_Frac_0 S)))) (fun e S => kb_vec_of_frac_Frac_0 e ⟨(sx_vec_of_frac_Frac_0 x).t, S.own⟩)) (fun _ _ => .fail)).run = st_vec_of_frac_Frac_0 x.1 x.2.1 x.2.2.1 x.2.2.2.1 x.2.2.2.2.1 x.2.2.2.2.2.1 x.2.2.2.2.2.2.1 x.2.2.2.2.2.2.2.1 x.2.2.2.2.2.2.2.2 i := by kernel_rfl
theorem la_vec_of_frac_Frac_0 : LamAt Try.prog GG lm_vec_of_frac_Frac 0 (.rangeF xf_vec_of_frac_Frac_0 [13, 14] xa_vec_of_frac_Frac_0.erase xb_vec_of_frac_Frac_0.erase) := lam_range (asg := xa_vec_of_frac_Frac_0) (bdy := xb_vec_of_frac_Frac_0) (Λ0 := lm_vec_of_frac_Frac) gk_vec_of_frac_Frac (by kernel_rfl) (by kernel_rfl) (fun S => (by kernel_rfl : sh_vec_of_frac_Frac_0.build S = sx_vec_of_frac_Frac_0 (sa_vec_of_frac_Frac_0 S))) (caps := fun x => cp_vec_of_frac_Frac_0 x.1 x.2.1 x.2.2.1 x.2.2.2.1 x.2.2.2.2.1 x.2.2.2.2.2.1 x.2.2.2.2.2.2.1 x.2.2.2.2.2.2.2.1 x.2.2.2.2.2.2.2.2) (fun x => (by kernel_rfl : evS GG (sx_vec_of_frac_Frac_0 x) xf_vec_of_frac_Frac_0 = .p (.fn 124 (cp_vec_of_frac_Frac_0 x.1 x.2.1 x.2.2.1 x.2.2.2.1 x.2.2.2.2.1 x.2.2.2.2.2.1 x.2.2.2.2.2.2.1 x.2.2.2.2.2.2.2.1 x.2.2.2.2.2.2.2.2)))) (its := fun x => it_vec_of_frac_Frac_0 x.1 x.2.1 x.2.2.1 x.2.2.2.1 x.2.2.2.2.1 x.2.2.2.2.2.1 x.2.2.2.2.2.2.1 x.2.2.2.2.2.2.2.1 x.2.2.2.2.2.2.2.2) (emb := ie_pairspF) (fun i => rfl) (fun x is h => sq_pairspF _ _ _ _ _ _ is h) (step := fun x i => st_vec_of_frac_Frac_0 x.1 x.2.1 x.2.2.1 x.2.2.2.1 x.2.2.2.2.1 x.2.2.2.2.2.1 x.2.2.2.2.2.2.1 x.2.2.2.2.2.2.2.1 x.2.2.2.2.2.2.2.2 i) kk_vec_of_frac_Frac_0 sr_vec_of_frac_Frac_0 (fun _ _ _ => rfl)
/-- vec_of_frac_Frac -/
def go_vec_of_frac_Frac (b0 : Bool) (b1 : Bool) (es2 : List PV) (b3 : Bool) (b4 : Bool) (es5 : List PV) : Option (Bool × Bool × List PV) :=
  (go_vec_Pairs_frac_Frac b0 b1 es2 b3 b4 es5).bind fun r6 =>
  (lp_vec_of_frac_Frac_0 r6.1 r6.2.1 r6.2.2.1 r6.2.2.2.1 r6.2.2.2.2.1 r6.2.2.2.2.2 true true []).bind fun y18 =>
  Sum.elim (fun z19 =>
   some (z19.2.2.2.2.2.2.1, z19.2.2.2.2.2.2.2.1, z19.2.2.2.2.2.2.2.2)) (fun u_ =>
   none) y18
def em_vec_of_frac_Frac (r : (Bool × Bool × List PV)) : PV := (.sl r.1 r.2.1 3 r.2.2)
def rh_vec_of_frac_Frac : Shp := (.sl 3)
def ra_vec_of_frac_Frac (v : PV) : (Bool × Bool × List PV) := (v.nl, v.ex, v.elts)
def kf_vec_of_frac_Frac (v : PV) : Tree (Bool × Bool × List PV) := .chk (rh_vec_of_frac_Frac.ok v) (.leaf (ra_vec_of_frac_Frac v))
theorem rn_vec_of_frac_Frac (b0 : Bool) (b1 : Bool) (es2 : List PV) (b3 : Bool) (b4 : Bool) (es5 : List PV) : (ev GG gm_vec_of_frac_Frac lm_vec_of_frac_Frac xr_vec_of_frac_Frac ⟨slots 23 0 [(0, .p (.sl b0 b1 3 es2)), (1, .p (.sl b3 b4 3 es5)), (2, .p (.fn 101 []))], []⟩ (fun S => finT Try.prog rs_vec_of_frac_Frac S kf_vec_of_frac_Frac) (retT Try.prog rs_vec_of_frac_Frac kf_vec_of_frac_Frac)).run = go_vec_of_frac_Frac b0 b1 es2 b3 b4 es5 := by kernel_rfl
theorem ok_vec_of_frac_Frac (b0 : Bool) (b1 : Bool) (es2 : List PV) (b3 : Bool) (b4 : Bool) (es5 : List PV) (r : (Bool × Bool × List PV)) (h : go_vec_of_frac_Frac b0 b1 es2 b3 b4 es5 = some r) : FunEq Try.prog GG 100 [(.sl b0 b1 3 es2), (.sl b3 b4 3 es5), (.fn 101 [])] (em_vec_of_frac_Frac r) :=
  fun_of_ev (x := xr_vec_of_frac_Frac) (Λ := lm_vec_of_frac_Frac) gk_vec_of_frac_Frac [] Try.func100 rfl (by kernel_rfl) ir_vec_of_frac_Frac (by kernel_rfl) (congrArg Array.toList Try.results100) Try.ntmps100 (⟨trivial, ⟨trivial, ⟨⟨trivial, la_vec_of_frac_Frac_0⟩, ⟨trivial, trivial⟩⟩⟩⟩) (leaf_of fun v => (by kernel_rfl : rh_vec_of_frac_Frac.build v = em_vec_of_frac_Frac (ra_vec_of_frac_Frac v))) (by kernel_rfl) ((rn_vec_of_frac_Frac b0 b1 es2 b3 b4 es5).trans h)
def as_vec_of_frac_Frac : List Shp := [(.sl 3), (.sl 3), (.fn 101 [])]
def ga_vec_of_frac_Frac (vs : List PV) : Option (Bool × Bool × List PV) := go_vec_of_frac_Frac ((tls 0 vs).headD .nilSl).nl ((tls 0 vs).headD .nilSl).ex ((tls 0 vs).headD .nilSl).elts ((tls 1 vs).headD .nilSl).nl ((tls 1 vs).headD .nilSl).ex ((tls 1 vs).headD .nilSl).elts
theorem at_vec_of_frac_Frac : FnAt Try.prog GG 100 as_vec_of_frac_Frac ga_vec_of_frac_Frac em_vec_of_frac_Frac := fun vs h r hr => by
  have e : Shp.buildL as_vec_of_frac_Frac vs = [(.sl ((tls 0 vs).headD .nilSl).nl ((tls 0 vs).headD .nilSl).ex 3 ((tls 0 vs).headD .nilSl).elts), (.sl ((tls 1 vs).headD .nilSl).nl ((tls 1 vs).headD .nilSl).ex 3 ((tls 1 vs).headD .nilSl).elts), (.fn 101 [])] := by kernel_rfl
  rw [← Shp.buildL_eq _ h, e]
  exact .inl ⟨by decide, ok_vec_of_frac_Frac _ _ _ _ _ _ r hr⟩

def xr_frac_Frac_Add : XR := (.seq (.ops false [⟨⟨(some 2), (.box 58 (.tmp 0)), none⟩, none⟩, ⟨⟨(some 3), (.box 58 (.tmp 1)), none⟩, none⟩, ⟨⟨(some 4), (.alloc 58 [(.int .i64 (0)), (.int .i64 (0)), (.bool false)]), none⟩, none⟩]) (.seq (.seq (.ops false [⟨⟨(some 8), (.ld true 3 (.tmp 2)), none⟩, (some (.agg [(.int .i64), (.int .i64), .bool]))⟩, ⟨⟨(some 9), (.call (.func 97) [(.tmp 8)]), none⟩, none⟩, ⟨⟨(some 10), (.un .not (.tmp 9)), none⟩, none⟩, ⟨⟨(some 11), (.mv (.tmp 10)), none⟩, none⟩, ⟨⟨(some 12), (.ld true 3 (.tmp 3)), (some (11, false))⟩, (some (.agg [(.int .i64), (.int .i64), .bool]))⟩, ⟨⟨(some 13), (.call (.func 97) [(.tmp 12)]), (some (11, false))⟩, none⟩, ⟨⟨(some 14), (.un .not (.tmp 13)), (some (11, false))⟩, none⟩, ⟨⟨(some 15), (.pick (.tmp 11) (.c (.bool true)) (.tmp 14)), none⟩, none⟩]) (.cond (.tmp 15) (.seq (.ops false [⟨⟨(some 16), (.call (.func 98) []), none⟩, none⟩, ⟨⟨none, (.st 3 (.tmp 4) (.tmp 16)), none⟩, none⟩]) .ret) .skip)) (.seq (.ops true [⟨⟨(some 17), (.fldA 0 (.tmp 2)), none⟩, none⟩, ⟨⟨(some 18), (.ld false 1 (.tmp 17)), none⟩, (some (.int .i64))⟩, ⟨⟨(some 19), (.fldA 1 (.tmp 3)), none⟩, none⟩, ⟨⟨(some 20), (.ld false 1 (.tmp 19)), none⟩, (some (.int .i64))⟩, ⟨⟨(some 21), (.bin .mul (.tmp 18) (.tmp 20)), none⟩, none⟩, ⟨⟨(some 22), (.fldA 0 (.tmp 3)), none⟩, none⟩, ⟨⟨(some 23), (.ld false 1 (.tmp 22)), none⟩, (some (.int .i64))⟩, ⟨⟨(some 24), (.fldA 1 (.tmp 2)), none⟩, none⟩, ⟨⟨(some 25), (.ld false 1 (.tmp 24)), none⟩, (some (.int .i64))⟩, ⟨⟨(some 26), (.bin .mul (.tmp 23) (.tmp 25)), none⟩, none⟩, ⟨⟨(some 27), (.bin .add (.tmp 21) (.tmp 26)), none⟩, none⟩, ⟨⟨(some 28), (.fldA 1 (.tmp 2)), none⟩, none⟩, ⟨⟨(some 29), (.ld false 1 (.tmp 28)), none⟩, (some (.int .i64))⟩, ⟨⟨(some 30), (.fldA 1 (.tmp 3)), none⟩, none⟩, ⟨⟨(some 31), (.ld false 1 (.tmp 30)), none⟩, (some (.int .i64))⟩, ⟨⟨(some 32), (.bin .mul (.tmp 29) (.tmp 31)), none⟩, none⟩, ⟨⟨(some 5), (.mv (.tmp 27)), none⟩, none⟩, ⟨⟨(some 6), (.mv (.tmp 32)), none⟩, none⟩]) (.seq (.ops false [⟨⟨(some 33), (.mv (.tmp 5)), none⟩, none⟩, ⟨⟨(some 34), (.mv (.tmp 6)), none⟩, none⟩, ⟨⟨(some 35), (.call (.func 99) [(.tmp 33), (.tmp 34)]), none⟩, none⟩, ⟨⟨(some 7), (.mv (.tmp 35)), none⟩, none⟩]) (.seq (.ops true [⟨⟨(some 36), (.mv (.tmp 5)), none⟩, none⟩, ⟨⟨(some 37), (.mv (.tmp 7)), none⟩, none⟩, ⟨⟨(some 38), (.bin .quo (.tmp 36) (.tmp 37)), none⟩, none⟩, ⟨⟨(some 39), (.mv (.tmp 6)), none⟩, none⟩, ⟨⟨(some 40), (.mv (.tmp 7)), none⟩, none⟩, ⟨⟨(some 41), (.bin .quo (.tmp 39) (.tmp 40)), none⟩, none⟩, ⟨⟨(some 42), (.call (.func 58) [(.tmp 38), (.tmp 41)]), none⟩, none⟩, ⟨⟨none, (.st 3 (.tmp 4) (.tmp 42)), none⟩, none⟩]) .ret)))))
def rs_frac_Frac_Add : List ResultVar := [(.cell 4 58)]
theorem ir_frac_Frac_Add : compCode Try.prog (Try.f57.body.getD .skip) [] = some (xr_frac_Frac_Add.erase, []) := by kernel_rfl
/-! frac_Frac_Add -/
def gm_frac_Frac_Add : Gam := (Gam.fn 97 as_frac_Frac_Fine ga_frac_Frac_Fine em_frac_Frac_Fine (Gam.fn 98 as_frac_Wrong ga_frac_Wrong em_frac_Wrong (Gam.fn 99 as_frac_common ga_frac_common em_frac_common (Gam.fn 58 as_frac_New ga_frac_New em_frac_New Gam.bot))))
theorem gk_frac_Frac_Add : GamOk Try.prog GG gm_frac_Frac_Add := (GamOk.fn at_frac_Frac_Fine (GamOk.fn at_frac_Wrong (GamOk.fn at_frac_common (GamOk.fn at_frac_New GamOk.bot))))
def lm_frac_Frac_Add : Lam := fun _ j S kn ke => match j with
  | _ => .fail
/-- frac_Frac_Add -/
def go_frac_Frac_Add (n0 : Int) (n1 : Int) (b2 : Bool) (n3 : Int) (n4 : Int) (b5 : Bool) : Option (Int × Int × Bool) :=
  (go_frac_Frac_Fine n0 n1 b2).bind fun r6 =>
  bif (!r6) then
   (go_frac_Wrong).bind fun r7 =>
   some (r7.1, r7.2.1, r7.2.2)
  else
   (go_frac_Frac_Fine n3 n4 b5).bind fun r8 =>
   bif (!r8) then
    (go_frac_Wrong).bind fun r9 =>
    some (r9.1, r9.2.1, r9.2.2)
   else
    (go_frac_common (IntKind.wrap .i64 ((IntKind.wrap .i64 (n0 * n4)) + (IntKind.wrap .i64 (n3 * n1)))) (IntKind.wrap .i64 (n1 * n4))).bind fun r10 =>
    bif (decide (r10 ≠ 0)) then
     bif (decide (r10 ≠ 0)) then
      (go_frac_New (IntKind.wrap .i64 (Int.tdiv (IntKind.wrap .i64 ((IntKind.wrap .i64 (n0 * n4)) + (IntKind.wrap .i64 (n3 * n1)))) r10)) (IntKind.wrap .i64 (Int.tdiv (IntKind.wrap .i64 (n1 * n4)) r10))).bind fun r11 =>
      some (r11.1, r11.2.1, r11.2.2)
     else none
    else none
def em_frac_Frac_Add (r : (Int × Int × Bool)) : PV := (.agg [(.int .i64 r.1), (.int .i64 r.2.1), (.bool r.2.2)])
def rh_frac_Frac_Add : Shp := (.agg [(.int .i64), (.int .i64), .bool])
def ra_frac_Frac_Add (v : PV) : (Int × Int × Bool) := ((v.subs.headD .nilSl).num, (v.subs.tail.headD .nilSl).num, (v.subs.tail.tail.headD .nilSl).tru)
def kf_frac_Frac_Add (v : PV) : Tree (Int × Int × Bool) := .chk (rh_frac_Frac_Add.ok v) (.leaf (ra_frac_Frac_Add v))
theorem rn_frac_Frac_Add (n0 : Int) (n1 : Int) (b2 : Bool) (n3 : Int) (n4 : Int) (b5 : Bool) : (ev GG gm_frac_Frac_Add lm_frac_Frac_Add xr_frac_Frac_Add ⟨slots 43 0 [(0, .p (.agg [(.int .i64 n0), (.int .i64 n1), (.bool b2)])), (1, .p (.agg [(.int .i64 n3), (.int .i64 n4), (.bool b5)]))], []⟩ (fun S => finT Try.prog rs_frac_Frac_Add S kf_frac_Frac_Add) (retT Try.prog rs_frac_Frac_Add kf_frac_Frac_Add)).run = go_frac_Frac_Add n0 n1 b2 n3 n4 b5 := by kernel_rfl
theorem ok_frac_Frac_Add (n0 : Int) (n1 : Int) (b2 : Bool) (n3 : Int) (n4 : Int) (b5 : Bool) (r : (Int × Int × Bool)) (h : go_frac_Frac_Add n0 n1 b2 n3 n4 b5 = some r) : FunEq Try.prog GG 57 [(.agg [(.int .i64 n0), (.int .i64 n1), (.bool b2)]), (.agg [(.int .i64 n3), (.int .i64 n4), (.bool b5)])] (em_frac_Frac_Add r) :=
  fun_of_ev (x := xr_frac_Frac_Add) (Λ := lm_frac_Frac_Add) gk_frac_Frac_Add [] Try.func57 rfl (by kernel_rfl) ir_frac_Frac_Add (by kernel_rfl) (congrArg Array.toList Try.results57) Try.ntmps57 (⟨trivial, ⟨⟨trivial, ⟨⟨trivial, trivial⟩, trivial⟩⟩, ⟨trivial, ⟨trivial, ⟨trivial, trivial⟩⟩⟩⟩⟩) (leaf_of fun v => (by kernel_rfl : rh_frac_Frac_Add.build v = em_frac_Frac_Add (ra_frac_Frac_Add v))) (by kernel_rfl) ((rn_frac_Frac_Add n0 n1 b2 n3 n4 b5).trans h)
def as_frac_Frac_Add : List Shp := [(.agg [(.int .i64), (.int .i64), .bool]), (.agg [(.int .i64), (.int .i64), .bool])]
def ga_frac_Frac_Add (vs : List PV) : Option (Int × Int × Bool) := go_frac_Frac_Add (((tls 0 vs).headD .nilSl).subs.headD .nilSl).num (((tls 0 vs).headD .nilSl).subs.tail.headD .nilSl).num (((tls 0 vs).headD .nilSl).subs.tail.tail.headD .nilSl).tru (((tls 1 vs).headD .nilSl).subs.headD .nilSl).num (((tls 1 vs).headD .nilSl).subs.tail.headD .nilSl).num (((tls 1 vs).headD .nilSl).subs.tail.tail.headD .nilSl).tru
theorem at_frac_Frac_Add : FnAt Try.prog GG 57 as_frac_Frac_Add ga_frac_Frac_Add em_frac_Frac_Add := fun vs h r hr => by
  have e : Shp.buildL as_frac_Frac_Add vs = [(.agg [(.int .i64 (((tls 0 vs).headD .nilSl).subs.headD .nilSl).num), (.int .i64 (((tls 0 vs).headD .nilSl).subs.tail.headD .nilSl).num), (.bool (((tls 0 vs).headD .nilSl).subs.tail.tail.headD .nilSl).tru)]), (.agg [(.int .i64 (((tls 1 vs).headD .nilSl).subs.headD .nilSl).num), (.int .i64 (((tls 1 vs).headD .nilSl).subs.tail.headD .nilSl).num), (.bool (((tls 1 vs).headD .nilSl).subs.tail.tail.headD .nilSl).tru)])] := by kernel_rfl
  rw [← Shp.buildL_eq _ h, e]
  exact .inl ⟨by decide, ok_frac_Frac_Add _ _ _ _ _ _ r hr⟩

def xb_vec_Sum_frac_Frac_0 : XR := (.seq (.ops false [⟨⟨(some 13), (.bin .lss (.tmp 12) (.tmp 11)), none⟩, none⟩]) (.seq (.cond (.tmp 13) .skip (.exit 0)) (.seq (.block 1 (.seq (.ops false [⟨⟨(some 14), (.ixA 3 (.tmp 10) (.tmp 12)), none⟩, none⟩, ⟨⟨(some 15), (.ld true 3 (.tmp 14)), none⟩, (some (.agg [(.int .i64), (.int .i64), .bool]))⟩, ⟨⟨(some 6), (.alloc 58 [(.int .i64 (0)), (.int .i64 (0)), (.bool false)]), none⟩, none⟩, ⟨⟨none, (.st 3 (.tmp 6) (.tmp 15)), none⟩, none⟩]) (.ops false [⟨⟨(some 16), (.ld true 3 (.tmp 4)), none⟩, (some (.agg [(.int .i64), (.int .i64), .bool]))⟩, ⟨⟨(some 17), (.mkI 58 (.tmp 16)), none⟩, none⟩, ⟨⟨(some 18), (.ld true 3 (.tmp 6)), none⟩, (some (.agg [(.int .i64), (.int .i64), .bool]))⟩, ⟨⟨(some 19), (.callI 57 58 (.tmp 17) [(.tmp 18)]), none⟩, none⟩, ⟨⟨none, (.st 3 (.tmp 4) (.tmp 19)), none⟩, none⟩]))) (.ops false [⟨⟨(some 20), (.bin .add (.tmp 12) (.c (.int .i64 (1)))), none⟩, none⟩, ⟨⟨(some 12), (.mv (.tmp 20)), none⟩, none⟩]))))
def xr_vec_Sum_frac_Frac : XR := (.seq (.ops false [⟨⟨(some 2), (.alloc 58 [(.int .i64 (0)), (.int .i64 (0)), (.bool false)]), none⟩, none⟩]) (.seq (.ops false [⟨⟨(some 3), (.alloc 58 [(.int .i64 (0)), (.int .i64 (0)), (.bool false)]), none⟩, none⟩]) (.seq (.ops false [⟨⟨(some 7), (.ld true 3 (.tmp 3)), none⟩, (some (.agg [(.int .i64), (.int .i64), .bool]))⟩, ⟨⟨(some 8), (.mkI 58 (.tmp 7)), none⟩, none⟩, ⟨⟨(some 9), (.callI 140 58 (.tmp 8) [(.c (.int .i64 (0)))]), none⟩, none⟩, ⟨⟨(some 4), (.alloc 58 [(.int .i64 (0)), (.int .i64 (0)), (.bool false)]), none⟩, none⟩, ⟨⟨none, (.st 3 (.tmp 4) (.tmp 9)), none⟩, none⟩]) (.seq (.seq (.ops false [⟨⟨(some 10), (.mv (.tmp 0)), none⟩, none⟩, ⟨⟨(some 11), (.len (.tmp 10)), none⟩, none⟩, ⟨⟨(some 12), (.mv (.c (.int .i64 (0)))), none⟩, none⟩]) (.block 0 (.loop 0 [2, 4, 10, 11, 12] xb_vec_Sum_frac_Frac_0))) (.seq (.ops false [⟨⟨(some 21), (.ld true 3 (.tmp 4)), none⟩, (some (.agg [(.int .i64), (.int .i64), .bool]))⟩, ⟨⟨none, (.st 3 (.tmp 2) (.tmp 21)), none⟩, none⟩]) .ret)))))
def rs_vec_Sum_frac_Frac : List ResultVar := [(.cell 2 58)]
theorem ir_vec_Sum_frac_Frac : compCode Try.prog (Try.f56.body.getD .skip) [[2, 4, 10, 11, 12]] = some (xr_vec_Sum_frac_Frac.erase, []) := by kernel_rfl
/-! vec_Sum_frac_Frac -/
def gm_vec_Sum_frac_Frac : Gam := (Gam.fn 140 as_frac_Frac_Of ga_frac_Frac_Of em_frac_Frac_Of (Gam.fn 57 as_frac_Frac_Add ga_frac_Frac_Add em_frac_Frac_Add Gam.bot))
theorem gk_vec_Sum_frac_Frac : GamOk Try.prog GG gm_vec_Sum_frac_Frac := (GamOk.fn at_frac_Frac_Of (GamOk.fn at_frac_Frac_Add GamOk.bot))
def st_vec_Sum_frac_Frac_0 (b4 : Bool) (b5 : Bool) (es6 : List PV) (n7 : Int) (n8 : Int) (n9 : Int) (n10 : Int) (b11 : Bool) (n12 : Int) (n13 : Int) (b14 : Bool) : Option (((Bool × Bool × List PV × Int × Int × Int × Int × Bool × Int × Int × Bool)) ⊕ (((Int × Int × Bool × Int × Int × Bool)))) :=
  bif (decide (n8 < n7)) then
   bif (decide (0 ≤ n8)) then
    bif (decide (n8 < (((List.length es6) : Nat) : Int))) then
     bif (decide ((Int.toNat n8) < (List.length es6))) then
      bif (decide ((List.length (PV.cells (List.getD es6 (Int.toNat n8) .nilSl))) = 3)) then
       bif (Shp.ok (.agg [(.int .i64), (.int .i64), .bool]) (.agg (PV.cells (List.getD es6 (Int.toNat n8) .nilSl)))) then
        (go_frac_Frac_Add n12 n13 b14 (PV.num (List.headD (PV.subs (.agg (PV.cells (List.getD es6 (Int.toNat n8) .nilSl)))) .nilSl)) (PV.num (List.headD (List.tail (PV.subs (.agg (PV.cells (List.getD es6 (Int.toNat n8) .nilSl))))) .nilSl)) (PV.tru (List.headD (List.tail (List.tail (PV.subs (.agg (PV.cells (List.getD es6 (Int.toNat n8) .nilSl)))))) .nilSl))).bind fun r15 =>
        some (Sum.inl (b4, b5, es6, n7, (IntKind.wrap .i64 (n8 + 1)), n9, n10, b11, r15.1, r15.2.1, r15.2.2))
       else none
      else none
     else none
    else none
   else none
  else
   some (Sum.inr (n9, n10, b11, n12, n13, b14))
def lp_vec_Sum_frac_Frac_0 (b4 : Bool) (b5 : Bool) (es6 : List PV) (n7 : Int) (n8 : Int) (n9 : Int) (n10 : Int) (b11 : Bool) (n12 : Int) (n13 : Int) (b14 : Bool) : Option (((Int × Int × Bool × Int × Int × Bool))) := loopN (X := (Bool × Bool × List PV × Int × Int × Int × Int × Bool × Int × Int × Bool)) (fun x => st_vec_Sum_frac_Frac_0 x.1 x.2.1 x.2.2.1 x.2.2.2.1 x.2.2.2.2.1 x.2.2.2.2.2.1 x.2.2.2.2.2.2.1 x.2.2.2.2.2.2.2.1 x.2.2.2.2.2.2.2.2.1 x.2.2.2.2.2.2.2.2.2.1 x.2.2.2.2.2.2.2.2.2.2) (b4, b5, es6, n7, n8, n9, n10, b11, n12, n13, b14)
def sh_vec_Sum_frac_Frac_0 : StSh := ⟨22, [(2, (.ptr 0 0)), (4, (.ptr 1 0)), (10, (.p (.sl 3))), (11, (.p (.int .i64))), (12, (.p (.int .i64)))], [(.box 58 [(.p (.int .i64)), (.p (.int .i64)), (.p .bool)]), (.box 58 [(.p (.int .i64)), (.p (.int .i64)), (.p .bool)])]⟩
def sx_vec_Sum_frac_Frac_0 (x : (Bool × Bool × List PV × Int × Int × Int × Int × Bool × Int × Int × Bool)) : St := ⟨slots 22 0 [(2, (.ptr 0 0)), (4, (.ptr 1 0)), (10, (.p (.sl x.1 x.2.1 3 x.2.2.1))), (11, (.p (.int .i64 x.2.2.2.1))), (12, (.p (.int .i64 x.2.2.2.2.1)))], [(.box 58 [(.p (.int .i64 x.2.2.2.2.2.1)), (.p (.int .i64 x.2.2.2.2.2.2.1)), (.p (.bool x.2.2.2.2.2.2.2.1))]), (.box 58 [(.p (.int .i64 x.2.2.2.2.2.2.2.2.1)), (.p (.int .i64 x.2.2.2.2.2.2.2.2.2.1)), (.p (.bool x.2.2.2.2.2.2.2.2.2.2))])]⟩
def sa_vec_Sum_frac_Frac_0 (S : St) : (Bool × Bool × List PV × Int × Int × Int × Int × Bool × Int × Int × Bool) := (((tls 10 S.t).headD .any).pv.nl, ((tls 10 S.t).headD .any).pv.ex, ((tls 10 S.t).headD .any).pv.elts, ((tls 11 S.t).headD .any).pv.num, ((tls 12 S.t).headD .any).pv.num, (((tls 0 S.own).headD .gone).subs.headD .any).pv.num, (((tls 0 S.own).headD .gone).subs.tail.headD .any).pv.num, (((tls 0 S.own).headD .gone).subs.tail.tail.headD .any).pv.tru, (((tls 1 S.own).headD .gone).subs.headD .any).pv.num, (((tls 1 S.own).headD .gone).subs.tail.headD .any).pv.num, (((tls 1 S.own).headD .gone).subs.tail.tail.headD .any).pv.tru)
def tz_vec_Sum_frac_Frac_0_0 : StSh := ⟨22, [(2, (.ptr 0 0)), (4, (.ptr 1 0))], [(.box 58 [(.p (.int .i64)), (.p (.int .i64)), (.p .bool)]), (.box 58 [(.p (.int .i64)), (.p (.int .i64)), (.p .bool)])]⟩
def tx_vec_Sum_frac_Frac_0_0 (x : (Int × Int × Bool × Int × Int × Bool)) : St := ⟨slots 22 0 [(2, (.ptr 0 0)), (4, (.ptr 1 0))], [(.box 58 [(.p (.int .i64 x.1)), (.p (.int .i64 x.2.1)), (.p (.bool x.2.2.1))]), (.box 58 [(.p (.int .i64 x.2.2.2.1)), (.p (.int .i64 x.2.2.2.2.1)), (.p (.bool x.2.2.2.2.2))])]⟩
def ta_vec_Sum_frac_Frac_0_0 (S : St) : (Int × Int × Bool × Int × Int × Bool) := ((((tls 0 S.own).headD .gone).subs.headD .any).pv.num, (((tls 0 S.own).headD .gone).subs.tail.headD .any).pv.num, (((tls 0 S.own).headD .gone).subs.tail.tail.headD .any).pv.tru, (((tls 1 S.own).headD .gone).subs.headD .any).pv.num, (((tls 1 S.own).headD .gone).subs.tail.headD .any).pv.num, (((tls 1 S.own).headD .gone).subs.tail.tail.headD .any).pv.tru)
def kb_vec_Sum_frac_Frac_0 : Exit → St → Tree (((Bool × Bool × List PV × Int × Int × Int × Int × Bool × Int × Int × Bool)) ⊕ (((Int × Int × Bool × Int × Int × Bool)))) := (exOne (.exit 0) [2, 4] tz_vec_Sum_frac_Frac_0_0 ta_vec_Sum_frac_Frac_0_0 (fun y => Sum.inr (y)) exNil)
def ky_vec_Sum_frac_Frac_0 : Dec (((Int × Int × Bool × Int × Int × Bool))) := fun _ y ke => ke ((.exit 0) : EK).ex (tx_vec_Sum_frac_Frac_0_0 y)
theorem kk_vec_Sum_frac_Frac_0 : ExOk Sum.inr kb_vec_Sum_frac_Frac_0 ky_vec_Sum_frac_Frac_0 := (ExOk.one (acc := ta_vec_Sum_frac_Frac_0_0) (bY := tx_vec_Sum_frac_Frac_0_0) (inj1 := fun y => y) (fun S => by kernel_rfl) (fun y _ ke => .inr (by kernel_rfl)) ExOk.nil)
def lm_vec_Sum_frac_Frac : Lam := fun _ j S kn ke => match j with
  | 0 => prepT [2, 4, 10, 11, 12] [] S fun S => .chk (sh_vec_Sum_frac_Frac_0.ok S) (.bind (loopN (fun x => st_vec_Sum_frac_Frac_0 x.1 x.2.1 x.2.2.1 x.2.2.2.1 x.2.2.2.2.1 x.2.2.2.2.2.1 x.2.2.2.2.2.2.1 x.2.2.2.2.2.2.2.1 x.2.2.2.2.2.2.2.2.1 x.2.2.2.2.2.2.2.2.2.1 x.2.2.2.2.2.2.2.2.2.2) (sa_vec_Sum_frac_Frac_0 S)) fun y => ky_vec_Sum_frac_Frac_0 _ y ke)
  | _ => .fail
theorem sr_vec_Sum_frac_Frac_0 (x : (Bool × Bool × List PV × Int × Int × Int × Int × Bool × Int × Int × Bool)) : (ev GG gm_vec_Sum_frac_Frac lm_vec_Sum_frac_Frac xb_vec_Sum_frac_Frac_0 (sx_vec_Sum_frac_Frac_0 x) (fun S => forgetT [2, 4, 10, 11, 12] S fun S => prepT [2, 4, 10, 11, 12] [] S fun S => .chk (sh_vec_Sum_frac_Frac_0.ok S) (.leaf (.inl (sa_vec_Sum_frac_Frac_0 S)))) kb_vec_Sum_frac_Frac_0).run = st_vec_Sum_frac_Frac_0 x.1 x.2.1 x.2.2.1 x.2.2.2.1 x.2.2.2.2.1 x.2.2.2.2.2.1 x.2.2.2.2.2.2.1 x.2.2.2.2.2.2.2.1 x.2.2.2.2.2.2.2.2.1 x.2.2.2.2.2.2.2.2.2.1 x.2.2.2.2.2.2.2.2.2.2 := by kernel_rfl
theorem la_vec_Sum_frac_Frac_0 : LamAt Try.prog GG lm_vec_Sum_frac_Frac 0 (.loop [2, 4, 10, 11, 12] xb_vec_Sum_frac_Frac_0.erase) := lam_loop (body := xb_vec_Sum_frac_Frac_0) (Λ' := lm_vec_Sum_frac_Frac) gk_vec_Sum_frac_Frac (⟨trivial, ⟨⟨trivial, trivial⟩, ⟨⟨trivial, trivial⟩, trivial⟩⟩⟩) (fun S => (by kernel_rfl : sh_vec_Sum_frac_Frac_0.build S = sx_vec_Sum_frac_Frac_0 (sa_vec_Sum_frac_Frac_0 S))) kk_vec_Sum_frac_Frac_0 sr_vec_Sum_frac_Frac_0 (fun _ _ _ => rfl)
/-- vec_Sum_frac_Frac -/
def go_vec_Sum_frac_Frac (b0 : Bool) (b1 : Bool) (es2 : List PV) : Option (Int × Int × Bool) :=
  (go_frac_Frac_Of 0 0 false 0).bind fun r3 =>
  (lp_vec_Sum_frac_Frac_0 b0 b1 es2 (((List.length es2) : Nat) : Int) 0 0 0 false r3.1 r3.2.1 r3.2.2).bind fun y16 =>
  some (y16.2.2.2.1, y16.2.2.2.2.1, y16.2.2.2.2.2)
def em_vec_Sum_frac_Frac (r : (Int × Int × Bool)) : PV := (.agg [(.int .i64 r.1), (.int .i64 r.2.1), (.bool r.2.2)])
def rh_vec_Sum_frac_Frac : Shp := (.agg [(.int .i64), (.int .i64), .bool])
def ra_vec_Sum_frac_Frac (v : PV) : (Int × Int × Bool) := ((v.subs.headD .nilSl).num, (v.subs.tail.headD .nilSl).num, (v.subs.tail.tail.headD .nilSl).tru)
def kf_vec_Sum_frac_Frac (v : PV) : Tree (Int × Int × Bool) := .chk (rh_vec_Sum_frac_Frac.ok v) (.leaf (ra_vec_Sum_frac_Frac v))
theorem rn_vec_Sum_frac_Frac (b0 : Bool) (b1 : Bool) (es2 : List PV) : (ev GG gm_vec_Sum_frac_Frac lm_vec_Sum_frac_Frac xr_vec_Sum_frac_Frac ⟨slots 22 0 [(0, .p (.sl b0 b1 3 es2))], []⟩ (fun S => finT Try.prog rs_vec_Sum_frac_Frac S kf_vec_Sum_frac_Frac) (retT Try.prog rs_vec_Sum_frac_Frac kf_vec_Sum_frac_Frac)).run = go_vec_Sum_frac_Frac b0 b1 es2 := by kernel_rfl
theorem ok_vec_Sum_frac_Frac (b0 : Bool) (b1 : Bool) (es2 : List PV) (r : (Int × Int × Bool)) (h : go_vec_Sum_frac_Frac b0 b1 es2 = some r) : FunEq Try.prog GG 56 [(.sl b0 b1 3 es2)] (em_vec_Sum_frac_Frac r) :=
  fun_of_ev (x := xr_vec_Sum_frac_Frac) (Λ := lm_vec_Sum_frac_Frac) gk_vec_Sum_frac_Frac [[2, 4, 10, 11, 12]] Try.func56 rfl (by kernel_rfl) ir_vec_Sum_frac_Frac (by kernel_rfl) (congrArg Array.toList Try.results56) Try.ntmps56 (⟨trivial, ⟨trivial, ⟨trivial, ⟨⟨trivial, la_vec_Sum_frac_Frac_0⟩, ⟨trivial, trivial⟩⟩⟩⟩⟩) (leaf_of fun v => (by kernel_rfl : rh_vec_Sum_frac_Frac.build v = em_vec_Sum_frac_Frac (ra_vec_Sum_frac_Frac v))) (by kernel_rfl) ((rn_vec_Sum_frac_Frac b0 b1 es2).trans h)
def as_vec_Sum_frac_Frac : List Shp := [(.sl 3)]
def ga_vec_Sum_frac_Frac (vs : List PV) : Option (Int × Int × Bool) := go_vec_Sum_frac_Frac ((tls 0 vs).headD .nilSl).nl ((tls 0 vs).headD .nilSl).ex ((tls 0 vs).headD .nilSl).elts
theorem at_vec_Sum_frac_Frac : FnAt Try.prog GG 56 as_vec_Sum_frac_Frac ga_vec_Sum_frac_Frac em_vec_Sum_frac_Frac := fun vs h r hr => by
  have e : Shp.buildL as_vec_Sum_frac_Frac vs = [(.sl ((tls 0 vs).headD .nilSl).nl ((tls 0 vs).headD .nilSl).ex 3 ((tls 0 vs).headD .nilSl).elts)] := by kernel_rfl
  rw [← Shp.buildL_eq _ h, e]
  exact .inl ⟨by decide, ok_vec_Sum_frac_Frac _ _ _ r hr⟩

def xr_vec_Dot_frac_Frac : XR := (.seq (.ops false [⟨⟨(some 4), (.alloc 58 [(.int .i64 (0)), (.int .i64 (0)), (.bool false)]), none⟩, none⟩]) (.seq (.ops false [⟨⟨(some 5), (.mv (.tmp 0)), none⟩, none⟩, ⟨⟨(some 6), (.mv (.tmp 1)), none⟩, none⟩, ⟨⟨(some 7), (.call (.func 100) [(.tmp 5), (.tmp 6), (.func 101)]), none⟩, none⟩, ⟨⟨(some 8), (.call (.func 56) [(.tmp 7)]), none⟩, none⟩, ⟨⟨none, (.st 3 (.tmp 4) (.tmp 8)), none⟩, none⟩]) .ret))
def rs_vec_Dot_frac_Frac : List ResultVar := [(.cell 4 58)]
theorem ir_vec_Dot_frac_Frac : compCode Try.prog (Try.f59.body.getD .skip) [] = some (xr_vec_Dot_frac_Frac.erase, []) := by kernel_rfl
/-! vec_Dot_frac_Frac -/
def gm_vec_Dot_frac_Frac : Gam := (Gam.fn 100 as_vec_of_frac_Frac ga_vec_of_frac_Frac em_vec_of_frac_Frac (Gam.fn 56 as_vec_Sum_frac_Frac ga_vec_Sum_frac_Frac em_vec_Sum_frac_Frac Gam.bot))
theorem gk_vec_Dot_frac_Frac : GamOk Try.prog GG gm_vec_Dot_frac_Frac := (GamOk.fn at_vec_of_frac_Frac (GamOk.fn at_vec_Sum_frac_Frac GamOk.bot))
def lm_vec_Dot_frac_Frac : Lam := fun _ j S kn ke => match j with
  | _ => .fail
/-- vec_Dot_frac_Frac -/
def go_vec_Dot_frac_Frac (b0 : Bool) (b1 : Bool) (es2 : List PV) (b3 : Bool) (b4 : Bool) (es5 : List PV) : Option (Int × Int × Bool) :=
  (go_vec_of_frac_Frac b0 b1 es2 b3 b4 es5).bind fun r6 =>
  (go_vec_Sum_frac_Frac r6.1 r6.2.1 r6.2.2).bind fun r7 =>
  some (r7.1, r7.2.1, r7.2.2)
def em_vec_Dot_frac_Frac (r : (Int × Int × Bool)) : PV := (.agg [(.int .i64 r.1), (.int .i64 r.2.1), (.bool r.2.2)])
def rh_vec_Dot_frac_Frac : Shp := (.agg [(.int .i64), (.int .i64), .bool])
def ra_vec_Dot_frac_Frac (v : PV) : (Int × Int × Bool) := ((v.subs.headD .nilSl).num, (v.subs.tail.headD .nilSl).num, (v.subs.tail.tail.headD .nilSl).tru)
def kf_vec_Dot_frac_Frac (v : PV) : Tree (Int × Int × Bool) := .chk (rh_vec_Dot_frac_Frac.ok v) (.leaf (ra_vec_Dot_frac_Frac v))
theorem rn_vec_Dot_frac_Frac (b0 : Bool) (b1 : Bool) (es2 : List PV) (b3 : Bool) (b4 : Bool) (es5 : List PV) : (ev GG gm_vec_Dot_frac_Frac lm_vec_Dot_frac_Frac xr_vec_Dot_frac_Frac ⟨slots 9 0 [(0, .p (.sl b0 b1 3 es2)), (1, .p (.sl b3 b4 3 es5))], []⟩ (fun S => finT Try.prog rs_vec_Dot_frac_Frac S kf_vec_Dot_frac_Frac) (retT Try.prog rs_vec_Dot_frac_Frac kf_vec_Dot_frac_Frac)).run = go_vec_Dot_frac_Frac b0 b1 es2 b3 b4 es5 := by kernel_rfl
theorem ok_vec_Dot_frac_Frac (b0 : Bool) (b1 : Bool) (es2 : List PV) (b3 : Bool) (b4 : Bool) (es5 : List PV) (r : (Int × Int × Bool)) (h : go_vec_Dot_frac_Frac b0 b1 es2 b3 b4 es5 = some r) : FunEq Try.prog GG 59 [(.sl b0 b1 3 es2), (.sl b3 b4 3 es5)] (em_vec_Dot_frac_Frac r) :=
  fun_of_ev (x := xr_vec_Dot_frac_Frac) (Λ := lm_vec_Dot_frac_Frac) gk_vec_Dot_frac_Frac [] Try.func59 rfl (by kernel_rfl) ir_vec_Dot_frac_Frac (by kernel_rfl) (congrArg Array.toList Try.results59) Try.ntmps59 (⟨trivial, ⟨trivial, trivial⟩⟩) (leaf_of fun v => (by kernel_rfl : rh_vec_Dot_frac_Frac.build v = em_vec_Dot_frac_Frac (ra_vec_Dot_frac_Frac v))) (by kernel_rfl) ((rn_vec_Dot_frac_Frac b0 b1 es2 b3 b4 es5).trans h)
def as_vec_Dot_frac_Frac : List Shp := [(.sl 3), (.sl 3)]
def ga_vec_Dot_frac_Frac (vs : List PV) : Option (Int × Int × Bool) := go_vec_Dot_frac_Frac ((tls 0 vs).headD .nilSl).nl ((tls 0 vs).headD .nilSl).ex ((tls 0 vs).headD .nilSl).elts ((tls 1 vs).headD .nilSl).nl ((tls 1 vs).headD .nilSl).ex ((tls 1 vs).headD .nilSl).elts
theorem at_vec_Dot_frac_Frac : FnAt Try.prog GG 59 as_vec_Dot_frac_Frac ga_vec_Dot_frac_Frac em_vec_Dot_frac_Frac := fun vs h r hr => by
  have e : Shp.buildL as_vec_Dot_frac_Frac vs = [(.sl ((tls 0 vs).headD .nilSl).nl ((tls 0 vs).headD .nilSl).ex 3 ((tls 0 vs).headD .nilSl).elts), (.sl ((tls 1 vs).headD .nilSl).nl ((tls 1 vs).headD .nilSl).ex 3 ((tls 1 vs).headD .nilSl).elts)] := by kernel_rfl
  rw [← Shp.buildL_eq _ h, e]
  exact .inl ⟨by decide, ok_vec_Dot_frac_Frac _ _ _ _ _ _ r hr⟩

def xr_vec_Add_frac_Frac_1 : XR := (.seq (.ops false [⟨⟨(some 2), (.box 58 (.tmp 0)), none⟩, none⟩, ⟨⟨(some 3), (.box 58 (.tmp 1)), none⟩, none⟩, ⟨⟨(some 4), (.alloc 58 [(.int .i64 (0)), (.int .i64 (0)), (.bool false)]), none⟩, none⟩]) (.seq (.ops false [⟨⟨(some 5), (.ld true 3 (.tmp 2)), none⟩, (some (.agg [(.int .i64), (.int .i64), .bool]))⟩, ⟨⟨(some 6), (.mkI 58 (.tmp 5)), none⟩, none⟩, ⟨⟨(some 7), (.ld true 3 (.tmp 3)), none⟩, (some (.agg [(.int .i64), (.int .i64), .bool]))⟩, ⟨⟨(some 8), (.callI 57 58 (.tmp 6) [(.tmp 7)]), none⟩, none⟩, ⟨⟨none, (.st 3 (.tmp 4) (.tmp 8)), none⟩, none⟩]) .ret))
def rs_vec_Add_frac_Frac_1 : List ResultVar := [(.cell 4 58)]
theorem ir_vec_Add_frac_Frac_1 : compCode Try.prog (Try.f105.body.getD .skip) [] = some (xr_vec_Add_frac_Frac_1.erase, []) := by kernel_rfl
/-! vec_Add_frac_Frac_1 -/
def gm_vec_Add_frac_Frac_1 : Gam := (Gam.fn 57 as_frac_Frac_Add ga_frac_Frac_Add em_frac_Frac_Add Gam.bot)
theorem gk_vec_Add_frac_Frac_1 : GamOk Try.prog GG gm_vec_Add_frac_Frac_1 := (GamOk.fn at_frac_Frac_Add GamOk.bot)
def lm_vec_Add_frac_Frac_1 : Lam := fun _ j S kn ke => match j with
  | _ => .fail
/-- vec_Add_frac_Frac_1 -/
def go_vec_Add_frac_Frac_1 (n0 : Int) (n1 : Int) (b2 : Bool) (n3 : Int) (n4 : Int) (b5 : Bool) : Option (Int × Int × Bool) :=
  (go_frac_Frac_Add n0 n1 b2 n3 n4 b5).bind fun r6 =>
  some (r6.1, r6.2.1, r6.2.2)
def em_vec_Add_frac_Frac_1 (r : (Int × Int × Bool)) : PV := (.agg [(.int .i64 r.1), (.int .i64 r.2.1), (.bool r.2.2)])
def rh_vec_Add_frac_Frac_1 : Shp := (.agg [(.int .i64), (.int .i64), .bool])
def ra_vec_Add_frac_Frac_1 (v : PV) : (Int × Int × Bool) := ((v.subs.headD .nilSl).num, (v.subs.tail.headD .nilSl).num, (v.subs.tail.tail.headD .nilSl).tru)
def kf_vec_Add_frac_Frac_1 (v : PV) : Tree (Int × Int × Bool) := .chk (rh_vec_Add_frac_Frac_1.ok v) (.leaf (ra_vec_Add_frac_Frac_1 v))
theorem rn_vec_Add_frac_Frac_1 (n0 : Int) (n1 : Int) (b2 : Bool) (n3 : Int) (n4 : Int) (b5 : Bool) : (ev GG gm_vec_Add_frac_Frac_1 lm_vec_Add_frac_Frac_1 xr_vec_Add_frac_Frac_1 ⟨slots 9 0 [(0, .p (.agg [(.int .i64 n0), (.int .i64 n1), (.bool b2)])), (1, .p (.agg [(.int .i64 n3), (.int .i64 n4), (.bool b5)]))], []⟩ (fun S => finT Try.prog rs_vec_Add_frac_Frac_1 S kf_vec_Add_frac_Frac_1) (retT Try.prog rs_vec_Add_frac_Frac_1 kf_vec_Add_frac_Frac_1)).run = go_vec_Add_frac_Frac_1 n0 n1 b2 n3 n4 b5 := by kernel_rfl
theorem ok_vec_Add_frac_Frac_1 (n0 : Int) (n1 : Int) (b2 : Bool) (n3 : Int) (n4 : Int) (b5 : Bool) (r : (Int × Int × Bool)) (h : go_vec_Add_frac_Frac_1 n0 n1 b2 n3 n4 b5 = some r) : FunEq Try.prog GG 105 [(.agg [(.int .i64 n0), (.int .i64 n1), (.bool b2)]), (.agg [(.int .i64 n3), (.int .i64 n4), (.bool b5)])] (em_vec_Add_frac_Frac_1 r) :=
  fun_of_ev (x := xr_vec_Add_frac_Frac_1) (Λ := lm_vec_Add_frac_Frac_1) gk_vec_Add_frac_Frac_1 [] Try.func105 rfl (by kernel_rfl) ir_vec_Add_frac_Frac_1 (by kernel_rfl) (congrArg Array.toList Try.results105) Try.ntmps105 (⟨trivial, ⟨trivial, trivial⟩⟩) (leaf_of fun v => (by kernel_rfl : rh_vec_Add_frac_Frac_1.build v = em_vec_Add_frac_Frac_1 (ra_vec_Add_frac_Frac_1 v))) (by kernel_rfl) ((rn_vec_Add_frac_Frac_1 n0 n1 b2 n3 n4 b5).trans h)
def as_vec_Add_frac_Frac_1 : List Shp := [(.agg [(.int .i64), (.int .i64), .bool]), (.agg [(.int .i64), (.int .i64), .bool])]
def ga_vec_Add_frac_Frac_1 (vs : List PV) : Option (Int × Int × Bool) := go_vec_Add_frac_Frac_1 (((tls 0 vs).headD .nilSl).subs.headD .nilSl).num (((tls 0 vs).headD .nilSl).subs.tail.headD .nilSl).num (((tls 0 vs).headD .nilSl).subs.tail.tail.headD .nilSl).tru (((tls 1 vs).headD .nilSl).subs.headD .nilSl).num (((tls 1 vs).headD .nilSl).subs.tail.headD .nilSl).num (((tls 1 vs).headD .nilSl).subs.tail.tail.headD .nilSl).tru
theorem at_vec_Add_frac_Frac_1 : FnAt Try.prog GG 105 as_vec_Add_frac_Frac_1 ga_vec_Add_frac_Frac_1 em_vec_Add_frac_Frac_1 := fun vs h r hr => by
  have e : Shp.buildL as_vec_Add_frac_Frac_1 vs = [(.agg [(.int .i64 (((tls 0 vs).headD .nilSl).subs.headD .nilSl).num), (.int .i64 (((tls 0 vs).headD .nilSl).subs.tail.headD .nilSl).num), (.bool (((tls 0 vs).headD .nilSl).subs.tail.tail.headD .nilSl).tru)]), (.agg [(.int .i64 (((tls 1 vs).headD .nilSl).subs.headD .nilSl).num), (.int .i64 (((tls 1 vs).headD .nilSl).subs.tail.headD .nilSl).num), (.bool (((tls 1 vs).headD .nilSl).subs.tail.tail.headD .nilSl).tru)])] := by kernel_rfl
  rw [← Shp.buildL_eq _ h, e]
  exact .inl ⟨by decide, ok_vec_Add_frac_Frac_1 _ _ _ _ _ _ r hr⟩
/-! vec_of_frac_Frac -/
def gm_vec_of_frac_Frac_v1 : Gam := (Gam.fn 120 as_vec_Pairs_frac_Frac ga_vec_Pairs_frac_Frac em_vec_Pairs_frac_Frac (Gam.fn 105 as_vec_Add_frac_Frac_1 ga_vec_Add_frac_Frac_1 em_vec_Add_frac_Frac_1 Gam.bot))
theorem gk_vec_of_frac_Frac_v1 : GamOk Try.prog GG gm_vec_of_frac_Frac_v1 := (GamOk.fn at_vec_Pairs_frac_Frac (GamOk.fn at_vec_Add_frac_Frac_1 GamOk.bot))
def it_vec_of_frac_Frac_v1_0 (b7 : Bool) (b8 : Bool) (es9 : List PV) (b10 : Bool) (b11 : Bool) (es12 : List PV) (b13 : Bool) (b14 : Bool) (es15 : List PV) : Option (List (Int × Int × Bool × Int × Int × Bool)) := it_pairspF b7 b8 es9 b10 b11 es12
def cp_vec_of_frac_Frac_v1_0 (b7 : Bool) (b8 : Bool) (es9 : List PV) (b10 : Bool) (b11 : Bool) (es12 : List PV) (b13 : Bool) (b14 : Bool) (es15 : List PV) : List PV := [(.ref 0 [(.sl b7 b8 3 es9)]), (.ref 0 [(.sl b10 b11 3 es12)])]
def st_vec_of_frac_Frac_v1_0 (b7 : Bool) (b8 : Bool) (es9 : List PV) (b10 : Bool) (b11 : Bool) (es12 : List PV) (b13 : Bool) (b14 : Bool) (es15 : List PV) (u16 : (Int × Int × Bool × Int × Int × Bool)) : Option (((Bool × Bool × List PV × Bool × Bool × List PV × Bool × Bool × List PV)) ⊕ (Unit)) :=
  (go_vec_Add_frac_Frac_1 u16.1 u16.2.1 u16.2.2.1 u16.2.2.2.1 u16.2.2.2.2.1 u16.2.2.2.2.2).bind fun r17 =>
  bif (decide ((((List.length es15) + 1) * 24) ≤ 140737488355328)) then
   bif (decide (((List.length es15) + 1) ≤ 4611686018427387904)) then
    some (Sum.inl (b7, b8, es9, b10, b11, es12, (b13 && false), false, (es15 ++ [(.agg [(.int .i64 r17.1), (.int .i64 r17.2.1), (.bool r17.2.2)])])))
   else none
  else none
def lp_vec_of_frac_Frac_v1_0 (b7 : Bool) (b8 : Bool) (es9 : List PV) (b10 : Bool) (b11 : Bool) (es12 : List PV) (b13 : Bool) (b14 : Bool) (es15 : List PV) : Option (((Bool × Bool × List PV × Bool × Bool × List PV × Bool × Bool × List PV)) ⊕ (Unit)) := (it_vec_of_frac_Frac_v1_0 b7 b8 es9 b10 b11 es12 b13 b14 es15).bind fun is => foldS (X := (Bool × Bool × List PV × Bool × Bool × List PV × Bool × Bool × List PV)) (fun x i => st_vec_of_frac_Frac_v1_0 x.1 x.2.1 x.2.2.1 x.2.2.2.1 x.2.2.2.2.1 x.2.2.2.2.2.1 x.2.2.2.2.2.2.1 x.2.2.2.2.2.2.2.1 x.2.2.2.2.2.2.2.2 i) is (b7, b8, es9, b10, b11, es12, b13, b14, es15)
def sh_vec_of_frac_Frac_v1_0 : StSh := ⟨23, [(5, (.ptr 0 0)), (7, (.ptr 1 0)), (12, (.p (.fn 124 [(.ref 0 [(.sl 3)]), (.ref 0 [(.sl 3)])])))], [(.box 99 [(.p (.fn 105 []))]), (.box 55 [(.row 2)]), (.row 58 3)]⟩
def sx_vec_of_frac_Frac_v1_0 (x : (Bool × Bool × List PV × Bool × Bool × List PV × Bool × Bool × List PV)) : St := ⟨slots 23 0 [(5, (.ptr 0 0)), (7, (.ptr 1 0)), (12, (.p (.fn 124 [(.ref 0 [(.sl x.1 x.2.1 3 x.2.2.1)]), (.ref 0 [(.sl x.2.2.2.1 x.2.2.2.2.1 3 x.2.2.2.2.2.1)])])))], [(.box 99 [(.p (.fn 105 []))]), (.box 55 [(.row 2)]), (.row 58 3 x.2.2.2.2.2.2.1 x.2.2.2.2.2.2.2.1 x.2.2.2.2.2.2.2.2)]⟩
def sa_vec_of_frac_Frac_v1_0 (S : St) : (Bool × Bool × List PV × Bool × Bool × List PV × Bool × Bool × List PV) := (((((tls 12 S.t).headD .any).pv.subs.headD .nilSl).subs.headD .nilSl).nl, ((((tls 12 S.t).headD .any).pv.subs.headD .nilSl).subs.headD .nilSl).ex, ((((tls 12 S.t).headD .any).pv.subs.headD .nilSl).subs.headD .nilSl).elts, ((((tls 12 S.t).headD .any).pv.subs.tail.headD .nilSl).subs.headD .nilSl).nl, ((((tls 12 S.t).headD .any).pv.subs.tail.headD .nilSl).subs.headD .nilSl).ex, ((((tls 12 S.t).headD .any).pv.subs.tail.headD .nilSl).subs.headD .nilSl).elts, ((tls 2 S.own).headD .gone).pvD.nl, ((tls 2 S.own).headD .gone).pvD.ex, ((tls 2 S.own).headD .gone).pvD.elts)
def kb_vec_of_frac_Frac_v1_0 : Exit → St → Tree (((Bool × Bool × List PV × Bool × Bool × List PV × Bool × Bool × List PV)) ⊕ (Unit)) := exNil
def ky_vec_of_frac_Frac_v1_0 : Dec (Unit) := fun _ y ke => .fail
theorem kk_vec_of_frac_Frac_v1_0 : ExOk Sum.inr kb_vec_of_frac_Frac_v1_0 ky_vec_of_frac_Frac_v1_0 := ExOk.nil
def lm_vec_of_frac_Frac_v1 : Lam := fun _ j S kn ke => match j with
  | 0 => prepT [5, 7, 12] [(100700, 58)] S fun S => .chk (sh_vec_of_frac_Frac_v1_0.ok S) (.bind ((fun x => (it_vec_of_frac_Frac_v1_0 x.1 x.2.1 x.2.2.1 x.2.2.2.1 x.2.2.2.2.1 x.2.2.2.2.2.1 x.2.2.2.2.2.2.1 x.2.2.2.2.2.2.2.1 x.2.2.2.2.2.2.2.2).bind fun is => foldS (X := (Bool × Bool × List PV × Bool × Bool × List PV × Bool × Bool × List PV)) (fun x i => st_vec_of_frac_Frac_v1_0 x.1 x.2.1 x.2.2.1 x.2.2.2.1 x.2.2.2.2.1 x.2.2.2.2.2.1 x.2.2.2.2.2.2.1 x.2.2.2.2.2.2.2.1 x.2.2.2.2.2.2.2.2 i) is x) (sa_vec_of_frac_Frac_v1_0 S)) fun r => .sum r (fun x => kn (sx_vec_of_frac_Frac_v1_0 x)) (fun y => ky_vec_of_frac_Frac_v1_0 _ y ke))
  | _ => .fail
theorem sr_vec_of_frac_Frac_v1_0 (x : (Bool × Bool × List PV × Bool × Bool × List PV × Bool × Bool × List PV)) (i : (Int × Int × Bool × Int × Int × Bool)) : (ev GG gm_vec_of_frac_Frac_v1 lm_vec_of_frac_Frac_v1 xa_vec_of_frac_Frac_0 ⟨setL (sx_vec_of_frac_Frac_v1_0 x).t [13, 14] (ie_pairspF i), (sx_vec_of_frac_Frac_v1_0 x).own⟩ (fun S1 => ev GG gm_vec_of_frac_Frac_v1 lm_vec_of_frac_Frac_v1 xb_vec_of_frac_Frac_0 S1 (fun S => forgetT [5, 7, 12] ⟨(sx_vec_of_frac_Frac_v1_0 x).t, S.own⟩ fun S => prepT [5, 7, 12] [(100700, 58)] S fun S => .chk (sh_vec_of_frac_Frac_v1_0.ok S) (.leaf (.inl (sa_vec_of_frac_Frac_v1_0 S)))) (fun e S => kb_vec_of_frac_Frac_v1_0 e ⟨(sx_vec_of_frac_Frac_v1_0 x).t, S.own⟩)) (fun _ _ => .fail)).run = st_vec_of_frac_Frac_v1_0 x.1 x.2.1 x.2.2.1 x.2.2.2.1 x.2.2.2.2.1 x.2.2.2.2.2.1 x.2.2.2.2.2.2.1 x.2.2.2.2.2.2.2.1 x.2.2.2.2.2.2.2.2 i := by kernel_rfl
theorem la_vec_of_frac_Frac_v1_0 : LamAt Try.prog GG lm_vec_of_frac_Frac_v1 0 (.rangeF xf_vec_of_frac_Frac_0 [13, 14] xa_vec_of_frac_Frac_0.erase xb_vec_of_frac_Frac_0.erase) := lam_range (asg := xa_vec_of_frac_Frac_0) (bdy := xb_vec_of_frac_Frac_0) (Λ0 := lm_vec_of_frac_Frac_v1) gk_vec_of_frac_Frac_v1 (by kernel_rfl) (by kernel_rfl) (fun S => (by kernel_rfl : sh_vec_of_frac_Frac_v1_0.build S = sx_vec_of_frac_Frac_v1_0 (sa_vec_of_frac_Frac_v1_0 S))) (caps := fun x => cp_vec_of_frac_Frac_v1_0 x.1 x.2.1 x.2.2.1 x.2.2.2.1 x.2.2.2.2.1 x.2.2.2.2.2.1 x.2.2.2.2.2.2.1 x.2.2.2.2.2.2.2.1 x.2.2.2.2.2.2.2.2) (fun x => (by kernel_rfl : evS GG (sx_vec_of_frac_Frac_v1_0 x) xf_vec_of_frac_Frac_0 = .p (.fn 124 (cp_vec_of_frac_Frac_v1_0 x.1 x.2.1 x.2.2.1 x.2.2.2.1 x.2.2.2.2.1 x.2.2.2.2.2.1 x.2.2.2.2.2.2.1 x.2.2.2.2.2.2.2.1 x.2.2.2.2.2.2.2.2)))) (its := fun x => it_vec_of_frac_Frac_v1_0 x.1 x.2.1 x.2.2.1 x.2.2.2.1 x.2.2.2.2.1 x.2.2.2.2.2.1 x.2.2.2.2.2.2.1 x.2.2.2.2.2.2.2.1 x.2.2.2.2.2.2.2.2) (emb := ie_pairspF) (fun i => rfl) (fun x is h => sq_pairspF _ _ _ _ _ _ is h) (step := fun x i => st_vec_of_frac_Frac_v1_0 x.1 x.2.1 x.2.2.1 x.2.2.2.1 x.2.2.2.2.1 x.2.2.2.2.2.1 x.2.2.2.2.2.2.1 x.2.2.2.2.2.2.2.1 x.2.2.2.2.2.2.2.2 i) kk_vec_of_frac_Frac_v1_0 sr_vec_of_frac_Frac_v1_0 (fun _ _ _ => rfl)
/-- vec_of_frac_Frac -/
def go_vec_of_frac_Frac_v1 (b0 : Bool) (b1 : Bool) (es2 : List PV) (b3 : Bool) (b4 : Bool) (es5 : List PV) : Option (Bool × Bool × List PV) :=
  (go_vec_Pairs_frac_Frac b0 b1 es2 b3 b4 es5).bind fun r6 =>
  (lp_vec_of_frac_Frac_v1_0 r6.1 r6.2.1 r6.2.2.1 r6.2.2.2.1 r6.2.2.2.2.1 r6.2.2.2.2.2 true true []).bind fun y18 =>
  Sum.elim (fun z19 =>
   some (z19.2.2.2.2.2.2.1, z19.2.2.2.2.2.2.2.1, z19.2.2.2.2.2.2.2.2)) (fun u_ =>
   none) y18
def em_vec_of_frac_Frac_v1 (r : (Bool × Bool × List PV)) : PV := (.sl r.1 r.2.1 3 r.2.2)
def rh_vec_of_frac_Frac_v1 : Shp := (.sl 3)
def ra_vec_of_frac_Frac_v1 (v : PV) : (Bool × Bool × List PV) := (v.nl, v.ex, v.elts)
def kf_vec_of_frac_Frac_v1 (v : PV) : Tree (Bool × Bool × List PV) := .chk (rh_vec_of_frac_Frac_v1.ok v) (.leaf (ra_vec_of_frac_Frac_v1 v))
theorem rn_vec_of_frac_Frac_v1 (b0 : Bool) (b1 : Bool) (es2 : List PV) (b3 : Bool) (b4 : Bool) (es5 : List PV) : (ev GG gm_vec_of_frac_Frac_v1 lm_vec_of_frac_Frac_v1 xr_vec_of_frac_Frac ⟨slots 23 0 [(0, .p (.sl b0 b1 3 es2)), (1, .p (.sl b3 b4 3 es5)), (2, .p (.fn 105 []))], []⟩ (fun S => finT Try.prog rs_vec_of_frac_Frac S kf_vec_of_frac_Frac_v1) (retT Try.prog rs_vec_of_frac_Frac kf_vec_of_frac_Frac_v1)).run = go_vec_of_frac_Frac_v1 b0 b1 es2 b3 b4 es5 := by kernel_rfl
theorem ok_vec_of_frac_Frac_v1 (b0 : Bool) (b1 : Bool) (es2 : List PV) (b3 : Bool) (b4 : Bool) (es5 : List PV) (r : (Bool × Bool × List PV)) (h : go_vec_of_frac_Frac_v1 b0 b1 es2 b3 b4 es5 = some r) : FunEq Try.prog GG 100 [(.sl b0 b1 3 es2), (.sl b3 b4 3 es5), (.fn 105 [])] (em_vec_of_frac_Frac_v1 r) :=
  fun_of_ev (x := xr_vec_of_frac_Frac) (Λ := lm_vec_of_frac_Frac_v1) gk_vec_of_frac_Frac_v1 [] Try.func100 rfl (by kernel_rfl) ir_vec_of_frac_Frac (by kernel_rfl) (congrArg Array.toList Try.results100) Try.ntmps100 (⟨trivial, ⟨trivial, ⟨⟨trivial, la_vec_of_frac_Frac_v1_0⟩, ⟨trivial, trivial⟩⟩⟩⟩) (leaf_of fun v => (by kernel_rfl : rh_vec_of_frac_Frac_v1.build v = em_vec_of_frac_Frac_v1 (ra_vec_of_frac_Frac_v1 v))) (by kernel_rfl) ((rn_vec_of_frac_Frac_v1 b0 b1 es2 b3 b4 es5).trans h)
def as_vec_of_frac_Frac_v1 : List Shp := [(.sl 3), (.sl 3), (.fn 105 [])]
def ga_vec_of_frac_Frac_v1 (vs : List PV) : Option (Bool × Bool × List PV) := go_vec_of_frac_Frac_v1 ((tls 0 vs).headD .nilSl).nl ((tls 0 vs).headD .nilSl).ex ((tls 0 vs).headD .nilSl).elts ((tls 1 vs).headD .nilSl).nl ((tls 1 vs).headD .nilSl).ex ((tls 1 vs).headD .nilSl).elts
theorem at_vec_of_frac_Frac_v1 : FnAt Try.prog GG 100 as_vec_of_frac_Frac_v1 ga_vec_of_frac_Frac_v1 em_vec_of_frac_Frac_v1 := fun vs h r hr => by
  have e : Shp.buildL as_vec_of_frac_Frac_v1 vs = [(.sl ((tls 0 vs).headD .nilSl).nl ((tls 0 vs).headD .nilSl).ex 3 ((tls 0 vs).headD .nilSl).elts), (.sl ((tls 1 vs).headD .nilSl).nl ((tls 1 vs).headD .nilSl).ex 3 ((tls 1 vs).headD .nilSl).elts), (.fn 105 [])] := by kernel_rfl
  rw [← Shp.buildL_eq _ h, e]
  exact .inl ⟨by decide, ok_vec_of_frac_Frac_v1 _ _ _ _ _ _ r hr⟩

def xr_vec_Add_frac_Frac : XR := (.seq (.ops false [⟨⟨(some 4), (.mv (.c (.sl true true 3 []))), none⟩, none⟩]) (.seq (.ops false [⟨⟨(some 5), (.mv (.tmp 0)), none⟩, none⟩, ⟨⟨(some 6), (.mv (.tmp 1)), none⟩, none⟩, ⟨⟨(some 7), (.call (.func 100) [(.tmp 5), (.tmp 6), (.func 105)]), none⟩, none⟩, ⟨⟨(some 4), (.mv (.tmp 7)), none⟩, none⟩]) .ret))
def rs_vec_Add_frac_Frac : List ResultVar := [(.tmp 4)]
theorem ir_vec_Add_frac_Frac : compCode Try.prog (Try.f64.body.getD .skip) [] = some (xr_vec_Add_frac_Frac.erase, []) := by kernel_rfl
/-! vec_Add_frac_Frac -/
def gm_vec_Add_frac_Frac : Gam := (Gam.fn 100 as_vec_of_frac_Frac_v1 ga_vec_of_frac_Frac_v1 em_vec_of_frac_Frac_v1 Gam.bot)
theorem gk_vec_Add_frac_Frac : GamOk Try.prog GG gm_vec_Add_frac_Frac := (GamOk.fn at_vec_of_frac_Frac_v1 GamOk.bot)
def lm_vec_Add_frac_Frac : Lam := fun _ j S kn ke => match j with
  | _ => .fail
/-- vec_Add_frac_Frac -/
def go_vec_Add_frac_Frac (b0 : Bool) (b1 : Bool) (es2 : List PV) (b3 : Bool) (b4 : Bool) (es5 : List PV) : Option (Bool × Bool × List PV) :=
  (go_vec_of_frac_Frac_v1 b0 b1 es2 b3 b4 es5).bind fun r6 =>
  some (r6.1, r6.2.1, r6.2.2)
def em_vec_Add_frac_Frac (r : (Bool × Bool × List PV)) : PV := (.sl r.1 r.2.1 3 r.2.2)
def rh_vec_Add_frac_Frac : Shp := (.sl 3)
def ra_vec_Add_frac_Frac (v : PV) : (Bool × Bool × List PV) := (v.nl, v.ex, v.elts)
def kf_vec_Add_frac_Frac (v : PV) : Tree (Bool × Bool × List PV) := .chk (rh_vec_Add_frac_Frac.ok v) (.leaf (ra_vec_Add_frac_Frac v))
theorem rn_vec_Add_frac_Frac (b0 : Bool) (b1 : Bool) (es2 : List PV) (b3 : Bool) (b4 : Bool) (es5 : List PV) : (ev GG gm_vec_Add_frac_Frac lm_vec_Add_frac_Frac xr_vec_Add_frac_Frac ⟨slots 8 0 [(0, .p (.sl b0 b1 3 es2)), (1, .p (.sl b3 b4 3 es5))], []⟩ (fun S => finT Try.prog rs_vec_Add_frac_Frac S kf_vec_Add_frac_Frac) (retT Try.prog rs_vec_Add_frac_Frac kf_vec_Add_frac_Frac)).run = go_vec_Add_frac_Frac b0 b1 es2 b3 b4 es5 := by kernel_rfl
theorem ok_vec_Add_frac_Frac (b0 : Bool) (b1 : Bool) (es2 : List PV) (b3 : Bool) (b4 : Bool) (es5 : List PV) (r : (Bool × Bool × List PV)) (h : go_vec_Add_frac_Frac b0 b1 es2 b3 b4 es5 = some r) : FunEq Try.prog GG 64 [(.sl b0 b1 3 es2), (.sl b3 b4 3 es5)] (em_vec_Add_frac_Frac r) :=
  fun_of_ev (x := xr_vec_Add_frac_Frac) (Λ := lm_vec_Add_frac_Frac) gk_vec_Add_frac_Frac [] Try.func64 rfl (by kernel_rfl) ir_vec_Add_frac_Frac (by kernel_rfl) (congrArg Array.toList Try.results64) Try.ntmps64 (⟨trivial, ⟨trivial, trivial⟩⟩) (leaf_of fun v => (by kernel_rfl : rh_vec_Add_frac_Frac.build v = em_vec_Add_frac_Frac (ra_vec_Add_frac_Frac v))) (by kernel_rfl) ((rn_vec_Add_frac_Frac b0 b1 es2 b3 b4 es5).trans h)
def as_vec_Add_frac_Frac : List Shp := [(.sl 3), (.sl 3)]
def ga_vec_Add_frac_Frac (vs : List PV) : Option (Bool × Bool × List PV) := go_vec_Add_frac_Frac ((tls 0 vs).headD .nilSl).nl ((tls 0 vs).headD .nilSl).ex ((tls 0 vs).headD .nilSl).elts ((tls 1 vs).headD .nilSl).nl ((tls 1 vs).headD .nilSl).ex ((tls 1 vs).headD .nilSl).elts
theorem at_vec_Add_frac_Frac : FnAt Try.prog GG 64 as_vec_Add_frac_Frac ga_vec_Add_frac_Frac em_vec_Add_frac_Frac := fun vs h r hr => by
  have e : Shp.buildL as_vec_Add_frac_Frac vs = [(.sl ((tls 0 vs).headD .nilSl).nl ((tls 0 vs).headD .nilSl).ex 3 ((tls 0 vs).headD .nilSl).elts), (.sl ((tls 1 vs).headD .nilSl).nl ((tls 1 vs).headD .nilSl).ex 3 ((tls 1 vs).headD .nilSl).elts)] := by kernel_rfl
  rw [← Shp.buildL_eq _ h, e]
  exact .inl ⟨by decide, ok_vec_Add_frac_Frac _ _ _ _ _ _ r hr⟩

def xr_coupletlaw05_awake : XR := (.seq (.ops false [⟨⟨(some 0), (.mv (.c (.bool false))), none⟩, none⟩]) (.seq (.ops false [⟨⟨(some 3), (.bsl 3 (some .i64) 1 [(.c (.int .i64 (1))), (.c (.int .i64 (2)))]), none⟩, none⟩, ⟨⟨(some 4), (.call (.func 55) [(.tmp 3)]), none⟩, none⟩, ⟨⟨(some 5), (.bsl 3 (some .i64) 1 [(.c (.int .i64 (3))), (.c (.int .i64 (4)))]), none⟩, none⟩, ⟨⟨(some 6), (.call (.func 55) [(.tmp 5)]), none⟩, none⟩, ⟨⟨(some 1), (.mv (.tmp 4)), none⟩, none⟩, ⟨⟨(some 2), (.mv (.tmp 6)), none⟩, none⟩]) (.seq (.ops false [⟨⟨(some 7), (.mv (.tmp 1)), none⟩, none⟩, ⟨⟨(some 8), (.mv (.tmp 2)), none⟩, none⟩, ⟨⟨(some 9), (.call (.func 59) [(.tmp 7), (.tmp 8)]), none⟩, none⟩, ⟨⟨(some 10), (.call (.func 58) [(.c (.int .i64 (11))), (.c (.int .i64 (1)))]), none⟩, none⟩, ⟨⟨(some 11), (.eqAgg false [(.int .i64), (.int .i64), .bool] (.tmp 9) (.tmp 10)), none⟩, none⟩, ⟨⟨(some 12), (.mv (.tmp 11)), none⟩, none⟩, ⟨⟨(some 13), (.mv (.tmp 1)), (some (12, true))⟩, none⟩, ⟨⟨(some 14), (.len (.tmp 13)), (some (12, true))⟩, none⟩, ⟨⟨(some 15), (.bin .eql (.tmp 14) (.c (.int .i64 (2)))), (some (12, true))⟩, none⟩, ⟨⟨(some 16), (.pick (.tmp 12) (.tmp 15) (.c (.bool false))), none⟩, none⟩, ⟨⟨(some 17), (.mv (.tmp 16)), none⟩, none⟩, ⟨⟨(some 18), (.mv (.tmp 1)), (some (17, true))⟩, none⟩, ⟨⟨(some 19), (.mv (.tmp 2)), (some (17, true))⟩, none⟩, ⟨⟨(some 20), (.call (.func 64) [(.tmp 18), (.tmp 19)]), (some (17, true))⟩, none⟩, ⟨⟨(some 21), (.len (.tmp 20)), (some (17, true))⟩, none⟩, ⟨⟨(some 22), (.bin .eql (.tmp 21) (.c (.int .i64 (2)))), (some (17, true))⟩, none⟩, ⟨⟨(some 23), (.pick (.tmp 17) (.tmp 22) (.c (.bool false))), none⟩, none⟩, ⟨⟨(some 24), (.mv (.tmp 23)), none⟩, none⟩, ⟨⟨(some 25), (.mv (.tmp 1)), (some (24, true))⟩, none⟩, ⟨⟨(some 26), (.call (.func 56) [(.tmp 25)]), (some (24, true))⟩, none⟩, ⟨⟨(some 27), (.call (.func 58) [(.c (.int .i64 (3))), (.c (.int .i64 (1)))]), (some (24, true))⟩, none⟩, ⟨⟨(some 28), (.eqAgg false [(.int .i64), (.int .i64), .bool] (.tmp 26) (.tmp 27)), (some (24, true))⟩, none⟩, ⟨⟨(some 29), (.pick (.tmp 24) (.tmp 28) (.c (.bool false))), none⟩, none⟩, ⟨⟨(some 0), (.mv (.tmp 29)), none⟩, none⟩]) .ret)))
def rs_coupletlaw05_awake : List ResultVar := [(.tmp 0)]
theorem ir_coupletlaw05_awake : compCode Try.prog (Try.f50.body.getD .skip) [] = some (xr_coupletlaw05_awake.erase, []) := by kernel_rfl
/-! coupletlaw05_awake -/
def gm_coupletlaw05_awake : Gam := (Gam.fn 55 as_vec_Whole_frac_Frac ga_vec_Whole_frac_Frac em_vec_Whole_frac_Frac (Gam.fn 59 as_vec_Dot_frac_Frac ga_vec_Dot_frac_Frac em_vec_Dot_frac_Frac (Gam.fn 58 as_frac_New ga_frac_New em_frac_New (Gam.fn 64 as_vec_Add_frac_Frac ga_vec_Add_frac_Frac em_vec_Add_frac_Frac (Gam.fn 56 as_vec_Sum_frac_Frac ga_vec_Sum_frac_Frac em_vec_Sum_frac_Frac Gam.bot)))))
theorem gk_coupletlaw05_awake : GamOk Try.prog GG gm_coupletlaw05_awake := (GamOk.fn at_vec_Whole_frac_Frac (GamOk.fn at_vec_Dot_frac_Frac (GamOk.fn at_frac_New (GamOk.fn at_vec_Add_frac_Frac (GamOk.fn at_vec_Sum_frac_Frac GamOk.bot)))))
def lm_coupletlaw05_awake : Lam := fun _ j S kn ke => match j with
  | _ => .fail
/-- coupletlaw05_awake -/
def go_coupletlaw05_awake : Option Bool :=
  (go_vec_Whole_frac_Frac false true [1, 2]).bind fun r0 =>
  (go_vec_Whole_frac_Frac false true [3, 4]).bind fun r1 =>
  (go_vec_Dot_frac_Frac r0.1 r0.2.1 r0.2.2 r1.1 r1.2.1 r1.2.2).bind fun r2 =>
  (go_frac_New 11 1).bind fun r3 =>
  bif ((r2.1 == r3.1) && ((r2.2.1 == r3.2.1) && ((r2.2.2 == r3.2.2) && true))) then
   bif ((((List.length r0.2.2) : Nat) : Int) == 2) then
    (go_vec_Add_frac_Frac r0.1 r0.2.1 r0.2.2 r1.1 r1.2.1 r1.2.2).bind fun r4 =>
    bif ((((List.length r4.2.2) : Nat) : Int) == 2) then
     (go_vec_Sum_frac_Frac r0.1 r0.2.1 r0.2.2).bind fun r5 =>
     (go_frac_New 3 1).bind fun r6 =>
     some ((r5.1 == r6.1) && ((r5.2.1 == r6.2.1) && ((r5.2.2 == r6.2.2) && true)))
    else
     some false
   else
    some false
  else
   some false
def em_coupletlaw05_awake (r : Bool) : PV := (.bool r)
def rh_coupletlaw05_awake : Shp := .bool
def ra_coupletlaw05_awake (v : PV) : Bool := v.tru
def kf_coupletlaw05_awake (v : PV) : Tree Bool := .chk (rh_coupletlaw05_awake.ok v) (.leaf (ra_coupletlaw05_awake v))
theorem rn_coupletlaw05_awake : (ev GG gm_coupletlaw05_awake lm_coupletlaw05_awake xr_coupletlaw05_awake ⟨slots 30 0 [], []⟩ (fun S => finT Try.prog rs_coupletlaw05_awake S kf_coupletlaw05_awake) (retT Try.prog rs_coupletlaw05_awake kf_coupletlaw05_awake)).run = go_coupletlaw05_awake := by kernel_rfl
theorem ok_coupletlaw05_awake (r : Bool) (h : go_coupletlaw05_awake = some r) : FunEq Try.prog GG 50 [] (em_coupletlaw05_awake r) :=
  fun_of_ev (x := xr_coupletlaw05_awake) (Λ := lm_coupletlaw05_awake) gk_coupletlaw05_awake [] Try.func50 rfl (by kernel_rfl) ir_coupletlaw05_awake (by kernel_rfl) (congrArg Array.toList Try.results50) Try.ntmps50 (⟨trivial, ⟨trivial, ⟨trivial, trivial⟩⟩⟩) (leaf_of fun v => (by kernel_rfl : rh_coupletlaw05_awake.build v = em_coupletlaw05_awake (ra_coupletlaw05_awake v))) (by kernel_rfl) ((rn_coupletlaw05_awake).trans h)
def as_coupletlaw05_awake : List Shp := []
def ga_coupletlaw05_awake (vs : List PV) : Option Bool := go_coupletlaw05_awake
theorem at_coupletlaw05_awake : FnAt Try.prog GG 50 as_coupletlaw05_awake ga_coupletlaw05_awake em_coupletlaw05_awake := fun vs h r hr => by
  have e : Shp.buildL as_coupletlaw05_awake vs = [] := by kernel_rfl
  rw [← Shp.buildL_eq _ h, e]
  exact .inl ⟨by decide, ok_coupletlaw05_awake  r hr⟩

def xr_vec_Pairs_int : XR := (.seq (.ops false [⟨⟨(some 2), (.box 31 (.tmp 0)), none⟩, none⟩, ⟨⟨(some 3), (.box 31 (.tmp 1)), none⟩, none⟩, ⟨⟨(some 4), (.mv (.c .nilFn)), none⟩, none⟩]) (.seq (.ops false [⟨⟨(some 5), (.mkFn 96 [(.tmp 2), (.tmp 3)]), none⟩, none⟩, ⟨⟨(some 4), (.mv (.tmp 5)), none⟩, none⟩]) .ret))
def rs_vec_Pairs_int : List ResultVar := [(.tmp 4)]
theorem ir_vec_Pairs_int : compCode Try.prog (Try.f53.body.getD .skip) [] = some (xr_vec_Pairs_int.erase, []) := by kernel_rfl
/-! vec_Pairs_int -/
def gm_vec_Pairs_int : Gam := Gam.bot
theorem gk_vec_Pairs_int : GamOk Try.prog GG gm_vec_Pairs_int := GamOk.bot
def lm_vec_Pairs_int : Lam := fun _ j S kn ke => match j with
  | _ => .fail
/-- vec_Pairs_int -/
def go_vec_Pairs_int (b0 : Bool) (b1 : Bool) (l2 : List Int) (b3 : Bool) (b4 : Bool) (l5 : List Int) : Option (Bool × Bool × List Int × Bool × Bool × List Int) :=
  some (b0, b1, l2, b3, b4, l5)
def em_vec_Pairs_int (r : (Bool × Bool × List Int × Bool × Bool × List Int)) : PV := (.fn 96 [(.ref 0 [(.isl r.1 r.2.1 .i64 r.2.2.1)]), (.ref 0 [(.isl r.2.2.2.1 r.2.2.2.2.1 .i64 r.2.2.2.2.2)])])
def rh_vec_Pairs_int : Shp := (.fn 96 [(.ref 0 [(.isl .i64)]), (.ref 0 [(.isl .i64)])])
def ra_vec_Pairs_int (v : PV) : (Bool × Bool × List Int × Bool × Bool × List Int) := (((v.subs.headD .nilSl).subs.headD .nilSl).nl, ((v.subs.headD .nilSl).subs.headD .nilSl).ex, ((v.subs.headD .nilSl).subs.headD .nilSl).ints, ((v.subs.tail.headD .nilSl).subs.headD .nilSl).nl, ((v.subs.tail.headD .nilSl).subs.headD .nilSl).ex, ((v.subs.tail.headD .nilSl).subs.headD .nilSl).ints)
def kf_vec_Pairs_int (v : PV) : Tree (Bool × Bool × List Int × Bool × Bool × List Int) := .chk (rh_vec_Pairs_int.ok v) (.leaf (ra_vec_Pairs_int v))
theorem rn_vec_Pairs_int (b0 : Bool) (b1 : Bool) (l2 : List Int) (b3 : Bool) (b4 : Bool) (l5 : List Int) : (ev GG gm_vec_Pairs_int lm_vec_Pairs_int xr_vec_Pairs_int ⟨slots 6 0 [(0, .p (.isl b0 b1 .i64 l2)), (1, .p (.isl b3 b4 .i64 l5))], []⟩ (fun S => finT Try.prog rs_vec_Pairs_int S kf_vec_Pairs_int) (retT Try.prog rs_vec_Pairs_int kf_vec_Pairs_int)).run = go_vec_Pairs_int b0 b1 l2 b3 b4 l5 := by kernel_rfl
theorem ok_vec_Pairs_int (b0 : Bool) (b1 : Bool) (l2 : List Int) (b3 : Bool) (b4 : Bool) (l5 : List Int) (r : (Bool × Bool × List Int × Bool × Bool × List Int)) (h : go_vec_Pairs_int b0 b1 l2 b3 b4 l5 = some r) : FunEq Try.prog GG 53 [(.isl b0 b1 .i64 l2), (.isl b3 b4 .i64 l5)] (em_vec_Pairs_int r) :=
  fun_of_ev (x := xr_vec_Pairs_int) (Λ := lm_vec_Pairs_int) gk_vec_Pairs_int [] Try.func53 rfl (by kernel_rfl) ir_vec_Pairs_int (by kernel_rfl) (congrArg Array.toList Try.results53) Try.ntmps53 (⟨trivial, ⟨trivial, trivial⟩⟩) (leaf_of fun v => (by kernel_rfl : rh_vec_Pairs_int.build v = em_vec_Pairs_int (ra_vec_Pairs_int v))) (by kernel_rfl) ((rn_vec_Pairs_int b0 b1 l2 b3 b4 l5).trans h)
def as_vec_Pairs_int : List Shp := [(.isl .i64), (.isl .i64)]
def ga_vec_Pairs_int (vs : List PV) : Option (Bool × Bool × List Int × Bool × Bool × List Int) := go_vec_Pairs_int ((tls 0 vs).headD .nilSl).nl ((tls 0 vs).headD .nilSl).ex ((tls 0 vs).headD .nilSl).ints ((tls 1 vs).headD .nilSl).nl ((tls 1 vs).headD .nilSl).ex ((tls 1 vs).headD .nilSl).ints
theorem at_vec_Pairs_int : FnAt Try.prog GG 53 as_vec_Pairs_int ga_vec_Pairs_int em_vec_Pairs_int := fun vs h r hr => by
  have e : Shp.buildL as_vec_Pairs_int vs = [(.isl ((tls 0 vs).headD .nilSl).nl ((tls 0 vs).headD .nilSl).ex .i64 ((tls 0 vs).headD .nilSl).ints), (.isl ((tls 1 vs).headD .nilSl).nl ((tls 1 vs).headD .nilSl).ex .i64 ((tls 1 vs).headD .nilSl).ints)] := by kernel_rfl
  rw [← Shp.buildL_eq _ h, e]
  exact .inl ⟨by decide, ok_vec_Pairs_int _ _ _ _ _ _ r hr⟩

def xf_coupletlaw05_VecPairs_0 : Opd := (.tmp 25)
def xa_coupletlaw05_VecPairs_0 : XR := (.seq (.ops false [⟨⟨(some 9), (.mv (.tmp 26)), none⟩, none⟩]) (.ops false [⟨⟨(some 10), (.mv (.tmp 27)), none⟩, none⟩]))
def xb_coupletlaw05_VecPairs_0 : XR := (.block 1 (.seq (.seq (.ops false [⟨⟨(some 28), (.ld false 1 (.tmp 7)), none⟩, (some (.int .i64))⟩, ⟨⟨(some 29), (.ld false 1 (.tmp 3)), none⟩, (some (.isl .i64))⟩, ⟨⟨(some 30), (.len (.tmp 29)), none⟩, none⟩, ⟨⟨(some 31), (.ld false 1 (.tmp 4)), none⟩, (some (.isl .i64))⟩, ⟨⟨(some 32), (.len (.tmp 31)), none⟩, none⟩, ⟨⟨(some 33), (.mins [(.tmp 30), (.tmp 32)]), none⟩, none⟩, ⟨⟨(some 34), (.bin .geq (.tmp 28) (.tmp 33)), none⟩, none⟩, ⟨⟨(some 35), (.mv (.tmp 34)), none⟩, none⟩, ⟨⟨(some 36), (.mv (.tmp 9)), (some (35, false))⟩, none⟩, ⟨⟨(some 37), (.ld false 1 (.tmp 3)), (some (35, false))⟩, (some (.isl .i64))⟩, ⟨⟨(some 38), (.ld false 1 (.tmp 7)), (some (35, false))⟩, (some (.int .i64))⟩, ⟨⟨(some 39), (.ixA 1 (.tmp 37) (.tmp 38)), (some (35, false))⟩, none⟩, ⟨⟨(some 40), (.ld false 1 (.tmp 39)), (some (35, false))⟩, (some (.int .i64))⟩, ⟨⟨(some 41), (.bin .neq (.tmp 36) (.tmp 40)), (some (35, false))⟩, none⟩, ⟨⟨(some 42), (.pick (.tmp 35) (.c (.bool true)) (.tmp 41)), none⟩, none⟩, ⟨⟨(some 43), (.mv (.tmp 42)), none⟩, none⟩, ⟨⟨(some 44), (.mv (.tmp 10)), (some (43, false))⟩, none⟩, ⟨⟨(some 45), (.ld false 1 (.tmp 4)), (some (43, false))⟩, (some (.isl .i64))⟩, ⟨⟨(some 46), (.ld false 1 (.tmp 7)), (some (43, false))⟩, (some (.int .i64))⟩, ⟨⟨(some 47), (.ixA 1 (.tmp 45) (.tmp 46)), (some (43, false))⟩, none⟩, ⟨⟨(some 48), (.ld false 1 (.tmp 47)), (some (43, false))⟩, (some (.int .i64))⟩, ⟨⟨(some 49), (.bin .neq (.tmp 44) (.tmp 48)), (some (43, false))⟩, none⟩, ⟨⟨(some 50), (.pick (.tmp 43) (.c (.bool true)) (.tmp 49)), none⟩, none⟩]) (.cond (.tmp 50) (.seq (.ops false [⟨⟨none, (.st 1 (.tmp 6) (.c (.bool false))), none⟩, none⟩]) .ret) .skip)) (.seq (.ops false [⟨⟨(some 51), (.ld false 1 (.tmp 7)), none⟩, (some (.int .i64))⟩, ⟨⟨(some 52), (.bin .add (.tmp 51) (.c (.int .i64 (1)))), none⟩, none⟩, ⟨⟨none, (.st 1 (.tmp 7) (.tmp 52)), none⟩, none⟩]) (.seq (.ops false [⟨⟨(some 53), (.ld false 1 (.tmp 7)), none⟩, (some (.int .i64))⟩, ⟨⟨(some 54), (.ld false 1 (.tmp 5)), none⟩, (some (.int .u8))⟩, ⟨⟨(some 55), (.cvtI .i64 (.tmp 54)), none⟩, none⟩, ⟨⟨(some 56), (.bin .gtr (.tmp 53) (.tmp 55)), none⟩, none⟩]) (.cond (.tmp 56) (.exit 0) .skip)))))
def xr_coupletlaw05_VecPairs : XR := (.seq (.ops false [⟨⟨(some 3), (.box 31 (.tmp 0)), none⟩, none⟩, ⟨⟨(some 4), (.box 31 (.tmp 1)), none⟩, none⟩, ⟨⟨(some 5), (.box 5 (.tmp 2)), none⟩, none⟩, ⟨⟨(some 6), (.alloc 4 [(.bool false)]), none⟩, none⟩]) (.seq (.seq (.ops false [⟨⟨(some 11), (.ld false 1 (.tmp 3)), none⟩, (some (.isl .i64))⟩, ⟨⟨(some 12), (.len (.tmp 11)), none⟩, none⟩, ⟨⟨(some 13), (.bin .gtr (.tmp 12) (.c (.int .i64 (200)))), none⟩, none⟩, ⟨⟨(some 14), (.mv (.tmp 13)), none⟩, none⟩, ⟨⟨(some 15), (.ld false 1 (.tmp 4)), (some (14, false))⟩, (some (.isl .i64))⟩, ⟨⟨(some 16), (.len (.tmp 15)), (some (14, false))⟩, none⟩, ⟨⟨(some 17), (.bin .gtr (.tmp 16) (.c (.int .i64 (200)))), (some (14, false))⟩, none⟩, ⟨⟨(some 18), (.pick (.tmp 14) (.c (.bool true)) (.tmp 17)), none⟩, none⟩]) (.cond (.tmp 18) (.seq (.ops false [⟨⟨(some 19), (.call (.func 50) []), none⟩, none⟩, ⟨⟨none, (.st 1 (.tmp 6) (.tmp 19)), none⟩, none⟩]) .ret) .skip)) (.seq (.ops false [⟨⟨(some 7), (.alloc 3 [(.int .i64 (0))]), none⟩, none⟩, ⟨⟨none, (.st 1 (.tmp 7) (.c (.int .i64 (0)))), none⟩, none⟩]) (.seq (.ops false [⟨⟨(some 20), (.ld false 1 (.tmp 3)), none⟩, (some (.isl .i64))⟩, ⟨⟨(some 21), (.ld false 1 (.tmp 4)), none⟩, (some (.isl .i64))⟩, ⟨⟨(some 22), (.call (.func 53) [(.tmp 20), (.tmp 21)]), none⟩, none⟩, ⟨⟨(some 8), (.mv (.tmp 22)), none⟩, none⟩]) (.seq (.seq (.ops false [⟨⟨(some 23), (.mv (.tmp 8)), none⟩, none⟩, ⟨⟨(some 24), (.eqNilF false (.tmp 23) (.c .nilFn)), none⟩, none⟩]) (.cond (.tmp 24) (.seq (.ops false [⟨⟨none, (.st 1 (.tmp 6) (.c (.bool false))), none⟩, none⟩]) .ret) .skip)) (.seq (.seq (.ops false [⟨⟨(some 25), (.mv (.tmp 8)), none⟩, none⟩]) (.block 0 (.range 0 [3, 4, 5, 6, 7, 25] xf_coupletlaw05_VecPairs_0 [26, 27] xa_coupletlaw05_VecPairs_0 xb_coupletlaw05_VecPairs_0))) (.seq (.ops false [⟨⟨(some 57), (.ld false 1 (.tmp 7)), none⟩, (some (.int .i64))⟩, ⟨⟨(some 58), (.ld false 1 (.tmp 3)), none⟩, (some (.isl .i64))⟩, ⟨⟨(some 59), (.len (.tmp 58)), none⟩, none⟩, ⟨⟨(some 60), (.ld false 1 (.tmp 4)), none⟩, (some (.isl .i64))⟩, ⟨⟨(some 61), (.len (.tmp 60)), none⟩, none⟩, ⟨⟨(some 62), (.ld false 1 (.tmp 5)), none⟩, (some (.int .u8))⟩, ⟨⟨(some 63), (.cvtI .i64 (.tmp 62)), none⟩, none⟩, ⟨⟨(some 64), (.bin .add (.tmp 63) (.c (.int .i64 (1)))), none⟩, none⟩, ⟨⟨(some 65), (.mins [(.tmp 59), (.tmp 61), (.tmp 64)]), none⟩, none⟩, ⟨⟨(some 66), (.bin .eql (.tmp 57) (.tmp 65)), none⟩, none⟩, ⟨⟨(some 67), (.mv (.tmp 66)), none⟩, none⟩, ⟨⟨(some 68), (.call (.func 50) []), (some (67, true))⟩, none⟩, ⟨⟨(some 69), (.pick (.tmp 67) (.tmp 68) (.c (.bool false))), none⟩, none⟩, ⟨⟨none, (.st 1 (.tmp 6) (.tmp 69)), none⟩, none⟩]) .ret)))))))
def rs_coupletlaw05_VecPairs : List ResultVar := [(.cell 6 4)]
theorem ir_coupletlaw05_VecPairs : compCode Try.prog (Try.f15.body.getD .skip) [] = some (xr_coupletlaw05_VecPairs.erase, []) := by kernel_rfl
/-! coupletlaw05_VecPairs -/
def gm_coupletlaw05_VecPairs : Gam := (Gam.fn 50 as_coupletlaw05_awake ga_coupletlaw05_awake em_coupletlaw05_awake (Gam.fn 53 as_vec_Pairs_int ga_vec_Pairs_int em_vec_Pairs_int Gam.bot))
theorem gk_coupletlaw05_VecPairs : GamOk Try.prog GG gm_coupletlaw05_VecPairs := (GamOk.fn at_coupletlaw05_awake (GamOk.fn at_vec_Pairs_int GamOk.bot))
def it_coupletlaw05_VecPairs_0 (b10 : Bool) (b11 : Bool) (l12 : List Int) (b13 : Bool) (b14 : Bool) (l15 : List Int) (b16 : Bool) (b17 : Bool) (l18 : List Int) (b19 : Bool) (b20 : Bool) (l21 : List Int) (n22 : Int) (b23 : Bool) (n24 : Int) : Option (List (Int × Int)) := it_pairsI b10 b11 l12 b13 b14 l15
def cp_coupletlaw05_VecPairs_0 (b10 : Bool) (b11 : Bool) (l12 : List Int) (b13 : Bool) (b14 : Bool) (l15 : List Int) (b16 : Bool) (b17 : Bool) (l18 : List Int) (b19 : Bool) (b20 : Bool) (l21 : List Int) (n22 : Int) (b23 : Bool) (n24 : Int) : List PV := [(.ref 0 [(.isl b10 b11 .i64 l12)]), (.ref 0 [(.isl b13 b14 .i64 l15)])]
def st_coupletlaw05_VecPairs_0 (b10 : Bool) (b11 : Bool) (l12 : List Int) (b13 : Bool) (b14 : Bool) (l15 : List Int) (b16 : Bool) (b17 : Bool) (l18 : List Int) (b19 : Bool) (b20 : Bool) (l21 : List Int) (n22 : Int) (b23 : Bool) (n24 : Int) (u25 : (Int × Int)) : Option (((Bool × Bool × List Int × Bool × Bool × List Int × Bool × Bool × List Int × Bool × Bool × List Int × Int × Bool × Int)) ⊕ ((Bool) ⊕ ((Bool × Bool × List Int × Bool × Bool × List Int × Int × Bool × Int)))) :=
  bif (decide (n24 ≥ (min (((List.length l18) : Nat) : Int) (((List.length l21) : Nat) : Int)))) then
   some (Sum.inr (Sum.inl false))
  else
   bif (decide (0 ≤ n24)) then
    bif (decide (n24 < (((List.length l18) : Nat) : Int))) then
     bif (decide ((Int.toNat n24) < (List.length l18))) then
      bif (u25.1 != (List.getD l18 (Int.toNat n24) 0)) then
       some (Sum.inr (Sum.inl false))
      else
       bif (decide (0 ≤ n24)) then
        bif (decide (n24 < (((List.length l21) : Nat) : Int))) then
         bif (decide ((Int.toNat n24) < (List.length l21))) then
          bif (u25.2 != (List.getD l21 (Int.toNat n24) 0)) then
           some (Sum.inr (Sum.inl false))
          else
           bif (decide ((IntKind.wrap .i64 (n24 + 1)) > (IntKind.wrap .i64 n22))) then
            some (Sum.inr (Sum.inr (b16, b17, l18, b19, b20, l21, n22, b23, (IntKind.wrap .i64 (n24 + 1)))))
           else
            some (Sum.inl (b10, b11, l12, b13, b14, l15, b16, b17, l18, b19, b20, l21, n22, b23, (IntKind.wrap .i64 (n24 + 1))))
         else none
        else none
       else none
     else none
    else none
   else none
def lp_coupletlaw05_VecPairs_0 (b10 : Bool) (b11 : Bool) (l12 : List Int) (b13 : Bool) (b14 : Bool) (l15 : List Int) (b16 : Bool) (b17 : Bool) (l18 : List Int) (b19 : Bool) (b20 : Bool) (l21 : List Int) (n22 : Int) (b23 : Bool) (n24 : Int) : Option (((Bool × Bool × List Int × Bool × Bool × List Int × Bool × Bool × List Int × Bool × Bool × List Int × Int × Bool × Int)) ⊕ ((Bool) ⊕ ((Bool × Bool × List Int × Bool × Bool × List Int × Int × Bool × Int)))) := (it_coupletlaw05_VecPairs_0 b10 b11 l12 b13 b14 l15 b16 b17 l18 b19 b20 l21 n22 b23 n24).bind fun is => foldS (X := (Bool × Bool × List Int × Bool × Bool × List Int × Bool × Bool × List Int × Bool × Bool × List Int × Int × Bool × Int)) (fun x i => st_coupletlaw05_VecPairs_0 x.1 x.2.1 x.2.2.1 x.2.2.2.1 x.2.2.2.2.1 x.2.2.2.2.2.1 x.2.2.2.2.2.2.1 x.2.2.2.2.2.2.2.1 x.2.2.2.2.2.2.2.2.1 x.2.2.2.2.2.2.2.2.2.1 x.2.2.2.2.2.2.2.2.2.2.1 x.2.2.2.2.2.2.2.2.2.2.2.1 x.2.2.2.2.2.2.2.2.2.2.2.2.1 x.2.2.2.2.2.2.2.2.2.2.2.2.2.1 x.2.2.2.2.2.2.2.2.2.2.2.2.2.2 i) is (b10, b11, l12, b13, b14, l15, b16, b17, l18, b19, b20, l21, n22, b23, n24)
def sh_coupletlaw05_VecPairs_0 : StSh := ⟨70, [(3, (.ptr 0 0)), (4, (.ptr 1 0)), (5, (.ptr 2 0)), (6, (.ptr 3 0)), (7, (.ptr 4 0)), (25, (.p (.fn 96 [(.ref 0 [(.isl .i64)]), (.ref 0 [(.isl .i64)])])))], [(.box 31 [(.p (.isl .i64))]), (.box 31 [(.p (.isl .i64))]), (.box 5 [(.p (.int .u8))]), (.box 4 [(.p .bool)]), (.box 3 [(.p (.int .i64))])]⟩
def sx_coupletlaw05_VecPairs_0 (x : (Bool × Bool × List Int × Bool × Bool × List Int × Bool × Bool × List Int × Bool × Bool × List Int × Int × Bool × Int)) : St := ⟨slots 70 0 [(3, (.ptr 0 0)), (4, (.ptr 1 0)), (5, (.ptr 2 0)), (6, (.ptr 3 0)), (7, (.ptr 4 0)), (25, (.p (.fn 96 [(.ref 0 [(.isl x.1 x.2.1 .i64 x.2.2.1)]), (.ref 0 [(.isl x.2.2.2.1 x.2.2.2.2.1 .i64 x.2.2.2.2.2.1)])])))], [(.box 31 [(.p (.isl x.2.2.2.2.2.2.1 x.2.2.2.2.2.2.2.1 .i64 x.2.2.2.2.2.2.2.2.1))]), (.box 31 [(.p (.isl x.2.2.2.2.2.2.2.2.2.1 x.2.2.2.2.2.2.2.2.2.2.1 .i64 x.2.2.2.2.2.2.2.2.2.2.2.1))]), (.box 5 [(.p (.int .u8 x.2.2.2.2.2.2.2.2.2.2.2.2.1))]), (.box 4 [(.p (.bool x.2.2.2.2.2.2.2.2.2.2.2.2.2.1))]), (.box 3 [(.p (.int .i64 x.2.2.2.2.2.2.2.2.2.2.2.2.2.2))])]⟩
def sa_coupletlaw05_VecPairs_0 (S : St) : (Bool × Bool × List Int × Bool × Bool × List Int × Bool × Bool × List Int × Bool × Bool × List Int × Int × Bool × Int) := (((((tls 25 S.t).headD .any).pv.subs.headD .nilSl).subs.headD .nilSl).nl, ((((tls 25 S.t).headD .any).pv.subs.headD .nilSl).subs.headD .nilSl).ex, ((((tls 25 S.t).headD .any).pv.subs.headD .nilSl).subs.headD .nilSl).ints, ((((tls 25 S.t).headD .any).pv.subs.tail.headD .nilSl).subs.headD .nilSl).nl, ((((tls 25 S.t).headD .any).pv.subs.tail.headD .nilSl).subs.headD .nilSl).ex, ((((tls 25 S.t).headD .any).pv.subs.tail.headD .nilSl).subs.headD .nilSl).ints, (((tls 0 S.own).headD .gone).subs.headD .any).pv.nl, (((tls 0 S.own).headD .gone).subs.headD .any).pv.ex, (((tls 0 S.own).headD .gone).subs.headD .any).pv.ints, (((tls 1 S.own).headD .gone).subs.headD .any).pv.nl, (((tls 1 S.own).headD .gone).subs.headD .any).pv.ex, (((tls 1 S.own).headD .gone).subs.headD .any).pv.ints, (((tls 2 S.own).headD .gone).subs.headD .any).pv.num, (((tls 3 S.own).headD .gone).subs.headD .any).pv.tru, (((tls 4 S.own).headD .gone).subs.headD .any).pv.num)
def tz_coupletlaw05_VecPairs_0_1 : StSh := ⟨70, [(3, (.ptr 0 0)), (4, (.ptr 1 0)), (5, (.ptr 2 0)), (6, (.ptr 3 0)), (7, (.ptr 4 0))], [(.box 31 [(.p (.isl .i64))]), (.box 31 [(.p (.isl .i64))]), (.box 5 [(.p (.int .u8))]), (.box 4 [(.p .bool)]), (.box 3 [(.p (.int .i64))])]⟩
def tx_coupletlaw05_VecPairs_0_1 (x : (Bool × Bool × List Int × Bool × Bool × List Int × Int × Bool × Int)) : St := ⟨slots 70 0 [(3, (.ptr 0 0)), (4, (.ptr 1 0)), (5, (.ptr 2 0)), (6, (.ptr 3 0)), (7, (.ptr 4 0))], [(.box 31 [(.p (.isl x.1 x.2.1 .i64 x.2.2.1))]), (.box 31 [(.p (.isl x.2.2.2.1 x.2.2.2.2.1 .i64 x.2.2.2.2.2.1))]), (.box 5 [(.p (.int .u8 x.2.2.2.2.2.2.1))]), (.box 4 [(.p (.bool x.2.2.2.2.2.2.2.1))]), (.box 3 [(.p (.int .i64 x.2.2.2.2.2.2.2.2))])]⟩
def ta_coupletlaw05_VecPairs_0_1 (S : St) : (Bool × Bool × List Int × Bool × Bool × List Int × Int × Bool × Int) := ((((tls 0 S.own).headD .gone).subs.headD .any).pv.nl, (((tls 0 S.own).headD .gone).subs.headD .any).pv.ex, (((tls 0 S.own).headD .gone).subs.headD .any).pv.ints, (((tls 1 S.own).headD .gone).subs.headD .any).pv.nl, (((tls 1 S.own).headD .gone).subs.headD .any).pv.ex, (((tls 1 S.own).headD .gone).subs.headD .any).pv.ints, (((tls 2 S.own).headD .gone).subs.headD .any).pv.num, (((tls 3 S.own).headD .gone).subs.headD .any).pv.tru, (((tls 4 S.own).headD .gone).subs.headD .any).pv.num)
def tz_coupletlaw05_VecPairs_0_0 : StSh := ⟨70, [(6, (.ptr 0 0))], [(.box 4 [(.p .bool)])]⟩
def tx_coupletlaw05_VecPairs_0_0 (x : Bool) : St := ⟨slots 70 0 [(6, (.ptr 0 0))], [(.box 4 [(.p (.bool x))])]⟩
def ta_coupletlaw05_VecPairs_0_0 (S : St) : Bool := (((tls 0 S.own).headD .gone).subs.headD .any).pv.tru
def kb_coupletlaw05_VecPairs_0 : Exit → St → Tree (((Bool × Bool × List Int × Bool × Bool × List Int × Bool × Bool × List Int × Bool × Bool × List Int × Int × Bool × Int)) ⊕ ((Bool) ⊕ ((Bool × Bool × List Int × Bool × Bool × List Int × Int × Bool × Int)))) := (exOne .ret [6] tz_coupletlaw05_VecPairs_0_0 ta_coupletlaw05_VecPairs_0_0 (fun y => Sum.inr ((Sum.inl y))) (exOne (.exit 0) [3, 4, 5, 6, 7] tz_coupletlaw05_VecPairs_0_1 ta_coupletlaw05_VecPairs_0_1 (fun y => Sum.inr ((Sum.inr y))) exNil))
def ky_coupletlaw05_VecPairs_0 : Dec ((Bool) ⊕ ((Bool × Bool × List Int × Bool × Bool × List Int × Int × Bool × Int))) := fun _ y ke => .sum y (fun a => ke (.ret : EK).ex (tx_coupletlaw05_VecPairs_0_0 a)) (fun y' => ke ((.exit 0) : EK).ex (tx_coupletlaw05_VecPairs_0_1 y'))
theorem kk_coupletlaw05_VecPairs_0 : ExOk Sum.inr kb_coupletlaw05_VecPairs_0 ky_coupletlaw05_VecPairs_0 := (ExOk.one (acc := ta_coupletlaw05_VecPairs_0_0) (bY := tx_coupletlaw05_VecPairs_0_0) (inj1 := fun y => (Sum.inl y)) (fun S => by kernel_rfl) (fun y _ ke => .inr (by kernel_rfl)) (ExOk.one (acc := ta_coupletlaw05_VecPairs_0_1) (bY := tx_coupletlaw05_VecPairs_0_1) (inj1 := fun y => (Sum.inr y)) (fun S => by kernel_rfl) (fun y _ ke => .inr (by kernel_rfl)) ExOk.nil))
def lm_coupletlaw05_VecPairs : Lam := fun _ j S kn ke => match j with
  | 0 => prepT [3, 4, 5, 6, 7, 25] [] S fun S => .chk (sh_coupletlaw05_VecPairs_0.ok S) (.bind ((fun x => (it_coupletlaw05_VecPairs_0 x.1 x.2.1 x.2.2.1 x.2.2.2.1 x.2.2.2.2.1 x.2.2.2.2.2.1 x.2.2.2.2.2.2.1 x.2.2.2.2.2.2.2.1 x.2.2.2.2.2.2.2.2.1 x.2.2.2.2.2.2.2.2.2.1 x.2.2.2.2.2.2.2.2.2.2.1 x.2.2.2.2.2.2.2.2.2.2.2.1 x.2.2.2.2.2.2.2.2.2.2.2.2.1 x.2.2.2.2.2.2.2.2.2.2.2.2.2.1 x.2.2.2.2.2.2.2.2.2.2.2.2.2.2).bind fun is => foldS (X := (Bool × Bool × List Int × Bool × Bool × List Int × Bool × Bool × List Int × Bool × Bool × List Int × Int × Bool × Int)) (fun x i => st_coupletlaw05_VecPairs_0 x.1 x.2.1 x.2.2.1 x.2.2.2.1 x.2.2.2.2.1 x.2.2.2.2.2.1 x.2.2.2.2.2.2.1 x.2.2.2.2.2.2.2.1 x.2.2.2.2.2.2.2.2.1 x.2.2.2.2.2.2.2.2.2.1 x.2.2.2.2.2.2.2.2.2.2.1 x.2.2.2.2.2.2.2.2.2.2.2.1 x.2.2.2.2.2.2.2.2.2.2.2.2.1 x.2.2.2.2.2.2.2.2.2.2.2.2.2.1 x.2.2.2.2.2.2.2.2.2.2.2.2.2.2 i) is x) (sa_coupletlaw05_VecPairs_0 S)) fun r => .sum r (fun x => kn (sx_coupletlaw05_VecPairs_0 x)) (fun y => ky_coupletlaw05_VecPairs_0 _ y ke))
  | _ => .fail
theorem sr_coupletlaw05_VecPairs_0 (x : (Bool × Bool × List Int × Bool × Bool × List Int × Bool × Bool × List Int × Bool × Bool × List Int × Int × Bool × Int)) (i : (Int × Int)) : (ev GG gm_coupletlaw05_VecPairs lm_coupletlaw05_VecPairs xa_coupletlaw05_VecPairs_0 ⟨setL (sx_coupletlaw05_VecPairs_0 x).t [26, 27] (ie_pairsI i), (sx_coupletlaw05_VecPairs_0 x).own⟩ (fun S1 => ev GG gm_coupletlaw05_VecPairs lm_coupletlaw05_VecPairs xb_coupletlaw05_VecPairs_0 S1 (fun S => forgetT [3, 4, 5, 6, 7, 25] ⟨(sx_coupletlaw05_VecPairs_0 x).t, S.own⟩ fun S => prepT [3, 4, 5, 6, 7, 25] [] S fun S => .chk (sh_coupletlaw05_VecPairs_0.ok S) (.leaf (.inl (sa_coupletlaw05_VecPairs_0 S)))) (fun e S => kb_coupletlaw05_VecPairs_0 e ⟨(sx_coupletlaw05_VecPairs_0 x).t, S.own⟩)) (fun _ _ => .fail)).run = st_coupletlaw05_VecPairs_0 x.1 x.2.1 x.2.2.1 x.2.2.2.1 x.2.2.2.2.1 x.2.2.2.2.2.1 x.2.2.2.2.2.2.1 x.2.2.2.2.2.2.2.1 x.2.2.2.2.2.2.2.2.1 x.2.2.2.2.2.2.2.2.2.1 x.2.2.2.2.2.2.2.2.2.2.1 x.2.2.2.2.2.2.2.2.2.2.2.1 x.2.2.2.2.2.2.2.2.2.2.2.2.1 x.2.2.2.2.2.2.2.2.2.2.2.2.2.1 x.2.2.2.2.2.2.2.2.2.2.2.2.2.2 i := by kernel_rfl
theorem la_coupletlaw05_VecPairs_0 : LamAt Try.prog GG lm_coupletlaw05_VecPairs 0 (.rangeF xf_coupletlaw05_VecPairs_0 [26, 27] xa_coupletlaw05_VecPairs_0.erase xb_coupletlaw05_VecPairs_0.erase) := lam_range (asg := xa_coupletlaw05_VecPairs_0) (bdy := xb_coupletlaw05_VecPairs_0) (Λ0 := lm_coupletlaw05_VecPairs) gk_coupletlaw05_VecPairs (by kernel_rfl) (by kernel_rfl) (fun S => (by kernel_rfl : sh_coupletlaw05_VecPairs_0.build S = sx_coupletlaw05_VecPairs_0 (sa_coupletlaw05_VecPairs_0 S))) (caps := fun x => cp_coupletlaw05_VecPairs_0 x.1 x.2.1 x.2.2.1 x.2.2.2.1 x.2.2.2.2.1 x.2.2.2.2.2.1 x.2.2.2.2.2.2.1 x.2.2.2.2.2.2.2.1 x.2.2.2.2.2.2.2.2.1 x.2.2.2.2.2.2.2.2.2.1 x.2.2.2.2.2.2.2.2.2.2.1 x.2.2.2.2.2.2.2.2.2.2.2.1 x.2.2.2.2.2.2.2.2.2.2.2.2.1 x.2.2.2.2.2.2.2.2.2.2.2.2.2.1 x.2.2.2.2.2.2.2.2.2.2.2.2.2.2) (fun x => (by kernel_rfl : evS GG (sx_coupletlaw05_VecPairs_0 x) xf_coupletlaw05_VecPairs_0 = .p (.fn 96 (cp_coupletlaw05_VecPairs_0 x.1 x.2.1 x.2.2.1 x.2.2.2.1 x.2.2.2.2.1 x.2.2.2.2.2.1 x.2.2.2.2.2.2.1 x.2.2.2.2.2.2.2.1 x.2.2.2.2.2.2.2.2.1 x.2.2.2.2.2.2.2.2.2.1 x.2.2.2.2.2.2.2.2.2.2.1 x.2.2.2.2.2.2.2.2.2.2.2.1 x.2.2.2.2.2.2.2.2.2.2.2.2.1 x.2.2.2.2.2.2.2.2.2.2.2.2.2.1 x.2.2.2.2.2.2.2.2.2.2.2.2.2.2)))) (its := fun x => it_coupletlaw05_VecPairs_0 x.1 x.2.1 x.2.2.1 x.2.2.2.1 x.2.2.2.2.1 x.2.2.2.2.2.1 x.2.2.2.2.2.2.1 x.2.2.2.2.2.2.2.1 x.2.2.2.2.2.2.2.2.1 x.2.2.2.2.2.2.2.2.2.1 x.2.2.2.2.2.2.2.2.2.2.1 x.2.2.2.2.2.2.2.2.2.2.2.1 x.2.2.2.2.2.2.2.2.2.2.2.2.1 x.2.2.2.2.2.2.2.2.2.2.2.2.2.1 x.2.2.2.2.2.2.2.2.2.2.2.2.2.2) (emb := ie_pairsI) (fun i => rfl) (fun x is h => sq_pairsI _ _ _ _ _ _ is h) (step := fun x i => st_coupletlaw05_VecPairs_0 x.1 x.2.1 x.2.2.1 x.2.2.2.1 x.2.2.2.2.1 x.2.2.2.2.2.1 x.2.2.2.2.2.2.1 x.2.2.2.2.2.2.2.1 x.2.2.2.2.2.2.2.2.1 x.2.2.2.2.2.2.2.2.2.1 x.2.2.2.2.2.2.2.2.2.2.1 x.2.2.2.2.2.2.2.2.2.2.2.1 x.2.2.2.2.2.2.2.2.2.2.2.2.1 x.2.2.2.2.2.2.2.2.2.2.2.2.2.1 x.2.2.2.2.2.2.2.2.2.2.2.2.2.2 i) kk_coupletlaw05_VecPairs_0 sr_coupletlaw05_VecPairs_0 (fun _ _ _ => rfl)
/-- coupletlaw05_VecPairs -/
def go_coupletlaw05_VecPairs (b0 : Bool) (b1 : Bool) (l2 : List Int) (b3 : Bool) (b4 : Bool) (l5 : List Int) (n6 : Int) : Option Bool :=
  bif (decide ((((List.length l2) : Nat) : Int) > 200)) then
   (go_coupletlaw05_awake).bind fun r7 =>
   some r7
  else
   bif (decide ((((List.length l5) : Nat) : Int) > 200)) then
    (go_coupletlaw05_awake).bind fun r8 =>
    some r8
   else
    (go_vec_Pairs_int b0 b1 l2 b3 b4 l5).bind fun r9 =>
    (lp_coupletlaw05_VecPairs_0 r9.1 r9.2.1 r9.2.2.1 r9.2.2.2.1 r9.2.2.2.2.1 r9.2.2.2.2.2 b0 b1 l2 b3 b4 l5 n6 false 0).bind fun y26 =>
    Sum.elim (fun z27 =>
     bif (z27.2.2.2.2.2.2.2.2.2.2.2.2.2.2 == (min (((List.length z27.2.2.2.2.2.2.2.2.1) : Nat) : Int) (min (((List.length z27.2.2.2.2.2.2.2.2.2.2.2.1) : Nat) : Int) (IntKind.wrap .i64 ((IntKind.wrap .i64 z27.2.2.2.2.2.2.2.2.2.2.2.2.1) + 1))))) then
      (go_coupletlaw05_awake).bind fun r28 =>
      some r28
     else
      some false) (fun z27x =>
     Sum.elim (fun z29 =>
      some z29) (fun z30 =>
      bif (z30.2.2.2.2.2.2.2.2 == (min (((List.length z30.2.2.1) : Nat) : Int) (min (((List.length z30.2.2.2.2.2.1) : Nat) : Int) (IntKind.wrap .i64 ((IntKind.wrap .i64 z30.2.2.2.2.2.2.1) + 1))))) then
       (go_coupletlaw05_awake).bind fun r31 =>
       some r31
      else
       some false) z27x) y26
def em_coupletlaw05_VecPairs (r : Bool) : PV := (.bool r)
def rh_coupletlaw05_VecPairs : Shp := .bool
def ra_coupletlaw05_VecPairs (v : PV) : Bool := v.tru
def kf_coupletlaw05_VecPairs (v : PV) : Tree Bool := .chk (rh_coupletlaw05_VecPairs.ok v) (.leaf (ra_coupletlaw05_VecPairs v))
theorem rn_coupletlaw05_VecPairs (b0 : Bool) (b1 : Bool) (l2 : List Int) (b3 : Bool) (b4 : Bool) (l5 : List Int) (n6 : Int) : (ev GG gm_coupletlaw05_VecPairs lm_coupletlaw05_VecPairs xr_coupletlaw05_VecPairs ⟨slots 70 0 [(0, .p (.isl b0 b1 .i64 l2)), (1, .p (.isl b3 b4 .i64 l5)), (2, .p (.int .u8 n6))], []⟩ (fun S => finT Try.prog rs_coupletlaw05_VecPairs S kf_coupletlaw05_VecPairs) (retT Try.prog rs_coupletlaw05_VecPairs kf_coupletlaw05_VecPairs)).run = go_coupletlaw05_VecPairs b0 b1 l2 b3 b4 l5 n6 := by kernel_rfl
theorem ok_coupletlaw05_VecPairs (b0 : Bool) (b1 : Bool) (l2 : List Int) (b3 : Bool) (b4 : Bool) (l5 : List Int) (n6 : Int) (r : Bool) (h : go_coupletlaw05_VecPairs b0 b1 l2 b3 b4 l5 n6 = some r) : FunEq Try.prog GG 15 [(.isl b0 b1 .i64 l2), (.isl b3 b4 .i64 l5), (.int .u8 n6)] (em_coupletlaw05_VecPairs r) :=
  fun_of_ev (x := xr_coupletlaw05_VecPairs) (Λ := lm_coupletlaw05_VecPairs) gk_coupletlaw05_VecPairs [] Try.func15 rfl (by kernel_rfl) ir_coupletlaw05_VecPairs (by kernel_rfl) (congrArg Array.toList Try.results15) Try.ntmps15 (⟨trivial, ⟨⟨trivial, ⟨⟨trivial, trivial⟩, trivial⟩⟩, ⟨trivial, ⟨trivial, ⟨⟨trivial, ⟨⟨trivial, trivial⟩, trivial⟩⟩, ⟨⟨trivial, la_coupletlaw05_VecPairs_0⟩, ⟨trivial, trivial⟩⟩⟩⟩⟩⟩⟩) (leaf_of fun v => (by kernel_rfl : rh_coupletlaw05_VecPairs.build v = em_coupletlaw05_VecPairs (ra_coupletlaw05_VecPairs v))) (by kernel_rfl) ((rn_coupletlaw05_VecPairs b0 b1 l2 b3 b4 l5 n6).trans h)
def as_coupletlaw05_VecPairs : List Shp := [(.isl .i64), (.isl .i64), (.int .u8)]
def ga_coupletlaw05_VecPairs (vs : List PV) : Option Bool := go_coupletlaw05_VecPairs ((tls 0 vs).headD .nilSl).nl ((tls 0 vs).headD .nilSl).ex ((tls 0 vs).headD .nilSl).ints ((tls 1 vs).headD .nilSl).nl ((tls 1 vs).headD .nilSl).ex ((tls 1 vs).headD .nilSl).ints ((tls 2 vs).headD .nilSl).num
theorem at_coupletlaw05_VecPairs : FnAt Try.prog GG 15 as_coupletlaw05_VecPairs ga_coupletlaw05_VecPairs em_coupletlaw05_VecPairs := fun vs h r hr => by
  have e : Shp.buildL as_coupletlaw05_VecPairs vs = [(.isl ((tls 0 vs).headD .nilSl).nl ((tls 0 vs).headD .nilSl).ex .i64 ((tls 0 vs).headD .nilSl).ints), (.isl ((tls 1 vs).headD .nilSl).nl ((tls 1 vs).headD .nilSl).ex .i64 ((tls 1 vs).headD .nilSl).ints), (.int .u8 ((tls 2 vs).headD .nilSl).num)] := by kernel_rfl
  rw [← Shp.buildL_eq _ h, e]
  exact .inl ⟨by decide, ok_coupletlaw05_VecPairs _ _ _ _ _ _ _ r hr⟩

def xb_coupletlaw05_Few_0 : XR := (.seq (.seq (.ops false [⟨⟨(some 4), (.mv (.tmp 3)), none⟩, none⟩, ⟨⟨(some 5), (.mv (.tmp 0)), none⟩, none⟩, ⟨⟨(some 6), (.len (.tmp 5)), none⟩, none⟩, ⟨⟨(some 7), (.bin .lss (.tmp 4) (.tmp 6)), none⟩, none⟩, ⟨⟨(some 8), (.mv (.tmp 7)), none⟩, none⟩, ⟨⟨(some 9), (.mv (.tmp 3)), (some (8, true))⟩, none⟩, ⟨⟨(some 10), (.bin .leq (.tmp 9) (.c (.int .i64 (20)))), (some (8, true))⟩, none⟩, ⟨⟨(some 11), (.pick (.tmp 8) (.tmp 10) (.c (.bool false))), none⟩, none⟩]) (.cond (.tmp 11) .skip (.exit 0))) (.seq (.block 1 (.seq (.ops false [⟨⟨(some 14), (.mv (.tmp 0)), none⟩, none⟩, ⟨⟨(some 15), (.mv (.tmp 3)), none⟩, none⟩, ⟨⟨(some 16), (.ixA 1 (.tmp 14) (.tmp 15)), none⟩, none⟩, ⟨⟨(some 17), (.ld false 1 (.tmp 16)), none⟩, (some (.int .i64))⟩, ⟨⟨(some 18), (.bin .lss (.tmp 17) (.c (.int .i64 (-1000)))), none⟩, none⟩, ⟨⟨(some 19), (.mv (.tmp 18)), none⟩, none⟩, ⟨⟨(some 20), (.mv (.tmp 0)), (some (19, false))⟩, none⟩, ⟨⟨(some 21), (.mv (.tmp 3)), (some (19, false))⟩, none⟩, ⟨⟨(some 22), (.ixA 1 (.tmp 20) (.tmp 21)), (some (19, false))⟩, none⟩, ⟨⟨(some 23), (.ld false 1 (.tmp 22)), (some (19, false))⟩, (some (.int .i64))⟩, ⟨⟨(some 24), (.bin .gtr (.tmp 23) (.c (.int .i64 (1000)))), (some (19, false))⟩, none⟩, ⟨⟨(some 25), (.pick (.tmp 19) (.c (.bool true)) (.tmp 24)), none⟩, none⟩]) (.cond (.tmp 25) (.seq (.ops false [⟨⟨(some 2), (.mv (.c (.bool false))), none⟩, none⟩]) .ret) .skip))) (.ops false [⟨⟨(some 12), (.mv (.tmp 3)), none⟩, none⟩, ⟨⟨(some 13), (.bin .add (.tmp 12) (.c (.int .i64 (1)))), none⟩, none⟩, ⟨⟨(some 3), (.mv (.tmp 13)), none⟩, none⟩])))
def xr_coupletlaw05_Few : XR := (.seq (.ops false [⟨⟨(some 2), (.mv (.c (.bool false))), none⟩, none⟩]) (.seq (.seq (.ops false [⟨⟨(some 3), (.mv (.c (.int .i64 (0)))), none⟩, none⟩]) (.block 0 (.loop 0 [0, 3] xb_coupletlaw05_Few_0))) (.seq (.ops false [⟨⟨(some 26), (.mv (.tmp 0)), none⟩, none⟩, ⟨⟨(some 27), (.len (.tmp 26)), none⟩, none⟩, ⟨⟨(some 28), (.bin .leq (.tmp 27) (.c (.int .i64 (20)))), none⟩, none⟩, ⟨⟨(some 2), (.mv (.tmp 28)), none⟩, none⟩]) .ret)))
def rs_coupletlaw05_Few : List ResultVar := [(.tmp 2)]
theorem ir_coupletlaw05_Few : compCode Try.prog (Try.f54.body.getD .skip) [[0, 3]] = some (xr_coupletlaw05_Few.erase, []) := by kernel_rfl
/-! coupletlaw05_Few -/
def gm_coupletlaw05_Few : Gam := Gam.bot
theorem gk_coupletlaw05_Few : GamOk Try.prog GG gm_coupletlaw05_Few := GamOk.bot
def st_coupletlaw05_Few_0 (b3 : Bool) (b4 : Bool) (l5 : List Int) (n6 : Int) : Option (((Bool × Bool × List Int × Int)) ⊕ (((Bool × Bool × List Int)) ⊕ (Bool))) :=
  bif (decide (n6 < (((List.length l5) : Nat) : Int))) then
   bif (decide (n6 ≤ 20)) then
    bif (decide (0 ≤ n6)) then
     bif (decide (n6 < (((List.length l5) : Nat) : Int))) then
      bif (decide ((Int.toNat n6) < (List.length l5))) then
       bif (decide ((List.getD l5 (Int.toNat n6) 0) < (-1000))) then
        some (Sum.inr (Sum.inr false))
       else
        bif (decide (0 ≤ n6)) then
         bif (decide (n6 < (((List.length l5) : Nat) : Int))) then
          bif (decide ((Int.toNat n6) < (List.length l5))) then
           bif (decide ((List.getD l5 (Int.toNat n6) 0) > 1000)) then
            some (Sum.inr (Sum.inr false))
           else
            some (Sum.inl (b3, b4, l5, (IntKind.wrap .i64 (n6 + 1))))
          else none
         else none
        else none
      else none
     else none
    else none
   else
    some (Sum.inr (Sum.inl (b3, b4, l5)))
  else
   some (Sum.inr (Sum.inl (b3, b4, l5)))
def lp_coupletlaw05_Few_0 (b3 : Bool) (b4 : Bool) (l5 : List Int) (n6 : Int) : Option (((Bool × Bool × List Int)) ⊕ (Bool)) := loopN (X := (Bool × Bool × List Int × Int)) (fun x => st_coupletlaw05_Few_0 x.1 x.2.1 x.2.2.1 x.2.2.2) (b3, b4, l5, n6)
def sh_coupletlaw05_Few_0 : StSh := ⟨29, [(0, (.p (.isl .i64))), (3, (.p (.int .i64)))], []⟩
def sx_coupletlaw05_Few_0 (x : (Bool × Bool × List Int × Int)) : St := ⟨slots 29 0 [(0, (.p (.isl x.1 x.2.1 .i64 x.2.2.1))), (3, (.p (.int .i64 x.2.2.2)))], []⟩
def sa_coupletlaw05_Few_0 (S : St) : (Bool × Bool × List Int × Int) := (((tls 0 S.t).headD .any).pv.nl, ((tls 0 S.t).headD .any).pv.ex, ((tls 0 S.t).headD .any).pv.ints, ((tls 3 S.t).headD .any).pv.num)
def tz_coupletlaw05_Few_0_1 : StSh := ⟨29, [(2, (.p .bool))], []⟩
def tx_coupletlaw05_Few_0_1 (x : Bool) : St := ⟨slots 29 0 [(2, (.p (.bool x)))], []⟩
def ta_coupletlaw05_Few_0_1 (S : St) : Bool := ((tls 2 S.t).headD .any).pv.tru
def tz_coupletlaw05_Few_0_0 : StSh := ⟨29, [(0, (.p (.isl .i64)))], []⟩
def tx_coupletlaw05_Few_0_0 (x : (Bool × Bool × List Int)) : St := ⟨slots 29 0 [(0, (.p (.isl x.1 x.2.1 .i64 x.2.2)))], []⟩
def ta_coupletlaw05_Few_0_0 (S : St) : (Bool × Bool × List Int) := (((tls 0 S.t).headD .any).pv.nl, ((tls 0 S.t).headD .any).pv.ex, ((tls 0 S.t).headD .any).pv.ints)
def kb_coupletlaw05_Few_0 : Exit → St → Tree (((Bool × Bool × List Int × Int)) ⊕ (((Bool × Bool × List Int)) ⊕ (Bool))) := (exOne (.exit 0) [0] tz_coupletlaw05_Few_0_0 ta_coupletlaw05_Few_0_0 (fun y => Sum.inr ((Sum.inl y))) (exOne .ret [2] tz_coupletlaw05_Few_0_1 ta_coupletlaw05_Few_0_1 (fun y => Sum.inr ((Sum.inr y))) exNil))
def ky_coupletlaw05_Few_0 : Dec (((Bool × Bool × List Int)) ⊕ (Bool)) := fun _ y ke => .sum y (fun a => ke ((.exit 0) : EK).ex (tx_coupletlaw05_Few_0_0 a)) (fun y' => ke (.ret : EK).ex (tx_coupletlaw05_Few_0_1 y'))
theorem kk_coupletlaw05_Few_0 : ExOk Sum.inr kb_coupletlaw05_Few_0 ky_coupletlaw05_Few_0 := (ExOk.one (acc := ta_coupletlaw05_Few_0_0) (bY := tx_coupletlaw05_Few_0_0) (inj1 := fun y => (Sum.inl y)) (fun S => by kernel_rfl) (fun y _ ke => .inr (by kernel_rfl)) (ExOk.one (acc := ta_coupletlaw05_Few_0_1) (bY := tx_coupletlaw05_Few_0_1) (inj1 := fun y => (Sum.inr y)) (fun S => by kernel_rfl) (fun y _ ke => .inr (by kernel_rfl)) ExOk.nil))
def lm_coupletlaw05_Few : Lam := fun _ j S kn ke => match j with
  | 0 => prepT [0, 3] [] S fun S => .chk (sh_coupletlaw05_Few_0.ok S) (.bind (loopN (fun x => st_coupletlaw05_Few_0 x.1 x.2.1 x.2.2.1 x.2.2.2) (sa_coupletlaw05_Few_0 S)) fun y => ky_coupletlaw05_Few_0 _ y ke)
  | _ => .fail
theorem sr_coupletlaw05_Few_0 (x : (Bool × Bool × List Int × Int)) : (ev GG gm_coupletlaw05_Few lm_coupletlaw05_Few xb_coupletlaw05_Few_0 (sx_coupletlaw05_Few_0 x) (fun S => forgetT [0, 3] S fun S => prepT [0, 3] [] S fun S => .chk (sh_coupletlaw05_Few_0.ok S) (.leaf (.inl (sa_coupletlaw05_Few_0 S)))) kb_coupletlaw05_Few_0).run = st_coupletlaw05_Few_0 x.1 x.2.1 x.2.2.1 x.2.2.2 := by kernel_rfl
theorem la_coupletlaw05_Few_0 : LamAt Try.prog GG lm_coupletlaw05_Few 0 (.loop [0, 3] xb_coupletlaw05_Few_0.erase) := lam_loop (body := xb_coupletlaw05_Few_0) (Λ' := lm_coupletlaw05_Few) gk_coupletlaw05_Few (⟨⟨trivial, ⟨trivial, trivial⟩⟩, ⟨⟨trivial, ⟨⟨trivial, trivial⟩, trivial⟩⟩, trivial⟩⟩) (fun S => (by kernel_rfl : sh_coupletlaw05_Few_0.build S = sx_coupletlaw05_Few_0 (sa_coupletlaw05_Few_0 S))) kk_coupletlaw05_Few_0 sr_coupletlaw05_Few_0 (fun _ _ _ => rfl)
/-- coupletlaw05_Few -/
def go_coupletlaw05_Few (b0 : Bool) (b1 : Bool) (l2 : List Int) : Option Bool :=
  (lp_coupletlaw05_Few_0 b0 b1 l2 0).bind fun y7 =>
  Sum.elim (fun z8 =>
   some (decide ((((List.length z8.2.2) : Nat) : Int) ≤ 20))) (fun z9 =>
   some z9) y7
def em_coupletlaw05_Few (r : Bool) : PV := (.bool r)
def rh_coupletlaw05_Few : Shp := .bool
def ra_coupletlaw05_Few (v : PV) : Bool := v.tru
def kf_coupletlaw05_Few (v : PV) : Tree Bool := .chk (rh_coupletlaw05_Few.ok v) (.leaf (ra_coupletlaw05_Few v))
theorem rn_coupletlaw05_Few (b0 : Bool) (b1 : Bool) (l2 : List Int) : (ev GG gm_coupletlaw05_Few lm_coupletlaw05_Few xr_coupletlaw05_Few ⟨slots 29 0 [(0, .p (.isl b0 b1 .i64 l2))], []⟩ (fun S => finT Try.prog rs_coupletlaw05_Few S kf_coupletlaw05_Few) (retT Try.prog rs_coupletlaw05_Few kf_coupletlaw05_Few)).run = go_coupletlaw05_Few b0 b1 l2 := by kernel_rfl
theorem ok_coupletlaw05_Few (b0 : Bool) (b1 : Bool) (l2 : List Int) (r : Bool) (h : go_coupletlaw05_Few b0 b1 l2 = some r) : FunEq Try.prog GG 54 [(.isl b0 b1 .i64 l2)] (em_coupletlaw05_Few r) :=
  fun_of_ev (x := xr_coupletlaw05_Few) (Λ := lm_coupletlaw05_Few) gk_coupletlaw05_Few [[0, 3]] Try.func54 rfl (by kernel_rfl) ir_coupletlaw05_Few (by kernel_rfl) (congrArg Array.toList Try.results54) Try.ntmps54 (⟨trivial, ⟨⟨trivial, la_coupletlaw05_Few_0⟩, ⟨trivial, trivial⟩⟩⟩) (leaf_of fun v => (by kernel_rfl : rh_coupletlaw05_Few.build v = em_coupletlaw05_Few (ra_coupletlaw05_Few v))) (by kernel_rfl) ((rn_coupletlaw05_Few b0 b1 l2).trans h)
def as_coupletlaw05_Few : List Shp := [(.isl .i64)]
def ga_coupletlaw05_Few (vs : List PV) : Option Bool := go_coupletlaw05_Few ((tls 0 vs).headD .nilSl).nl ((tls 0 vs).headD .nilSl).ex ((tls 0 vs).headD .nilSl).ints
theorem at_coupletlaw05_Few : FnAt Try.prog GG 54 as_coupletlaw05_Few ga_coupletlaw05_Few em_coupletlaw05_Few := fun vs h r hr => by
  have e : Shp.buildL as_coupletlaw05_Few vs = [(.isl ((tls 0 vs).headD .nilSl).nl ((tls 0 vs).headD .nilSl).ex .i64 ((tls 0 vs).headD .nilSl).ints)] := by kernel_rfl
  rw [← Shp.buildL_eq _ h, e]
  exact .inl ⟨by decide, ok_coupletlaw05_Few _ _ _ r hr⟩

def xr_coupletlaw05_VecSplits : XR := (.seq (.ops false [⟨⟨(some 4), (.mv (.c (.bool false))), none⟩, none⟩]) (.seq (.seq (.ops false [⟨⟨(some 6), (.mv (.tmp 0)), none⟩, none⟩, ⟨⟨(some 7), (.call (.func 54) [(.tmp 6)]), none⟩, none⟩, ⟨⟨(some 8), (.un .not (.tmp 7)), none⟩, none⟩, ⟨⟨(some 9), (.mv (.tmp 8)), none⟩, none⟩, ⟨⟨(some 10), (.mv (.tmp 1)), (some (9, false))⟩, none⟩, ⟨⟨(some 11), (.bin .lss (.tmp 10) (.c (.int .i64 (0)))), (some (9, false))⟩, none⟩, ⟨⟨(some 12), (.pick (.tmp 9) (.c (.bool true)) (.tmp 11)), none⟩, none⟩, ⟨⟨(some 13), (.mv (.tmp 12)), none⟩, none⟩, ⟨⟨(some 14), (.mv (.tmp 1)), (some (13, false))⟩, none⟩, ⟨⟨(some 15), (.mv (.tmp 0)), (some (13, false))⟩, none⟩, ⟨⟨(some 16), (.len (.tmp 15)), (some (13, false))⟩, none⟩, ⟨⟨(some 17), (.bin .gtr (.tmp 14) (.tmp 16)), (some (13, false))⟩, none⟩, ⟨⟨(some 18), (.pick (.tmp 13) (.c (.bool true)) (.tmp 17)), none⟩, none⟩]) (.cond (.tmp 18) (.seq (.ops false [⟨⟨(some 19), (.call (.func 50) []), none⟩, none⟩, ⟨⟨(some 4), (.mv (.tmp 19)), none⟩, none⟩]) .ret) .skip)) (.seq (.ops false [⟨⟨(some 20), (.mv (.tmp 0)), none⟩, none⟩, ⟨⟨(some 21), (.call (.func 55) [(.tmp 20)]), none⟩, none⟩, ⟨⟨(some 5), (.mv (.tmp 21)), none⟩, none⟩]) (.seq (.seq (.ops false [⟨⟨(some 22), (.mv (.tmp 5)), none⟩, none⟩, ⟨⟨(some 23), (.len (.tmp 22)), none⟩, none⟩, ⟨⟨(some 24), (.mv (.tmp 0)), none⟩, none⟩, ⟨⟨(some 25), (.len (.tmp 24)), none⟩, none⟩, ⟨⟨(some 26), (.bin .neq (.tmp 23) (.tmp 25)), none⟩, none⟩]) (.cond (.tmp 26) (.seq (.ops false [⟨⟨(some 4), (.mv (.c (.bool false))), none⟩, none⟩]) .ret) .skip)) (.seq (.ops true [⟨⟨(some 27), (.mv (.tmp 5)), none⟩, none⟩, ⟨⟨(some 28), (.call (.func 56) [(.tmp 27)]), none⟩, none⟩, ⟨⟨(some 29), (.mv (.tmp 5)), none⟩, none⟩, ⟨⟨(some 30), (.mv (.tmp 1)), none⟩, none⟩, ⟨⟨(some 31), (.slc 3 (.tmp 29) none (some (.tmp 30)) none), none⟩, none⟩, ⟨⟨(some 32), (.call (.func 56) [(.tmp 31)]), none⟩, none⟩, ⟨⟨(some 33), (.mv (.tmp 5)), none⟩, none⟩, ⟨⟨(some 34), (.mv (.tmp 1)), none⟩, none⟩, ⟨⟨(some 35), (.slc 3 (.tmp 33) (some (.tmp 34)) none none), none⟩, none⟩, ⟨⟨(some 36), (.call (.func 56) [(.tmp 35)]), none⟩, none⟩, ⟨⟨(some 37), (.call (.func 57) [(.tmp 32), (.tmp 36)]), none⟩, none⟩, ⟨⟨(some 38), (.eqAgg false [(.int .i64), (.int .i64), .bool] (.tmp 28) (.tmp 37)), none⟩, none⟩, ⟨⟨(some 39), (.mv (.tmp 38)), none⟩, none⟩, ⟨⟨(some 40), (.call (.func 56) [(.c (.sl true true 3 []))]), (some (39, true))⟩, none⟩, ⟨⟨(some 41), (.call (.func 58) [(.c (.int .i64 (0))), (.c (.int .i64 (1)))]), (some (39, true))⟩, none⟩, ⟨⟨(some 42), (.eqAgg false [(.int .i64), (.int .i64), .bool] (.tmp 40) (.tmp 41)), (some (39, true))⟩, none⟩, ⟨⟨(some 43), (.pick (.tmp 39) (.tmp 42) (.c (.bool false))), none⟩, none⟩, ⟨⟨(some 44), (.mv (.tmp 43)), none⟩, none⟩, ⟨⟨(some 45), (.mv (.tmp 5)), (some (44, true))⟩, none⟩, ⟨⟨(some 46), (.call (.func 59) [(.tmp 45), (.c (.sl true true 3 []))]), (some (44, true))⟩, none⟩, ⟨⟨(some 47), (.call (.func 58) [(.c (.int .i64 (0))), (.c (.int .i64 (1)))]), (some (44, true))⟩, none⟩, ⟨⟨(some 48), (.eqAgg false [(.int .i64), (.int .i64), .bool] (.tmp 46) (.tmp 47)), (some (44, true))⟩, none⟩, ⟨⟨(some 49), (.pick (.tmp 44) (.tmp 48) (.c (.bool false))), none⟩, none⟩, ⟨⟨(some 50), (.mv (.tmp 49)), none⟩, none⟩, ⟨⟨(some 51), (.call (.func 50) []), (some (50, true))⟩, none⟩, ⟨⟨(some 52), (.pick (.tmp 50) (.tmp 51) (.c (.bool false))), none⟩, none⟩, ⟨⟨(some 4), (.mv (.tmp 52)), none⟩, none⟩]) .ret)))))
def rs_coupletlaw05_VecSplits : List ResultVar := [(.tmp 4)]
theorem ir_coupletlaw05_VecSplits : compCode Try.prog (Try.f16.body.getD .skip) [] = some (xr_coupletlaw05_VecSplits.erase, []) := by kernel_rfl
/-! coupletlaw05_VecSplits -/
def gm_coupletlaw05_VecSplits : Gam := (Gam.fn 54 as_coupletlaw05_Few ga_coupletlaw05_Few em_coupletlaw05_Few (Gam.fn 50 as_coupletlaw05_awake ga_coupletlaw05_awake em_coupletlaw05_awake (Gam.fn 55 as_vec_Whole_frac_Frac ga_vec_Whole_frac_Frac em_vec_Whole_frac_Frac (Gam.fn 56 as_vec_Sum_frac_Frac ga_vec_Sum_frac_Frac em_vec_Sum_frac_Frac (Gam.fn 57 as_frac_Frac_Add ga_frac_Frac_Add em_frac_Frac_Add (Gam.fn 58 as_frac_New ga_frac_New em_frac_New (Gam.fn 59 as_vec_Dot_frac_Frac ga_vec_Dot_frac_Frac em_vec_Dot_frac_Frac Gam.bot)))))))
theorem gk_coupletlaw05_VecSplits : GamOk Try.prog GG gm_coupletlaw05_VecSplits := (GamOk.fn at_coupletlaw05_Few (GamOk.fn at_coupletlaw05_awake (GamOk.fn at_vec_Whole_frac_Frac (GamOk.fn at_vec_Sum_frac_Frac (GamOk.fn at_frac_Frac_Add (GamOk.fn at_frac_New (GamOk.fn at_vec_Dot_frac_Frac GamOk.bot)))))))
def lm_coupletlaw05_VecSplits : Lam := fun _ j S kn ke => match j with
  | _ => .fail
/-- coupletlaw05_VecSplits -/
def go_coupletlaw05_VecSplits (b0 : Bool) (b1 : Bool) (l2 : List Int) (n3 : Int) : Option Bool :=
  (go_coupletlaw05_Few b0 b1 l2).bind fun r4 =>
  bif (!r4) then
   (go_coupletlaw05_awake).bind fun r5 =>
   some r5
  else
   bif (decide (n3 < 0)) then
    (go_coupletlaw05_awake).bind fun r6 =>
    some r6
   else
    bif (decide (n3 > (((List.length l2) : Nat) : Int))) then
     (go_coupletlaw05_awake).bind fun r7 =>
     some r7
    else
     (go_vec_Whole_frac_Frac b0 b1 l2).bind fun r8 =>
     bif ((((List.length r8.2.2) : Nat) : Int) != (((List.length l2) : Nat) : Int)) then
      some false
     else
      (go_vec_Sum_frac_Frac r8.1 r8.2.1 r8.2.2).bind fun r9 =>
      bif (decide (0 ≤ n3)) then
       bif (decide (n3 ≤ (((List.length r8.2.2) : Nat) : Int))) then
        (go_vec_Sum_frac_Frac r8.1 false (List.take (Int.toNat (n3 - 0)) (List.drop 0 r8.2.2))).bind fun r10 =>
        bif (decide (0 ≤ n3)) then
         bif (decide (n3 ≤ (((List.length r8.2.2) : Nat) : Int))) then
          bif (decide ((((List.length r8.2.2) : Nat) : Int) ≤ (((List.length r8.2.2) : Nat) : Int))) then
           (go_vec_Sum_frac_Frac r8.1 r8.2.1 (List.take (Int.toNat ((((List.length r8.2.2) : Nat) : Int) - n3)) (List.drop (Int.toNat n3) r8.2.2))).bind fun r11 =>
           (go_frac_Frac_Add r10.1 r10.2.1 r10.2.2 r11.1 r11.2.1 r11.2.2).bind fun r12 =>
           bif ((r9.1 == r12.1) && ((r9.2.1 == r12.2.1) && ((r9.2.2 == r12.2.2) && true))) then
            (go_vec_Sum_frac_Frac true true []).bind fun r13 =>
            (go_frac_New 0 1).bind fun r14 =>
            bif ((r13.1 == r14.1) && ((r13.2.1 == r14.2.1) && ((r13.2.2 == r14.2.2) && true))) then
             (go_vec_Dot_frac_Frac r8.1 r8.2.1 r8.2.2 true true []).bind fun r15 =>
             (go_frac_New 0 1).bind fun r16 =>
             bif ((r15.1 == r16.1) && ((r15.2.1 == r16.2.1) && ((r15.2.2 == r16.2.2) && true))) then
              (go_coupletlaw05_awake).bind fun r17 =>
              some r17
             else
              some false
            else
             some false
           else
            some false
          else none
         else none
        else none
       else none
      else none
def em_coupletlaw05_VecSplits (r : Bool) : PV := (.bool r)
def rh_coupletlaw05_VecSplits : Shp := .bool
def ra_coupletlaw05_VecSplits (v : PV) : Bool := v.tru
def kf_coupletlaw05_VecSplits (v : PV) : Tree Bool := .chk (rh_coupletlaw05_VecSplits.ok v) (.leaf (ra_coupletlaw05_VecSplits v))
theorem rn_coupletlaw05_VecSplits (b0 : Bool) (b1 : Bool) (l2 : List Int) (n3 : Int) : (ev GG gm_coupletlaw05_VecSplits lm_coupletlaw05_VecSplits xr_coupletlaw05_VecSplits ⟨slots 53 0 [(0, .p (.isl b0 b1 .i64 l2)), (1, .p (.int .i64 n3))], []⟩ (fun S => finT Try.prog rs_coupletlaw05_VecSplits S kf_coupletlaw05_VecSplits) (retT Try.prog rs_coupletlaw05_VecSplits kf_coupletlaw05_VecSplits)).run = go_coupletlaw05_VecSplits b0 b1 l2 n3 := by kernel_rfl
theorem ok_coupletlaw05_VecSplits (b0 : Bool) (b1 : Bool) (l2 : List Int) (n3 : Int) (r : Bool) (h : go_coupletlaw05_VecSplits b0 b1 l2 n3 = some r) : FunEq Try.prog GG 16 [(.isl b0 b1 .i64 l2), (.int .i64 n3)] (em_coupletlaw05_VecSplits r) :=
  fun_of_ev (x := xr_coupletlaw05_VecSplits) (Λ := lm_coupletlaw05_VecSplits) gk_coupletlaw05_VecSplits [] Try.func16 rfl (by kernel_rfl) ir_coupletlaw05_VecSplits (by kernel_rfl) (congrArg Array.toList Try.results16) Try.ntmps16 (⟨trivial, ⟨⟨trivial, ⟨⟨trivial, trivial⟩, trivial⟩⟩, ⟨trivial, ⟨⟨trivial, ⟨⟨trivial, trivial⟩, trivial⟩⟩, ⟨trivial, trivial⟩⟩⟩⟩⟩) (leaf_of fun v => (by kernel_rfl : rh_coupletlaw05_VecSplits.build v = em_coupletlaw05_VecSplits (ra_coupletlaw05_VecSplits v))) (by kernel_rfl) ((rn_coupletlaw05_VecSplits b0 b1 l2 n3).trans h)
def as_coupletlaw05_VecSplits : List Shp := [(.isl .i64), (.int .i64)]
def ga_coupletlaw05_VecSplits (vs : List PV) : Option Bool := go_coupletlaw05_VecSplits ((tls 0 vs).headD .nilSl).nl ((tls 0 vs).headD .nilSl).ex ((tls 0 vs).headD .nilSl).ints ((tls 1 vs).headD .nilSl).num
theorem at_coupletlaw05_VecSplits : FnAt Try.prog GG 16 as_coupletlaw05_VecSplits ga_coupletlaw05_VecSplits em_coupletlaw05_VecSplits := fun vs h r hr => by
  have e : Shp.buildL as_coupletlaw05_VecSplits vs = [(.isl ((tls 0 vs).headD .nilSl).nl ((tls 0 vs).headD .nilSl).ex .i64 ((tls 0 vs).headD .nilSl).ints), (.int .i64 ((tls 1 vs).headD .nilSl).num)] := by kernel_rfl
  rw [← Shp.buildL_eq _ h, e]
  exact .inl ⟨by decide, ok_coupletlaw05_VecSplits _ _ _ _ r hr⟩

def xr_frac_Frac_Neg_1 : XR := (.seq (.ops false [⟨⟨(some 1), (.mv (.c (.int .i64 (0)))), none⟩, none⟩, ⟨⟨(some 2), (.mv (.c (.int .i64 (0)))), none⟩, none⟩]) (.seq (.ops true [⟨⟨(some 3), (.fldA 0 (.tmp 0)), none⟩, none⟩, ⟨⟨(some 4), (.ld false 1 (.tmp 3)), none⟩, (some (.int .i64))⟩, ⟨⟨(some 5), (.un .neg (.tmp 4)), none⟩, none⟩, ⟨⟨(some 6), (.fldA 1 (.tmp 0)), none⟩, none⟩, ⟨⟨(some 7), (.ld false 1 (.tmp 6)), none⟩, (some (.int .i64))⟩, ⟨⟨(some 1), (.mv (.tmp 5)), none⟩, none⟩, ⟨⟨(some 2), (.mv (.tmp 7)), none⟩, none⟩]) .ret))
def rs_frac_Frac_Neg_1 : List ResultVar := [(.tmp 1), (.tmp 2)]
theorem ir_frac_Frac_Neg_1 : compCode Try.prog (Try.f121.body.getD .skip) [] = some (xr_frac_Frac_Neg_1.erase, []) := by kernel_rfl
/-! frac_Frac_Neg_1 -/
def gm_frac_Frac_Neg_1 : Gam := Gam.bot
theorem gk_frac_Frac_Neg_1 : GamOk Try.prog GG gm_frac_Frac_Neg_1 := GamOk.bot
def lm_frac_Frac_Neg_1 : Lam := fun _ j S kn ke => match j with
  | _ => .fail
/-- frac_Frac_Neg_1 -/
def go_frac_Frac_Neg_1 (n0 : Int) (n1 : Int) (b2 : Bool) : Option (Int × Int) :=
  some ((IntKind.wrap .i64 (0 - n0)), n1)
def em_frac_Frac_Neg_1 (r : (Int × Int)) : PV := (.tup [(.int .i64 r.1), (.int .i64 r.2)])
def rh_frac_Frac_Neg_1 : Shp := (.tup [(.int .i64), (.int .i64)])
def ra_frac_Frac_Neg_1 (v : PV) : (Int × Int) := ((v.subs.headD .nilSl).num, (v.subs.tail.headD .nilSl).num)
def kf_frac_Frac_Neg_1 (v : PV) : Tree (Int × Int) := .chk (rh_frac_Frac_Neg_1.ok v) (.leaf (ra_frac_Frac_Neg_1 v))
theorem rn_frac_Frac_Neg_1 (n0 : Int) (n1 : Int) (b2 : Bool) : (ev GG gm_frac_Frac_Neg_1 lm_frac_Frac_Neg_1 xr_frac_Frac_Neg_1 ⟨slots 8 0 [(0, .p (.ref 0 [(.int .i64 n0), (.int .i64 n1), (.bool b2)]))], []⟩ (fun S => finT Try.prog rs_frac_Frac_Neg_1 S kf_frac_Frac_Neg_1) (retT Try.prog rs_frac_Frac_Neg_1 kf_frac_Frac_Neg_1)).run = go_frac_Frac_Neg_1 n0 n1 b2 := by kernel_rfl
theorem ok_frac_Frac_Neg_1 (n0 : Int) (n1 : Int) (b2 : Bool) (r : (Int × Int)) (h : go_frac_Frac_Neg_1 n0 n1 b2 = some r) : FunEq Try.prog GG 121 [(.ref 0 [(.int .i64 n0), (.int .i64 n1), (.bool b2)])] (em_frac_Frac_Neg_1 r) :=
  fun_of_ev (x := xr_frac_Frac_Neg_1) (Λ := lm_frac_Frac_Neg_1) gk_frac_Frac_Neg_1 [] Try.func121 rfl (by kernel_rfl) ir_frac_Frac_Neg_1 (by kernel_rfl) (congrArg Array.toList Try.results121) Try.ntmps121 (⟨trivial, ⟨trivial, trivial⟩⟩) (leaf_of fun v => (by kernel_rfl : rh_frac_Frac_Neg_1.build v = em_frac_Frac_Neg_1 (ra_frac_Frac_Neg_1 v))) (by kernel_rfl) ((rn_frac_Frac_Neg_1 n0 n1 b2).trans h)
def as_frac_Frac_Neg_1 : List Shp := [(.ref 0 [(.int .i64), (.int .i64), .bool])]
def ga_frac_Frac_Neg_1 (vs : List PV) : Option (Int × Int) := go_frac_Frac_Neg_1 (((tls 0 vs).headD .nilSl).subs.headD .nilSl).num (((tls 0 vs).headD .nilSl).subs.tail.headD .nilSl).num (((tls 0 vs).headD .nilSl).subs.tail.tail.headD .nilSl).tru
theorem at_frac_Frac_Neg_1 : FnAt Try.prog GG 121 as_frac_Frac_Neg_1 ga_frac_Frac_Neg_1 em_frac_Frac_Neg_1 := fun vs h r hr => by
  have e : Shp.buildL as_frac_Frac_Neg_1 vs = [(.ref 0 [(.int .i64 (((tls 0 vs).headD .nilSl).subs.headD .nilSl).num), (.int .i64 (((tls 0 vs).headD .nilSl).subs.tail.headD .nilSl).num), (.bool (((tls 0 vs).headD .nilSl).subs.tail.tail.headD .nilSl).tru)])] := by kernel_rfl
  rw [← Shp.buildL_eq _ h, e]
  exact .inl ⟨by decide, ok_frac_Frac_Neg_1 _ _ _ r hr⟩
/-! frac_of -/
def gm_frac_of_v1 : Gam := (Gam.fn 97 as_frac_Frac_Fine ga_frac_Frac_Fine em_frac_Frac_Fine (Gam.fn 98 as_frac_Wrong ga_frac_Wrong em_frac_Wrong (Gam.fn 121 as_frac_Frac_Neg_1 ga_frac_Frac_Neg_1 em_frac_Frac_Neg_1 (Gam.fn 58 as_frac_New ga_frac_New em_frac_New Gam.bot))))
theorem gk_frac_of_v1 : GamOk Try.prog GG gm_frac_of_v1 := (GamOk.fn at_frac_Frac_Fine (GamOk.fn at_frac_Wrong (GamOk.fn at_frac_Frac_Neg_1 (GamOk.fn at_frac_New GamOk.bot))))
def lm_frac_of_v1 : Lam := fun _ j S kn ke => match j with
  | _ => .fail
/-- frac_of -/
def go_frac_of_v1 (n0 : Int) (n1 : Int) (b2 : Bool) (n3 : Int) (n4 : Int) (b5 : Bool) (n6 : Int) (n7 : Int) (b8 : Bool) : Option (Int × Int × Bool) :=
  (go_frac_Frac_Fine n0 n1 b2).bind fun r9 =>
  bif (!r9) then
   (go_frac_Wrong).bind fun r10 =>
   some (r10.1, r10.2.1, r10.2.2)
  else
   (go_frac_Frac_Fine n3 n4 b5).bind fun r11 =>
   bif (!r11) then
    (go_frac_Wrong).bind fun r12 =>
    some (r12.1, r12.2.1, r12.2.2)
   else
    (go_frac_Frac_Neg_1 n6 n7 b8).bind fun r13 =>
    (go_frac_New r13.1 r13.2).bind fun r14 =>
    some (r14.1, r14.2.1, r14.2.2)
def em_frac_of_v1 (r : (Int × Int × Bool)) : PV := (.agg [(.int .i64 r.1), (.int .i64 r.2.1), (.bool r.2.2)])
def rh_frac_of_v1 : Shp := (.agg [(.int .i64), (.int .i64), .bool])
def ra_frac_of_v1 (v : PV) : (Int × Int × Bool) := ((v.subs.headD .nilSl).num, (v.subs.tail.headD .nilSl).num, (v.subs.tail.tail.headD .nilSl).tru)
def kf_frac_of_v1 (v : PV) : Tree (Int × Int × Bool) := .chk (rh_frac_of_v1.ok v) (.leaf (ra_frac_of_v1 v))
theorem rn_frac_of_v1 (n0 : Int) (n1 : Int) (b2 : Bool) (n3 : Int) (n4 : Int) (b5 : Bool) (n6 : Int) (n7 : Int) (b8 : Bool) : (ev GG gm_frac_of_v1 lm_frac_of_v1 xr_frac_of ⟨slots 21 0 [(0, .p (.agg [(.int .i64 n0), (.int .i64 n1), (.bool b2)])), (1, .p (.agg [(.int .i64 n3), (.int .i64 n4), (.bool b5)])), (2, .p (.fn 121 [(.ref 0 [(.int .i64 n6), (.int .i64 n7), (.bool b8)])]))], []⟩ (fun S => finT Try.prog rs_frac_of S kf_frac_of_v1) (retT Try.prog rs_frac_of kf_frac_of_v1)).run = go_frac_of_v1 n0 n1 b2 n3 n4 b5 n6 n7 b8 := by kernel_rfl
theorem ok_frac_of_v1 (n0 : Int) (n1 : Int) (b2 : Bool) (n3 : Int) (n4 : Int) (b5 : Bool) (n6 : Int) (n7 : Int) (b8 : Bool) (r : (Int × Int × Bool)) (h : go_frac_of_v1 n0 n1 b2 n3 n4 b5 n6 n7 b8 = some r) : FunEq Try.prog GG 108 [(.agg [(.int .i64 n0), (.int .i64 n1), (.bool b2)]), (.agg [(.int .i64 n3), (.int .i64 n4), (.bool b5)]), (.fn 121 [(.ref 0 [(.int .i64 n6), (.int .i64 n7), (.bool b8)])])] (em_frac_of_v1 r) :=
  fun_of_ev (x := xr_frac_of) (Λ := lm_frac_of_v1) gk_frac_of_v1 [] Try.func108 rfl (by kernel_rfl) ir_frac_of (by kernel_rfl) (congrArg Array.toList Try.results108) Try.ntmps108 (⟨trivial, ⟨⟨trivial, ⟨⟨trivial, trivial⟩, trivial⟩⟩, ⟨trivial, trivial⟩⟩⟩) (leaf_of fun v => (by kernel_rfl : rh_frac_of_v1.build v = em_frac_of_v1 (ra_frac_of_v1 v))) (by kernel_rfl) ((rn_frac_of_v1 n0 n1 b2 n3 n4 b5 n6 n7 b8).trans h)
def as_frac_of_v1 : List Shp := [(.agg [(.int .i64), (.int .i64), .bool]), (.agg [(.int .i64), (.int .i64), .bool]), (.fn 121 [(.ref 0 [(.int .i64), (.int .i64), .bool])])]
def ga_frac_of_v1 (vs : List PV) : Option (Int × Int × Bool) := go_frac_of_v1 (((tls 0 vs).headD .nilSl).subs.headD .nilSl).num (((tls 0 vs).headD .nilSl).subs.tail.headD .nilSl).num (((tls 0 vs).headD .nilSl).subs.tail.tail.headD .nilSl).tru (((tls 1 vs).headD .nilSl).subs.headD .nilSl).num (((tls 1 vs).headD .nilSl).subs.tail.headD .nilSl).num (((tls 1 vs).headD .nilSl).subs.tail.tail.headD .nilSl).tru ((((tls 2 vs).headD .nilSl).subs.headD .nilSl).subs.headD .nilSl).num ((((tls 2 vs).headD .nilSl).subs.headD .nilSl).subs.tail.headD .nilSl).num ((((tls 2 vs).headD .nilSl).subs.headD .nilSl).subs.tail.tail.headD .nilSl).tru
theorem at_frac_of_v1 : FnAt Try.prog GG 108 as_frac_of_v1 ga_frac_of_v1 em_frac_of_v1 := fun vs h r hr => by
  have e : Shp.buildL as_frac_of_v1 vs = [(.agg [(.int .i64 (((tls 0 vs).headD .nilSl).subs.headD .nilSl).num), (.int .i64 (((tls 0 vs).headD .nilSl).subs.tail.headD .nilSl).num), (.bool (((tls 0 vs).headD .nilSl).subs.tail.tail.headD .nilSl).tru)]), (.agg [(.int .i64 (((tls 1 vs).headD .nilSl).subs.headD .nilSl).num), (.int .i64 (((tls 1 vs).headD .nilSl).subs.tail.headD .nilSl).num), (.bool (((tls 1 vs).headD .nilSl).subs.tail.tail.headD .nilSl).tru)]), (.fn 121 [(.ref 0 [(.int .i64 ((((tls 2 vs).headD .nilSl).subs.headD .nilSl).subs.headD .nilSl).num), (.int .i64 ((((tls 2 vs).headD .nilSl).subs.headD .nilSl).subs.tail.headD .nilSl).num), (.bool ((((tls 2 vs).headD .nilSl).subs.headD .nilSl).subs.tail.tail.headD .nilSl).tru)])])] := by kernel_rfl
  rw [← Shp.buildL_eq _ h, e]
  exact .inl ⟨by decide, ok_frac_of_v1 _ _ _ _ _ _ _ _ _ r hr⟩

def xr_frac_Frac_Neg : XR := (.seq (.ops false [⟨⟨(some 1), (.box 58 (.tmp 0)), none⟩, none⟩, ⟨⟨(some 2), (.alloc 58 [(.int .i64 (0)), (.int .i64 (0)), (.bool false)]), none⟩, none⟩]) (.seq (.ops false [⟨⟨(some 3), (.ld true 3 (.tmp 1)), none⟩, (some (.agg [(.int .i64), (.int .i64), .bool]))⟩, ⟨⟨(some 4), (.ld true 3 (.tmp 1)), none⟩, (some (.agg [(.int .i64), (.int .i64), .bool]))⟩, ⟨⟨(some 5), (.mkFn 121 [(.tmp 1)]), none⟩, none⟩, ⟨⟨(some 6), (.call (.func 108) [(.tmp 3), (.tmp 4), (.tmp 5)]), none⟩, none⟩, ⟨⟨none, (.st 3 (.tmp 2) (.tmp 6)), none⟩, none⟩]) .ret))
def rs_frac_Frac_Neg : List ResultVar := [(.cell 2 58)]
theorem ir_frac_Frac_Neg : compCode Try.prog (Try.f107.body.getD .skip) [] = some (xr_frac_Frac_Neg.erase, []) := by kernel_rfl
/-! frac_Frac_Neg -/
def gm_frac_Frac_Neg : Gam := (Gam.fn 108 as_frac_of_v1 ga_frac_of_v1 em_frac_of_v1 Gam.bot)
theorem gk_frac_Frac_Neg : GamOk Try.prog GG gm_frac_Frac_Neg := (GamOk.fn at_frac_of_v1 GamOk.bot)
def lm_frac_Frac_Neg : Lam := fun _ j S kn ke => match j with
  | _ => .fail
/-- frac_Frac_Neg -/
def go_frac_Frac_Neg (n0 : Int) (n1 : Int) (b2 : Bool) : Option (Int × Int × Bool) :=
  (go_frac_of_v1 n0 n1 b2 n0 n1 b2 n0 n1 b2).bind fun r3 =>
  some (r3.1, r3.2.1, r3.2.2)
def em_frac_Frac_Neg (r : (Int × Int × Bool)) : PV := (.agg [(.int .i64 r.1), (.int .i64 r.2.1), (.bool r.2.2)])
def rh_frac_Frac_Neg : Shp := (.agg [(.int .i64), (.int .i64), .bool])
def ra_frac_Frac_Neg (v : PV) : (Int × Int × Bool) := ((v.subs.headD .nilSl).num, (v.subs.tail.headD .nilSl).num, (v.subs.tail.tail.headD .nilSl).tru)
def kf_frac_Frac_Neg (v : PV) : Tree (Int × Int × Bool) := .chk (rh_frac_Frac_Neg.ok v) (.leaf (ra_frac_Frac_Neg v))
theorem rn_frac_Frac_Neg (n0 : Int) (n1 : Int) (b2 : Bool) : (ev GG gm_frac_Frac_Neg lm_frac_Frac_Neg xr_frac_Frac_Neg ⟨slots 7 0 [(0, .p (.agg [(.int .i64 n0), (.int .i64 n1), (.bool b2)]))], []⟩ (fun S => finT Try.prog rs_frac_Frac_Neg S kf_frac_Frac_Neg) (retT Try.prog rs_frac_Frac_Neg kf_frac_Frac_Neg)).run = go_frac_Frac_Neg n0 n1 b2 := by kernel_rfl
theorem ok_frac_Frac_Neg (n0 : Int) (n1 : Int) (b2 : Bool) (r : (Int × Int × Bool)) (h : go_frac_Frac_Neg n0 n1 b2 = some r) : FunEq Try.prog GG 107 [(.agg [(.int .i64 n0), (.int .i64 n1), (.bool b2)])] (em_frac_Frac_Neg r) :=
  fun_of_ev (x := xr_frac_Frac_Neg) (Λ := lm_frac_Frac_Neg) gk_frac_Frac_Neg [] Try.func107 rfl (by kernel_rfl) ir_frac_Frac_Neg (by kernel_rfl) (congrArg Array.toList Try.results107) Try.ntmps107 (⟨trivial, ⟨trivial, trivial⟩⟩) (leaf_of fun v => (by kernel_rfl : rh_frac_Frac_Neg.build v = em_frac_Frac_Neg (ra_frac_Frac_Neg v))) (by kernel_rfl) ((rn_frac_Frac_Neg n0 n1 b2).trans h)
def as_frac_Frac_Neg : List Shp := [(.agg [(.int .i64), (.int .i64), .bool])]
def ga_frac_Frac_Neg (vs : List PV) : Option (Int × Int × Bool) := go_frac_Frac_Neg (((tls 0 vs).headD .nilSl).subs.headD .nilSl).num (((tls 0 vs).headD .nilSl).subs.tail.headD .nilSl).num (((tls 0 vs).headD .nilSl).subs.tail.tail.headD .nilSl).tru
theorem at_frac_Frac_Neg : FnAt Try.prog GG 107 as_frac_Frac_Neg ga_frac_Frac_Neg em_frac_Frac_Neg := fun vs h r hr => by
  have e : Shp.buildL as_frac_Frac_Neg vs = [(.agg [(.int .i64 (((tls 0 vs).headD .nilSl).subs.headD .nilSl).num), (.int .i64 (((tls 0 vs).headD .nilSl).subs.tail.headD .nilSl).num), (.bool (((tls 0 vs).headD .nilSl).subs.tail.tail.headD .nilSl).tru)])] := by kernel_rfl
  rw [← Shp.buildL_eq _ h, e]
  exact .inl ⟨by decide, ok_frac_Frac_Neg _ _ _ r hr⟩

def xr_frac_Frac_Sub : XR := (.seq (.ops false [⟨⟨(some 2), (.box 58 (.tmp 0)), none⟩, none⟩, ⟨⟨(some 3), (.box 58 (.tmp 1)), none⟩, none⟩, ⟨⟨(some 4), (.alloc 58 [(.int .i64 (0)), (.int .i64 (0)), (.bool false)]), none⟩, none⟩]) (.seq (.ops true [⟨⟨(some 5), (.ld true 3 (.tmp 2)), none⟩, (some (.agg [(.int .i64), (.int .i64), .bool]))⟩, ⟨⟨(some 6), (.ld true 3 (.tmp 3)), none⟩, (some (.agg [(.int .i64), (.int .i64), .bool]))⟩, ⟨⟨(some 7), (.call (.func 107) [(.tmp 6)]), none⟩, none⟩, ⟨⟨(some 8), (.call (.func 57) [(.tmp 5), (.tmp 7)]), none⟩, none⟩, ⟨⟨none, (.st 3 (.tmp 4) (.tmp 8)), none⟩, none⟩]) .ret))
def rs_frac_Frac_Sub : List ResultVar := [(.cell 4 58)]
theorem ir_frac_Frac_Sub : compCode Try.prog (Try.f68.body.getD .skip) [] = some (xr_frac_Frac_Sub.erase, []) := by kernel_rfl
/-! frac_Frac_Sub -/
def gm_frac_Frac_Sub : Gam := (Gam.fn 107 as_frac_Frac_Neg ga_frac_Frac_Neg em_frac_Frac_Neg (Gam.fn 57 as_frac_Frac_Add ga_frac_Frac_Add em_frac_Frac_Add Gam.bot))
theorem gk_frac_Frac_Sub : GamOk Try.prog GG gm_frac_Frac_Sub := (GamOk.fn at_frac_Frac_Neg (GamOk.fn at_frac_Frac_Add GamOk.bot))
def lm_frac_Frac_Sub : Lam := fun _ j S kn ke => match j with
  | _ => .fail
/-- frac_Frac_Sub -/
def go_frac_Frac_Sub (n0 : Int) (n1 : Int) (b2 : Bool) (n3 : Int) (n4 : Int) (b5 : Bool) : Option (Int × Int × Bool) :=
  (go_frac_Frac_Neg n3 n4 b5).bind fun r6 =>
  (go_frac_Frac_Add n0 n1 b2 r6.1 r6.2.1 r6.2.2).bind fun r7 =>
  some (r7.1, r7.2.1, r7.2.2)
def em_frac_Frac_Sub (r : (Int × Int × Bool)) : PV := (.agg [(.int .i64 r.1), (.int .i64 r.2.1), (.bool r.2.2)])
def rh_frac_Frac_Sub : Shp := (.agg [(.int .i64), (.int .i64), .bool])
def ra_frac_Frac_Sub (v : PV) : (Int × Int × Bool) := ((v.subs.headD .nilSl).num, (v.subs.tail.headD .nilSl).num, (v.subs.tail.tail.headD .nilSl).tru)
def kf_frac_Frac_Sub (v : PV) : Tree (Int × Int × Bool) := .chk (rh_frac_Frac_Sub.ok v) (.leaf (ra_frac_Frac_Sub v))
theorem rn_frac_Frac_Sub (n0 : Int) (n1 : Int) (b2 : Bool) (n3 : Int) (n4 : Int) (b5 : Bool) : (ev GG gm_frac_Frac_Sub lm_frac_Frac_Sub xr_frac_Frac_Sub ⟨slots 9 0 [(0, .p (.agg [(.int .i64 n0), (.int .i64 n1), (.bool b2)])), (1, .p (.agg [(.int .i64 n3), (.int .i64 n4), (.bool b5)]))], []⟩ (fun S => finT Try.prog rs_frac_Frac_Sub S kf_frac_Frac_Sub) (retT Try.prog rs_frac_Frac_Sub kf_frac_Frac_Sub)).run = go_frac_Frac_Sub n0 n1 b2 n3 n4 b5 := by kernel_rfl
theorem ok_frac_Frac_Sub (n0 : Int) (n1 : Int) (b2 : Bool) (n3 : Int) (n4 : Int) (b5 : Bool) (r : (Int × Int × Bool)) (h : go_frac_Frac_Sub n0 n1 b2 n3 n4 b5 = some r) : FunEq Try.prog GG 68 [(.agg [(.int .i64 n0), (.int .i64 n1), (.bool b2)]), (.agg [(.int .i64 n3), (.int .i64 n4), (.bool b5)])] (em_frac_Frac_Sub r) :=
  fun_of_ev (x := xr_frac_Frac_Sub) (Λ := lm_frac_Frac_Sub) gk_frac_Frac_Sub [] Try.func68 rfl (by kernel_rfl) ir_frac_Frac_Sub (by kernel_rfl) (congrArg Array.toList Try.results68) Try.ntmps68 (⟨trivial, ⟨trivial, trivial⟩⟩) (leaf_of fun v => (by kernel_rfl : rh_frac_Frac_Sub.build v = em_frac_Frac_Sub (ra_frac_Frac_Sub v))) (by kernel_rfl) ((rn_frac_Frac_Sub n0 n1 b2 n3 n4 b5).trans h)
def as_frac_Frac_Sub : List Shp := [(.agg [(.int .i64), (.int .i64), .bool]), (.agg [(.int .i64), (.int .i64), .bool])]
def ga_frac_Frac_Sub (vs : List PV) : Option (Int × Int × Bool) := go_frac_Frac_Sub (((tls 0 vs).headD .nilSl).subs.headD .nilSl).num (((tls 0 vs).headD .nilSl).subs.tail.headD .nilSl).num (((tls 0 vs).headD .nilSl).subs.tail.tail.headD .nilSl).tru (((tls 1 vs).headD .nilSl).subs.headD .nilSl).num (((tls 1 vs).headD .nilSl).subs.tail.headD .nilSl).num (((tls 1 vs).headD .nilSl).subs.tail.tail.headD .nilSl).tru
theorem at_frac_Frac_Sub : FnAt Try.prog GG 68 as_frac_Frac_Sub ga_frac_Frac_Sub em_frac_Frac_Sub := fun vs h r hr => by
  have e : Shp.buildL as_frac_Frac_Sub vs = [(.agg [(.int .i64 (((tls 0 vs).headD .nilSl).subs.headD .nilSl).num), (.int .i64 (((tls 0 vs).headD .nilSl).subs.tail.headD .nilSl).num), (.bool (((tls 0 vs).headD .nilSl).subs.tail.tail.headD .nilSl).tru)]), (.agg [(.int .i64 (((tls 1 vs).headD .nilSl).subs.headD .nilSl).num), (.int .i64 (((tls 1 vs).headD .nilSl).subs.tail.headD .nilSl).num), (.bool (((tls 1 vs).headD .nilSl).subs.tail.tail.headD .nilSl).tru)])] := by kernel_rfl
  rw [← Shp.buildL_eq _ h, e]
  exact .inl ⟨by decide, ok_frac_Frac_Sub _ _ _ _ _ _ r hr⟩

def xr_vec_Sub_frac_Frac_1 : XR := (.seq (.ops false [⟨⟨(some 2), (.box 58 (.tmp 0)), none⟩, none⟩, ⟨⟨(some 3), (.box 58 (.tmp 1)), none⟩, none⟩, ⟨⟨(some 4), (.alloc 58 [(.int .i64 (0)), (.int .i64 (0)), (.bool false)]), none⟩, none⟩]) (.seq (.ops false [⟨⟨(some 5), (.ld true 3 (.tmp 2)), none⟩, (some (.agg [(.int .i64), (.int .i64), .bool]))⟩, ⟨⟨(some 6), (.mkI 58 (.tmp 5)), none⟩, none⟩, ⟨⟨(some 7), (.ld true 3 (.tmp 3)), none⟩, (some (.agg [(.int .i64), (.int .i64), .bool]))⟩, ⟨⟨(some 8), (.callI 68 58 (.tmp 6) [(.tmp 7)]), none⟩, none⟩, ⟨⟨none, (.st 3 (.tmp 4) (.tmp 8)), none⟩, none⟩]) .ret))
def rs_vec_Sub_frac_Frac_1 : List ResultVar := [(.cell 4 58)]
theorem ir_vec_Sub_frac_Frac_1 : compCode Try.prog (Try.f106.body.getD .skip) [] = some (xr_vec_Sub_frac_Frac_1.erase, []) := by kernel_rfl
/-! vec_Sub_frac_Frac_1 -/
def gm_vec_Sub_frac_Frac_1 : Gam := (Gam.fn 68 as_frac_Frac_Sub ga_frac_Frac_Sub em_frac_Frac_Sub Gam.bot)
theorem gk_vec_Sub_frac_Frac_1 : GamOk Try.prog GG gm_vec_Sub_frac_Frac_1 := (GamOk.fn at_frac_Frac_Sub GamOk.bot)
def lm_vec_Sub_frac_Frac_1 : Lam := fun _ j S kn ke => match j with
  | _ => .fail
/-- vec_Sub_frac_Frac_1 -/
def go_vec_Sub_frac_Frac_1 (n0 : Int) (n1 : Int) (b2 : Bool) (n3 : Int) (n4 : Int) (b5 : Bool) : Option (Int × Int × Bool) :=
  (go_frac_Frac_Sub n0 n1 b2 n3 n4 b5).bind fun r6 =>
  some (r6.1, r6.2.1, r6.2.2)
def em_vec_Sub_frac_Frac_1 (r : (Int × Int × Bool)) : PV := (.agg [(.int .i64 r.1), (.int .i64 r.2.1), (.bool r.2.2)])
def rh_vec_Sub_frac_Frac_1 : Shp := (.agg [(.int .i64), (.int .i64), .bool])
def ra_vec_Sub_frac_Frac_1 (v : PV) : (Int × Int × Bool) := ((v.subs.headD .nilSl).num, (v.subs.tail.headD .nilSl).num, (v.subs.tail.tail.headD .nilSl).tru)
def kf_vec_Sub_frac_Frac_1 (v : PV) : Tree (Int × Int × Bool) := .chk (rh_vec_Sub_frac_Frac_1.ok v) (.leaf (ra_vec_Sub_frac_Frac_1 v))
theorem rn_vec_Sub_frac_Frac_1 (n0 : Int) (n1 : Int) (b2 : Bool) (n3 : Int) (n4 : Int) (b5 : Bool) : (ev GG gm_vec_Sub_frac_Frac_1 lm_vec_Sub_frac_Frac_1 xr_vec_Sub_frac_Frac_1 ⟨slots 9 0 [(0, .p (.agg [(.int .i64 n0), (.int .i64 n1), (.bool b2)])), (1, .p (.agg [(.int .i64 n3), (.int .i64 n4), (.bool b5)]))], []⟩ (fun S => finT Try.prog rs_vec_Sub_frac_Frac_1 S kf_vec_Sub_frac_Frac_1) (retT Try.prog rs_vec_Sub_frac_Frac_1 kf_vec_Sub_frac_Frac_1)).run = go_vec_Sub_frac_Frac_1 n0 n1 b2 n3 n4 b5 := by kernel_rfl
theorem ok_vec_Sub_frac_Frac_1 (n0 : Int) (n1 : Int) (b2 : Bool) (n3 : Int) (n4 : Int) (b5 : Bool) (r : (Int × Int × Bool)) (h : go_vec_Sub_frac_Frac_1 n0 n1 b2 n3 n4 b5 = some r) : FunEq Try.prog GG 106 [(.agg [(.int .i64 n0), (.int .i64 n1), (.bool b2)]), (.agg [(.int .i64 n3), (.int .i64 n4), (.bool b5)])] (em_vec_Sub_frac_Frac_1 r) :=
  fun_of_ev (x := xr_vec_Sub_frac_Frac_1) (Λ := lm_vec_Sub_frac_Frac_1) gk_vec_Sub_frac_Frac_1 [] Try.func106 rfl (by kernel_rfl) ir_vec_Sub_frac_Frac_1 (by kernel_rfl) (congrArg Array.toList Try.results106) Try.ntmps106 (⟨trivial, ⟨trivial, trivial⟩⟩) (leaf_of fun v => (by kernel_rfl : rh_vec_Sub_frac_Frac_1.build v = em_vec_Sub_frac_Frac_1 (ra_vec_Sub_frac_Frac_1 v))) (by kernel_rfl) ((rn_vec_Sub_frac_Frac_1 n0 n1 b2 n3 n4 b5).trans h)
def as_vec_Sub_frac_Frac_1 : List Shp := [(.agg [(.int .i64), (.int .i64), .bool]), (.agg [(.int .i64), (.int .i64), .bool])]
def ga_vec_Sub_frac_Frac_1 (vs : List PV) : Option (Int × Int × Bool) := go_vec_Sub_frac_Frac_1 (((tls 0 vs).headD .nilSl).subs.headD .nilSl).num (((tls 0 vs).headD .nilSl).subs.tail.headD .nilSl).num (((tls 0 vs).headD .nilSl).subs.tail.tail.headD .nilSl).tru (((tls 1 vs).headD .nilSl).subs.headD .nilSl).num (((tls 1 vs).headD .nilSl).subs.tail.headD .nilSl).num (((tls 1 vs).headD .nilSl).subs.tail.tail.headD .nilSl).tru
theorem at_vec_Sub_frac_Frac_1 : FnAt Try.prog GG 106 as_vec_Sub_frac_Frac_1 ga_vec_Sub_frac_Frac_1 em_vec_Sub_frac_Frac_1 := fun vs h r hr => by
  have e : Shp.buildL as_vec_Sub_frac_Frac_1 vs = [(.agg [(.int .i64 (((tls 0 vs).headD .nilSl).subs.headD .nilSl).num), (.int .i64 (((tls 0 vs).headD .nilSl).subs.tail.headD .nilSl).num), (.bool (((tls 0 vs).headD .nilSl).subs.tail.tail.headD .nilSl).tru)]), (.agg [(.int .i64 (((tls 1 vs).headD .nilSl).subs.headD .nilSl).num), (.int .i64 (((tls 1 vs).headD .nilSl).subs.tail.headD .nilSl).num), (.bool (((tls 1 vs).headD .nilSl).subs.tail.tail.headD .nilSl).tru)])] := by kernel_rfl
  rw [← Shp.buildL_eq _ h, e]
  exact .inl ⟨by decide, ok_vec_Sub_frac_Frac_1 _ _ _ _ _ _ r hr⟩
/-! vec_of_frac_Frac -/
def gm_vec_of_frac_Frac_v2 : Gam := (Gam.fn 120 as_vec_Pairs_frac_Frac ga_vec_Pairs_frac_Frac em_vec_Pairs_frac_Frac (Gam.fn 106 as_vec_Sub_frac_Frac_1 ga_vec_Sub_frac_Frac_1 em_vec_Sub_frac_Frac_1 Gam.bot))
theorem gk_vec_of_frac_Frac_v2 : GamOk Try.prog GG gm_vec_of_frac_Frac_v2 := (GamOk.fn at_vec_Pairs_frac_Frac (GamOk.fn at_vec_Sub_frac_Frac_1 GamOk.bot))
def it_vec_of_frac_Frac_v2_0 (b7 : Bool) (b8 : Bool) (es9 : List PV) (b10 : Bool) (b11 : Bool) (es12 : List PV) (b13 : Bool) (b14 : Bool) (es15 : List PV) : Option (List (Int × Int × Bool × Int × Int × Bool)) := it_pairspF b7 b8 es9 b10 b11 es12
def cp_vec_of_frac_Frac_v2_0 (b7 : Bool) (b8 : Bool) (es9 : List PV) (b10 : Bool) (b11 : Bool) (es12 : List PV) (b13 : Bool) (b14 : Bool) (es15 : List PV) : List PV := [(.ref 0 [(.sl b7 b8 3 es9)]), (.ref 0 [(.sl b10 b11 3 es12)])]
def st_vec_of_frac_Frac_v2_0 (b7 : Bool) (b8 : Bool) (es9 : List PV) (b10 : Bool) (b11 : Bool) (es12 : List PV) (b13 : Bool) (b14 : Bool) (es15 : List PV) (u16 : (Int × Int × Bool × Int × Int × Bool)) : Option (((Bool × Bool × List PV × Bool × Bool × List PV × Bool × Bool × List PV)) ⊕ (Unit)) :=
  (go_vec_Sub_frac_Frac_1 u16.1 u16.2.1 u16.2.2.1 u16.2.2.2.1 u16.2.2.2.2.1 u16.2.2.2.2.2).bind fun r17 =>
  bif (decide ((((List.length es15) + 1) * 24) ≤ 140737488355328)) then
   bif (decide (((List.length es15) + 1) ≤ 4611686018427387904)) then
    some (Sum.inl (b7, b8, es9, b10, b11, es12, (b13 && false), false, (es15 ++ [(.agg [(.int .i64 r17.1), (.int .i64 r17.2.1), (.bool r17.2.2)])])))
   else none
  else none
def lp_vec_of_frac_Frac_v2_0 (b7 : Bool) (b8 : Bool) (es9 : List PV) (b10 : Bool) (b11 : Bool) (es12 : List PV) (b13 : Bool) (b14 : Bool) (es15 : List PV) : Option (((Bool × Bool × List PV × Bool × Bool × List PV × Bool × Bool × List PV)) ⊕ (Unit)) := (it_vec_of_frac_Frac_v2_0 b7 b8 es9 b10 b11 es12 b13 b14 es15).bind fun is => foldS (X := (Bool × Bool × List PV × Bool × Bool × List PV × Bool × Bool × List PV)) (fun x i => st_vec_of_frac_Frac_v2_0 x.1 x.2.1 x.2.2.1 x.2.2.2.1 x.2.2.2.2.1 x.2.2.2.2.2.1 x.2.2.2.2.2.2.1 x.2.2.2.2.2.2.2.1 x.2.2.2.2.2.2.2.2 i) is (b7, b8, es9, b10, b11, es12, b13, b14, es15)
def sh_vec_of_frac_Frac_v2_0 : StSh := ⟨23, [(5, (.ptr 0 0)), (7, (.ptr 1 0)), (12, (.p (.fn 124 [(.ref 0 [(.sl 3)]), (.ref 0 [(.sl 3)])])))], [(.box 99 [(.p (.fn 106 []))]), (.box 55 [(.row 2)]), (.row 58 3)]⟩
def sx_vec_of_frac_Frac_v2_0 (x : (Bool × Bool × List PV × Bool × Bool × List PV × Bool × Bool × List PV)) : St := ⟨slots 23 0 [(5, (.ptr 0 0)), (7, (.ptr 1 0)), (12, (.p (.fn 124 [(.ref 0 [(.sl x.1 x.2.1 3 x.2.2.1)]), (.ref 0 [(.sl x.2.2.2.1 x.2.2.2.2.1 3 x.2.2.2.2.2.1)])])))], [(.box 99 [(.p (.fn 106 []))]), (.box 55 [(.row 2)]), (.row 58 3 x.2.2.2.2.2.2.1 x.2.2.2.2.2.2.2.1 x.2.2.2.2.2.2.2.2)]⟩
def sa_vec_of_frac_Frac_v2_0 (S : St) : (Bool × Bool × List PV × Bool × Bool × List PV × Bool × Bool × List PV) := (((((tls 12 S.t).headD .any).pv.subs.headD .nilSl).subs.headD .nilSl).nl, ((((tls 12 S.t).headD .any).pv.subs.headD .nilSl).subs.headD .nilSl).ex, ((((tls 12 S.t).headD .any).pv.subs.headD .nilSl).subs.headD .nilSl).elts, ((((tls 12 S.t).headD .any).pv.subs.tail.headD .nilSl).subs.headD .nilSl).nl, ((((tls 12 S.t).headD .any).pv.subs.tail.headD .nilSl).subs.headD .nilSl).ex, ((((tls 12 S.t).headD .any).pv.subs.tail.headD .nilSl).subs.headD .nilSl).elts, ((tls 2 S.own).headD .gone).pvD.nl, ((tls 2 S.own).headD .gone).pvD.ex, ((tls 2 S.own).headD .gone).pvD.elts)
def kb_vec_of_frac_Frac_v2_0 : Exit → St → Tree (((Bool × Bool × List PV × Bool × Bool × List PV × Bool × Bool × List PV)) ⊕ (Unit)) := exNil
def ky_vec_of_frac_Frac_v2_0 : Dec (Unit) := fun _ y ke => .fail
theorem kk_vec_of_frac_Frac_v2_0 : ExOk Sum.inr kb_vec_of_frac_Frac_v2_0 ky_vec_of_frac_Frac_v2_0 := ExOk.nil
def lm_vec_of_frac_Frac_v2 : Lam := fun _ j S kn ke => match j with
  | 0 => prepT [5, 7, 12] [(100700, 58)] S fun S => .chk (sh_vec_of_frac_Frac_v2_0.ok S) (.bind ((fun x => (it_vec_of_frac_Frac_v2_0 x.1 x.2.1 x.2.2.1 x.2.2.2.1 x.2.2.2.2.1 x.2.2.2.2.2.1 x.2.2.2.2.2.2.1 x.2.2.2.2.2.2.2.1 x.2.2.2.2.2.2.2.2).bind fun is => foldS (X := (Bool × Bool × List PV × Bool × Bool × List PV × Bool × Bool × List PV)) (fun x i => st_vec_of_frac_Frac_v2_0 x.1 x.2.1 x.2.2.1 x.2.2.2.1 x.2.2.2.2.1 x.2.2.2.2.2.1 x.2.2.2.2.2.2.1 x.2.2.2.2.2.2.2.1 x.2.2.2.2.2.2.2.2 i) is x) (sa_vec_of_frac_Frac_v2_0 S)) fun r => .sum r (fun x => kn (sx_vec_of_frac_Frac_v2_0 x)) (fun y => ky_vec_of_frac_Frac_v2_0 _ y ke))
  | _ => .fail
theorem sr_vec_of_frac_Frac_v2_0 (x : (Bool × Bool × List PV × Bool × Bool × List PV × Bool × Bool × List PV)) (i : (Int × Int × Bool × Int × Int × Bool)) : (ev GG gm_vec_of_frac_Frac_v2 lm_vec_of_frac_Frac_v2 xa_vec_of_frac_Frac_0 ⟨setL (sx_vec_of_frac_Frac_v2_0 x).t [13, 14] (ie_pairspF i), (sx_vec_of_frac_Frac_v2_0 x).own⟩ (fun S1 => ev GG gm_vec_of_frac_Frac_v2 lm_vec_of_frac_Frac_v2 xb_vec_of_frac_Frac_0 S1 (fun S => forgetT [5, 7, 12] ⟨(sx_vec_of_frac_Frac_v2_0 x).t, S.own⟩ fun S => prepT [5, 7, 12] [(100700, 58)] S fun S => .chk (sh_vec_of_frac_Frac_v2_0.ok S) (.leaf (.inl (sa_vec_of_frac_Frac_v2_0 S)))) (fun e S => kb_vec_of_frac_Frac_v2_0 e ⟨(sx_vec_of_frac_Frac_v2_0 x).t, S.own⟩)) (fun _ _ => .fail)).run = st_vec_of_frac_Frac_v2_0 x.1 x.2.1 x.2.2.1 x.2.2.2.1 x.2.2.2.2.1 x.2.2.2.2.2.1 x.2.2.2.2.2.2.1 x.2.2.2.2.2.2.2.1 x.2.2.2.2.2.2.2.2 i := by kernel_rfl
theorem la_vec_of_frac_Frac_v2_0 : LamAt Try.prog GG lm_vec_of_frac_Frac_v2 0 (.rangeF xf_vec_of_frac_Frac_0 [13, 14] xa_vec_of_frac_Frac_0.erase xb_vec_of_frac_Frac_0.erase) := lam_range (asg := xa_vec_of_frac_Frac_0) (bdy := xb_vec_of_frac_Frac_0) (Λ0 := lm_vec_of_frac_Frac_v2) gk_vec_of_frac_Frac_v2 (by kernel_rfl) (by kernel_rfl) (fun S => (by kernel_rfl : sh_vec_of_frac_Frac_v2_0.build S = sx_vec_of_frac_Frac_v2_0 (sa_vec_of_frac_Frac_v2_0 S))) (caps := fun x => cp_vec_of_frac_Frac_v2_0 x.1 x.2.1 x.2.2.1 x.2.2.2.1 x.2.2.2.2.1 x.2.2.2.2.2.1 x.2.2.2.2.2.2.1 x.2.2.2.2.2.2.2.1 x.2.2.2.2.2.2.2.2) (fun x => (by kernel_rfl : evS GG (sx_vec_of_frac_Frac_v2_0 x) xf_vec_of_frac_Frac_0 = .p (.fn 124 (cp_vec_of_frac_Frac_v2_0 x.1 x.2.1 x.2.2.1 x.2.2.2.1 x.2.2.2.2.1 x.2.2.2.2.2.1 x.2.2.2.2.2.2.1 x.2.2.2.2.2.2.2.1 x.2.2.2.2.2.2.2.2)))) (its := fun x => it_vec_of_frac_Frac_v2_0 x.1 x.2.1 x.2.2.1 x.2.2.2.1 x.2.2.2.2.1 x.2.2.2.2.2.1 x.2.2.2.2.2.2.1 x.2.2.2.2.2.2.2.1 x.2.2.2.2.2.2.2.2) (emb := ie_pairspF) (fun i => rfl) (fun x is h => sq_pairspF _ _ _ _ _ _ is h) (step := fun x i => st_vec_of_frac_Frac_v2_0 x.1 x.2.1 x.2.2.1 x.2.2.2.1 x.2.2.2.2.1 x.2.2.2.2.2.1 x.2.2.2.2.2.2.1 x.2.2.2.2.2.2.2.1 x.2.2.2.2.2.2.2.2 i) kk_vec_of_frac_Frac_v2_0 sr_vec_of_frac_Frac_v2_0 (fun _ _ _ => rfl)
/-- vec_of_frac_Frac -/
def go_vec_of_frac_Frac_v2 (b0 : Bool) (b1 : Bool) (es2 : List PV) (b3 : Bool) (b4 : Bool) (es5 : List PV) : Option (Bool × Bool × List PV) :=
  (go_vec_Pairs_frac_Frac b0 b1 es2 b3 b4 es5).bind fun r6 =>
  (lp_vec_of_frac_Frac_v2_0 r6.1 r6.2.1 r6.2.2.1 r6.2.2.2.1 r6.2.2.2.2.1 r6.2.2.2.2.2 true true []).bind fun y18 =>
  Sum.elim (fun z19 =>
   some (z19.2.2.2.2.2.2.1, z19.2.2.2.2.2.2.2.1, z19.2.2.2.2.2.2.2.2)) (fun u_ =>
   none) y18
def em_vec_of_frac_Frac_v2 (r : (Bool × Bool × List PV)) : PV := (.sl r.1 r.2.1 3 r.2.2)
def rh_vec_of_frac_Frac_v2 : Shp := (.sl 3)
def ra_vec_of_frac_Frac_v2 (v : PV) : (Bool × Bool × List PV) := (v.nl, v.ex, v.elts)
def kf_vec_of_frac_Frac_v2 (v : PV) : Tree (Bool × Bool × List PV) := .chk (rh_vec_of_frac_Frac_v2.ok v) (.leaf (ra_vec_of_frac_Frac_v2 v))
theorem rn_vec_of_frac_Frac_v2 (b0 : Bool) (b1 : Bool) (es2 : List PV) (b3 : Bool) (b4 : Bool) (es5 : List PV) : (ev GG gm_vec_of_frac_Frac_v2 lm_vec_of_frac_Frac_v2 xr_vec_of_frac_Frac ⟨slots 23 0 [(0, .p (.sl b0 b1 3 es2)), (1, .p (.sl b3 b4 3 es5)), (2, .p (.fn 106 []))], []⟩ (fun S => finT Try.prog rs_vec_of_frac_Frac S kf_vec_of_frac_Frac_v2) (retT Try.prog rs_vec_of_frac_Frac kf_vec_of_frac_Frac_v2)).run = go_vec_of_frac_Frac_v2 b0 b1 es2 b3 b4 es5 := by kernel_rfl
theorem ok_vec_of_frac_Frac_v2 (b0 : Bool) (b1 : Bool) (es2 : List PV) (b3 : Bool) (b4 : Bool) (es5 : List PV) (r : (Bool × Bool × List PV)) (h : go_vec_of_frac_Frac_v2 b0 b1 es2 b3 b4 es5 = some r) : FunEq Try.prog GG 100 [(.sl b0 b1 3 es2), (.sl b3 b4 3 es5), (.fn 106 [])] (em_vec_of_frac_Frac_v2 r) :=
  fun_of_ev (x := xr_vec_of_frac_Frac) (Λ := lm_vec_of_frac_Frac_v2) gk_vec_of_frac_Frac_v2 [] Try.func100 rfl (by kernel_rfl) ir_vec_of_frac_Frac (by kernel_rfl) (congrArg Array.toList Try.results100) Try.ntmps100 (⟨trivial, ⟨trivial, ⟨⟨trivial, la_vec_of_frac_Frac_v2_0⟩, ⟨trivial, trivial⟩⟩⟩⟩) (leaf_of fun v => (by kernel_rfl : rh_vec_of_frac_Frac_v2.build v = em_vec_of_frac_Frac_v2 (ra_vec_of_frac_Frac_v2 v))) (by kernel_rfl) ((rn_vec_of_frac_Frac_v2 b0 b1 es2 b3 b4 es5).trans h)
def as_vec_of_frac_Frac_v2 : List Shp := [(.sl 3), (.sl 3), (.fn 106 [])]
def ga_vec_of_frac_Frac_v2 (vs : List PV) : Option (Bool × Bool × List PV) := go_vec_of_frac_Frac_v2 ((tls 0 vs).headD .nilSl).nl ((tls 0 vs).headD .nilSl).ex ((tls 0 vs).headD .nilSl).elts ((tls 1 vs).headD .nilSl).nl ((tls 1 vs).headD .nilSl).ex ((tls 1 vs).headD .nilSl).elts
theorem at_vec_of_frac_Frac_v2 : FnAt Try.prog GG 100 as_vec_of_frac_Frac_v2 ga_vec_of_frac_Frac_v2 em_vec_of_frac_Frac_v2 := fun vs h r hr => by
  have e : Shp.buildL as_vec_of_frac_Frac_v2 vs = [(.sl ((tls 0 vs).headD .nilSl).nl ((tls 0 vs).headD .nilSl).ex 3 ((tls 0 vs).headD .nilSl).elts), (.sl ((tls 1 vs).headD .nilSl).nl ((tls 1 vs).headD .nilSl).ex 3 ((tls 1 vs).headD .nilSl).elts), (.fn 106 [])] := by kernel_rfl
  rw [← Shp.buildL_eq _ h, e]
  exact .inl ⟨by decide, ok_vec_of_frac_Frac_v2 _ _ _ _ _ _ r hr⟩

def xr_vec_Sub_frac_Frac : XR := (.seq (.ops false [⟨⟨(some 4), (.mv (.c (.sl true true 3 []))), none⟩, none⟩]) (.seq (.ops false [⟨⟨(some 5), (.mv (.tmp 0)), none⟩, none⟩, ⟨⟨(some 6), (.mv (.tmp 1)), none⟩, none⟩, ⟨⟨(some 7), (.call (.func 100) [(.tmp 5), (.tmp 6), (.func 106)]), none⟩, none⟩, ⟨⟨(some 4), (.mv (.tmp 7)), none⟩, none⟩]) .ret))
def rs_vec_Sub_frac_Frac : List ResultVar := [(.tmp 4)]
theorem ir_vec_Sub_frac_Frac : compCode Try.prog (Try.f65.body.getD .skip) [] = some (xr_vec_Sub_frac_Frac.erase, []) := by kernel_rfl
/-! vec_Sub_frac_Frac -/
def gm_vec_Sub_frac_Frac : Gam := (Gam.fn 100 as_vec_of_frac_Frac_v2 ga_vec_of_frac_Frac_v2 em_vec_of_frac_Frac_v2 Gam.bot)
theorem gk_vec_Sub_frac_Frac : GamOk Try.prog GG gm_vec_Sub_frac_Frac := (GamOk.fn at_vec_of_frac_Frac_v2 GamOk.bot)
def lm_vec_Sub_frac_Frac : Lam := fun _ j S kn ke => match j with
  | _ => .fail
/-- vec_Sub_frac_Frac -/
def go_vec_Sub_frac_Frac (b0 : Bool) (b1 : Bool) (es2 : List PV) (b3 : Bool) (b4 : Bool) (es5 : List PV) : Option (Bool × Bool × List PV) :=
  (go_vec_of_frac_Frac_v2 b0 b1 es2 b3 b4 es5).bind fun r6 =>
  some (r6.1, r6.2.1, r6.2.2)
def em_vec_Sub_frac_Frac (r : (Bool × Bool × List PV)) : PV := (.sl r.1 r.2.1 3 r.2.2)
def rh_vec_Sub_frac_Frac : Shp := (.sl 3)
def ra_vec_Sub_frac_Frac (v : PV) : (Bool × Bool × List PV) := (v.nl, v.ex, v.elts)
def kf_vec_Sub_frac_Frac (v : PV) : Tree (Bool × Bool × List PV) := .chk (rh_vec_Sub_frac_Frac.ok v) (.leaf (ra_vec_Sub_frac_Frac v))
theorem rn_vec_Sub_frac_Frac (b0 : Bool) (b1 : Bool) (es2 : List PV) (b3 : Bool) (b4 : Bool) (es5 : List PV) : (ev GG gm_vec_Sub_frac_Frac lm_vec_Sub_frac_Frac xr_vec_Sub_frac_Frac ⟨slots 8 0 [(0, .p (.sl b0 b1 3 es2)), (1, .p (.sl b3 b4 3 es5))], []⟩ (fun S => finT Try.prog rs_vec_Sub_frac_Frac S kf_vec_Sub_frac_Frac) (retT Try.prog rs_vec_Sub_frac_Frac kf_vec_Sub_frac_Frac)).run = go_vec_Sub_frac_Frac b0 b1 es2 b3 b4 es5 := by kernel_rfl
theorem ok_vec_Sub_frac_Frac (b0 : Bool) (b1 : Bool) (es2 : List PV) (b3 : Bool) (b4 : Bool) (es5 : List PV) (r : (Bool × Bool × List PV)) (h : go_vec_Sub_frac_Frac b0 b1 es2 b3 b4 es5 = some r) : FunEq Try.prog GG 65 [(.sl b0 b1 3 es2), (.sl b3 b4 3 es5)] (em_vec_Sub_frac_Frac r) :=
  fun_of_ev (x := xr_vec_Sub_frac_Frac) (Λ := lm_vec_Sub_frac_Frac) gk_vec_Sub_frac_Frac [] Try.func65 rfl (by kernel_rfl) ir_vec_Sub_frac_Frac (by kernel_rfl) (congrArg Array.toList Try.results65) Try.ntmps65 (⟨trivial, ⟨trivial, trivial⟩⟩) (leaf_of fun v => (by kernel_rfl : rh_vec_Sub_frac_Frac.build v = em_vec_Sub_frac_Frac (ra_vec_Sub_frac_Frac v))) (by kernel_rfl) ((rn_vec_Sub_frac_Frac b0 b1 es2 b3 b4 es5).trans h)
def as_vec_Sub_frac_Frac : List Shp := [(.sl 3), (.sl 3)]
def ga_vec_Sub_frac_Frac (vs : List PV) : Option (Bool × Bool × List PV) := go_vec_Sub_frac_Frac ((tls 0 vs).headD .nilSl).nl ((tls 0 vs).headD .nilSl).ex ((tls 0 vs).headD .nilSl).elts ((tls 1 vs).headD .nilSl).nl ((tls 1 vs).headD .nilSl).ex ((tls 1 vs).headD .nilSl).elts
theorem at_vec_Sub_frac_Frac : FnAt Try.prog GG 65 as_vec_Sub_frac_Frac ga_vec_Sub_frac_Frac em_vec_Sub_frac_Frac := fun vs h r hr => by
  have e : Shp.buildL as_vec_Sub_frac_Frac vs = [(.sl ((tls 0 vs).headD .nilSl).nl ((tls 0 vs).headD .nilSl).ex 3 ((tls 0 vs).headD .nilSl).elts), (.sl ((tls 1 vs).headD .nilSl).nl ((tls 1 vs).headD .nilSl).ex 3 ((tls 1 vs).headD .nilSl).elts)] := by kernel_rfl
  rw [← Shp.buildL_eq _ h, e]
  exact .inl ⟨by decide, ok_vec_Sub_frac_Frac _ _ _ _ _ _ r hr⟩

def xb_vec_Scale_frac_Frac_0 : XR := (.seq (.ops false [⟨⟨(some 11), (.bin .lss (.tmp 10) (.tmp 9)), none⟩, none⟩]) (.seq (.cond (.tmp 11) .skip (.exit 0)) (.seq (.block 1 (.seq (.ops false [⟨⟨(some 12), (.ixA 3 (.tmp 8) (.tmp 10)), none⟩, none⟩, ⟨⟨(some 13), (.ld true 3 (.tmp 12)), none⟩, (some (.agg [(.int .i64), (.int .i64), .bool]))⟩, ⟨⟨(some 7), (.alloc 58 [(.int .i64 (0)), (.int .i64 (0)), (.bool false)]), none⟩, none⟩, ⟨⟨none, (.st 3 (.tmp 7) (.tmp 13)), none⟩, none⟩]) (.ops false [⟨⟨(some 14), (.mv (.tmp 5)), none⟩, none⟩, ⟨⟨(some 15), (.ld true 3 (.tmp 7)), none⟩, (some (.agg [(.int .i64), (.int .i64), .bool]))⟩, ⟨⟨(some 16), (.mkI 58 (.tmp 15)), none⟩, none⟩, ⟨⟨(some 17), (.ld true 3 (.tmp 3)), none⟩, (some (.agg [(.int .i64), (.int .i64), .bool]))⟩, ⟨⟨(some 18), (.callI 69 58 (.tmp 16) [(.tmp 17)]), none⟩, none⟩, ⟨⟨(some 19), (.bsl 58 none 3 [(.tmp 18)]), none⟩, none⟩, ⟨⟨(some 20), (.app 58 none 3 24 (.tmp 14) (.tmp 19)), none⟩, none⟩, ⟨⟨(some 5), (.mv (.tmp 20)), none⟩, none⟩]))) (.ops false [⟨⟨(some 21), (.bin .add (.tmp 10) (.c (.int .i64 (1)))), none⟩, none⟩, ⟨⟨(some 10), (.mv (.tmp 21)), none⟩, none⟩]))))
def xr_vec_Scale_frac_Frac : XR := (.seq (.ops false [⟨⟨(some 3), (.box 58 (.tmp 1)), none⟩, none⟩, ⟨⟨(some 4), (.mv (.c (.sl true true 3 []))), none⟩, none⟩]) (.seq (.ops false [⟨⟨(some 5), (.mv (.c (.sl true true 3 []))), none⟩, none⟩]) (.seq (.seq (.ops false [⟨⟨(some 8), (.mv (.tmp 0)), none⟩, none⟩, ⟨⟨(some 9), (.len (.tmp 8)), none⟩, none⟩, ⟨⟨(some 10), (.mv (.c (.int .i64 (0)))), none⟩, none⟩]) (.block 0 (.loop 0 [3, 5, 8, 9, 10] xb_vec_Scale_frac_Frac_0))) (.seq (.ops false [⟨⟨(some 22), (.mv (.tmp 5)), none⟩, none⟩, ⟨⟨(some 4), (.mv (.tmp 22)), none⟩, none⟩]) .ret))))
def rs_vec_Scale_frac_Frac : List ResultVar := [(.tmp 4)]
theorem ir_vec_Scale_frac_Frac : compCode Try.prog (Try.f66.body.getD .skip) [[3, 5, 8, 9, 10]] = some (xr_vec_Scale_frac_Frac.erase, []) := by kernel_rfl
/-! vec_Scale_frac_Frac -/
def gm_vec_Scale_frac_Frac : Gam := (Gam.fn 69 as_frac_Frac_Mul ga_frac_Frac_Mul em_frac_Frac_Mul Gam.bot)
theorem gk_vec_Scale_frac_Frac : GamOk Try.prog GG gm_vec_Scale_frac_Frac := (GamOk.fn at_frac_Frac_Mul GamOk.bot)
def st_vec_Scale_frac_Frac_0 (b6 : Bool) (b7 : Bool) (es8 : List PV) (n9 : Int) (n10 : Int) (n11 : Int) (n12 : Int) (b13 : Bool) (b14 : Bool) (b15 : Bool) (es16 : List PV) : Option (((Bool × Bool × List PV × Int × Int × Int × Int × Bool × Bool × Bool × List PV)) ⊕ (((Bool × Bool × List PV)))) :=
  bif (decide (n10 < n9)) then
   bif (decide (0 ≤ n10)) then
    bif (decide (n10 < (((List.length es8) : Nat) : Int))) then
     bif (decide ((Int.toNat n10) < (List.length es8))) then
      bif (decide ((List.length (PV.cells (List.getD es8 (Int.toNat n10) .nilSl))) = 3)) then
       bif (Shp.ok (.agg [(.int .i64), (.int .i64), .bool]) (.agg (PV.cells (List.getD es8 (Int.toNat n10) .nilSl)))) then
        (go_frac_Frac_Mul (PV.num (List.headD (PV.subs (.agg (PV.cells (List.getD es8 (Int.toNat n10) .nilSl)))) .nilSl)) (PV.num (List.headD (List.tail (PV.subs (.agg (PV.cells (List.getD es8 (Int.toNat n10) .nilSl))))) .nilSl)) (PV.tru (List.headD (List.tail (List.tail (PV.subs (.agg (PV.cells (List.getD es8 (Int.toNat n10) .nilSl)))))) .nilSl)) n11 n12 b13).bind fun r17 =>
        bif (decide ((((List.length es16) + 1) * 24) ≤ 140737488355328)) then
         bif (decide (((List.length es16) + 1) ≤ 4611686018427387904)) then
          some (Sum.inl (b6, b7, es8, n9, (IntKind.wrap .i64 (n10 + 1)), n11, n12, b13, (b14 && false), false, (es16 ++ [(.agg [(.int .i64 r17.1), (.int .i64 r17.2.1), (.bool r17.2.2)])])))
         else none
        else none
       else none
      else none
     else none
    else none
   else none
  else
   some (Sum.inr (b14, b15, es16))
def lp_vec_Scale_frac_Frac_0 (b6 : Bool) (b7 : Bool) (es8 : List PV) (n9 : Int) (n10 : Int) (n11 : Int) (n12 : Int) (b13 : Bool) (b14 : Bool) (b15 : Bool) (es16 : List PV) : Option (((Bool × Bool × List PV))) := loopN (X := (Bool × Bool × List PV × Int × Int × Int × Int × Bool × Bool × Bool × List PV)) (fun x => st_vec_Scale_frac_Frac_0 x.1 x.2.1 x.2.2.1 x.2.2.2.1 x.2.2.2.2.1 x.2.2.2.2.2.1 x.2.2.2.2.2.2.1 x.2.2.2.2.2.2.2.1 x.2.2.2.2.2.2.2.2.1 x.2.2.2.2.2.2.2.2.2.1 x.2.2.2.2.2.2.2.2.2.2) (b6, b7, es8, n9, n10, n11, n12, b13, b14, b15, es16)
def sh_vec_Scale_frac_Frac_0 : StSh := ⟨23, [(3, (.ptr 0 0)), (5, (.row 1)), (8, (.p (.sl 3))), (9, (.p (.int .i64))), (10, (.p (.int .i64)))], [(.box 58 [(.p (.int .i64)), (.p (.int .i64)), (.p .bool)]), (.row 58 3)]⟩
def sx_vec_Scale_frac_Frac_0 (x : (Bool × Bool × List PV × Int × Int × Int × Int × Bool × Bool × Bool × List PV)) : St := ⟨slots 23 0 [(3, (.ptr 0 0)), (5, (.row 1)), (8, (.p (.sl x.1 x.2.1 3 x.2.2.1))), (9, (.p (.int .i64 x.2.2.2.1))), (10, (.p (.int .i64 x.2.2.2.2.1)))], [(.box 58 [(.p (.int .i64 x.2.2.2.2.2.1)), (.p (.int .i64 x.2.2.2.2.2.2.1)), (.p (.bool x.2.2.2.2.2.2.2.1))]), (.row 58 3 x.2.2.2.2.2.2.2.2.1 x.2.2.2.2.2.2.2.2.2.1 x.2.2.2.2.2.2.2.2.2.2)]⟩
def sa_vec_Scale_frac_Frac_0 (S : St) : (Bool × Bool × List PV × Int × Int × Int × Int × Bool × Bool × Bool × List PV) := (((tls 8 S.t).headD .any).pv.nl, ((tls 8 S.t).headD .any).pv.ex, ((tls 8 S.t).headD .any).pv.elts, ((tls 9 S.t).headD .any).pv.num, ((tls 10 S.t).headD .any).pv.num, (((tls 0 S.own).headD .gone).subs.headD .any).pv.num, (((tls 0 S.own).headD .gone).subs.tail.headD .any).pv.num, (((tls 0 S.own).headD .gone).subs.tail.tail.headD .any).pv.tru, ((tls 1 S.own).headD .gone).pvD.nl, ((tls 1 S.own).headD .gone).pvD.ex, ((tls 1 S.own).headD .gone).pvD.elts)
def tz_vec_Scale_frac_Frac_0_0 : StSh := ⟨23, [(5, (.row 0))], [(.row 58 3)]⟩
def tx_vec_Scale_frac_Frac_0_0 (x : (Bool × Bool × List PV)) : St := ⟨slots 23 0 [(5, (.row 0))], [(.row 58 3 x.1 x.2.1 x.2.2)]⟩
def ta_vec_Scale_frac_Frac_0_0 (S : St) : (Bool × Bool × List PV) := (((tls 0 S.own).headD .gone).pvD.nl, ((tls 0 S.own).headD .gone).pvD.ex, ((tls 0 S.own).headD .gone).pvD.elts)
def kb_vec_Scale_frac_Frac_0 : Exit → St → Tree (((Bool × Bool × List PV × Int × Int × Int × Int × Bool × Bool × Bool × List PV)) ⊕ (((Bool × Bool × List PV)))) := (exOne (.exit 0) [5] tz_vec_Scale_frac_Frac_0_0 ta_vec_Scale_frac_Frac_0_0 (fun y => Sum.inr (y)) exNil)
def ky_vec_Scale_frac_Frac_0 : Dec (((Bool × Bool × List PV))) := fun _ y ke => ke ((.exit 0) : EK).ex (tx_vec_Scale_frac_Frac_0_0 y)
theorem kk_vec_Scale_frac_Frac_0 : ExOk Sum.inr kb_vec_Scale_frac_Frac_0 ky_vec_Scale_frac_Frac_0 := (ExOk.one (acc := ta_vec_Scale_frac_Frac_0_0) (bY := tx_vec_Scale_frac_Frac_0_0) (inj1 := fun y => y) (fun S => by kernel_rfl) (fun y _ ke => .inr (by kernel_rfl)) ExOk.nil)
def lm_vec_Scale_frac_Frac : Lam := fun _ j S kn ke => match j with
  | 0 => prepT [3, 5, 8, 9, 10] [(5, 58)] S fun S => .chk (sh_vec_Scale_frac_Frac_0.ok S) (.bind (loopN (fun x => st_vec_Scale_frac_Frac_0 x.1 x.2.1 x.2.2.1 x.2.2.2.1 x.2.2.2.2.1 x.2.2.2.2.2.1 x.2.2.2.2.2.2.1 x.2.2.2.2.2.2.2.1 x.2.2.2.2.2.2.2.2.1 x.2.2.2.2.2.2.2.2.2.1 x.2.2.2.2.2.2.2.2.2.2) (sa_vec_Scale_frac_Frac_0 S)) fun y => ky_vec_Scale_frac_Frac_0 _ y ke)
  | _ => .fail
theorem sr_vec_Scale_frac_Frac_0 (x : (Bool × Bool × List PV × Int × Int × Int × Int × Bool × Bool × Bool × List PV)) : (ev GG gm_vec_Scale_frac_Frac lm_vec_Scale_frac_Frac xb_vec_Scale_frac_Frac_0 (sx_vec_Scale_frac_Frac_0 x) (fun S => forgetT [3, 5, 8, 9, 10] S fun S => prepT [3, 5, 8, 9, 10] [(5, 58)] S fun S => .chk (sh_vec_Scale_frac_Frac_0.ok S) (.leaf (.inl (sa_vec_Scale_frac_Frac_0 S)))) kb_vec_Scale_frac_Frac_0).run = st_vec_Scale_frac_Frac_0 x.1 x.2.1 x.2.2.1 x.2.2.2.1 x.2.2.2.2.1 x.2.2.2.2.2.1 x.2.2.2.2.2.2.1 x.2.2.2.2.2.2.2.1 x.2.2.2.2.2.2.2.2.1 x.2.2.2.2.2.2.2.2.2.1 x.2.2.2.2.2.2.2.2.2.2 := by kernel_rfl
theorem la_vec_Scale_frac_Frac_0 : LamAt Try.prog GG lm_vec_Scale_frac_Frac 0 (.loop [3, 5, 8, 9, 10] xb_vec_Scale_frac_Frac_0.erase) := lam_loop (body := xb_vec_Scale_frac_Frac_0) (Λ' := lm_vec_Scale_frac_Frac) gk_vec_Scale_frac_Frac (⟨trivial, ⟨⟨trivial, trivial⟩, ⟨⟨trivial, trivial⟩, trivial⟩⟩⟩) (fun S => (by kernel_rfl : sh_vec_Scale_frac_Frac_0.build S = sx_vec_Scale_frac_Frac_0 (sa_vec_Scale_frac_Frac_0 S))) kk_vec_Scale_frac_Frac_0 sr_vec_Scale_frac_Frac_0 (fun _ _ _ => rfl)
/-- vec_Scale_frac_Frac -/
def go_vec_Scale_frac_Frac (b0 : Bool) (b1 : Bool) (es2 : List PV) (n3 : Int) (n4 : Int) (b5 : Bool) : Option (Bool × Bool × List PV) :=
  (lp_vec_Scale_frac_Frac_0 b0 b1 es2 (((List.length es2) : Nat) : Int) 0 n3 n4 b5 true true []).bind fun y18 =>
  some (y18.1, y18.2.1, y18.2.2)
def em_vec_Scale_frac_Frac (r : (Bool × Bool × List PV)) : PV := (.sl r.1 r.2.1 3 r.2.2)
def rh_vec_Scale_frac_Frac : Shp := (.sl 3)
def ra_vec_Scale_frac_Frac (v : PV) : (Bool × Bool × List PV) := (v.nl, v.ex, v.elts)
def kf_vec_Scale_frac_Frac (v : PV) : Tree (Bool × Bool × List PV) := .chk (rh_vec_Scale_frac_Frac.ok v) (.leaf (ra_vec_Scale_frac_Frac v))
theorem rn_vec_Scale_frac_Frac (b0 : Bool) (b1 : Bool) (es2 : List PV) (n3 : Int) (n4 : Int) (b5 : Bool) : (ev GG gm_vec_Scale_frac_Frac lm_vec_Scale_frac_Frac xr_vec_Scale_frac_Frac ⟨slots 23 0 [(0, .p (.sl b0 b1 3 es2)), (1, .p (.agg [(.int .i64 n3), (.int .i64 n4), (.bool b5)]))], []⟩ (fun S => finT Try.prog rs_vec_Scale_frac_Frac S kf_vec_Scale_frac_Frac) (retT Try.prog rs_vec_Scale_frac_Frac kf_vec_Scale_frac_Frac)).run = go_vec_Scale_frac_Frac b0 b1 es2 n3 n4 b5 := by kernel_rfl
theorem ok_vec_Scale_frac_Frac (b0 : Bool) (b1 : Bool) (es2 : List PV) (n3 : Int) (n4 : Int) (b5 : Bool) (r : (Bool × Bool × List PV)) (h : go_vec_Scale_frac_Frac b0 b1 es2 n3 n4 b5 = some r) : FunEq Try.prog GG 66 [(.sl b0 b1 3 es2), (.agg [(.int .i64 n3), (.int .i64 n4), (.bool b5)])] (em_vec_Scale_frac_Frac r) :=
  fun_of_ev (x := xr_vec_Scale_frac_Frac) (Λ := lm_vec_Scale_frac_Frac) gk_vec_Scale_frac_Frac [[3, 5, 8, 9, 10]] Try.func66 rfl (by kernel_rfl) ir_vec_Scale_frac_Frac (by kernel_rfl) (congrArg Array.toList Try.results66) Try.ntmps66 (⟨trivial, ⟨trivial, ⟨⟨trivial, la_vec_Scale_frac_Frac_0⟩, ⟨trivial, trivial⟩⟩⟩⟩) (leaf_of fun v => (by kernel_rfl : rh_vec_Scale_frac_Frac.build v = em_vec_Scale_frac_Frac (ra_vec_Scale_frac_Frac v))) (by kernel_rfl) ((rn_vec_Scale_frac_Frac b0 b1 es2 n3 n4 b5).trans h)
def as_vec_Scale_frac_Frac : List Shp := [(.sl 3), (.agg [(.int .i64), (.int .i64), .bool])]
def ga_vec_Scale_frac_Frac (vs : List PV) : Option (Bool × Bool × List PV) := go_vec_Scale_frac_Frac ((tls 0 vs).headD .nilSl).nl ((tls 0 vs).headD .nilSl).ex ((tls 0 vs).headD .nilSl).elts (((tls 1 vs).headD .nilSl).subs.headD .nilSl).num (((tls 1 vs).headD .nilSl).subs.tail.headD .nilSl).num (((tls 1 vs).headD .nilSl).subs.tail.tail.headD .nilSl).tru
theorem at_vec_Scale_frac_Frac : FnAt Try.prog GG 66 as_vec_Scale_frac_Frac ga_vec_Scale_frac_Frac em_vec_Scale_frac_Frac := fun vs h r hr => by
  have e : Shp.buildL as_vec_Scale_frac_Frac vs = [(.sl ((tls 0 vs).headD .nilSl).nl ((tls 0 vs).headD .nilSl).ex 3 ((tls 0 vs).headD .nilSl).elts), (.agg [(.int .i64 (((tls 1 vs).headD .nilSl).subs.headD .nilSl).num), (.int .i64 (((tls 1 vs).headD .nilSl).subs.tail.headD .nilSl).num), (.bool (((tls 1 vs).headD .nilSl).subs.tail.tail.headD .nilSl).tru)])] := by kernel_rfl
  rw [← Shp.buildL_eq _ h, e]
  exact .inl ⟨by decide, ok_vec_Scale_frac_Frac _ _ _ _ _ _ r hr⟩

def xb_coupletref05_Dot_0 : XR := (.seq (.seq (.ops false [⟨⟨(some 7), (.mv (.tmp 6)), none⟩, none⟩, ⟨⟨(some 8), (.mv (.tmp 0)), none⟩, none⟩, ⟨⟨(some 9), (.len (.tmp 8)), none⟩, none⟩, ⟨⟨(some 10), (.bin .lss (.tmp 7) (.tmp 9)), none⟩, none⟩, ⟨⟨(some 11), (.mv (.tmp 10)), none⟩, none⟩, ⟨⟨(some 12), (.mv (.tmp 6)), (some (11, true))⟩, none⟩, ⟨⟨(some 13), (.mv (.tmp 1)), (some (11, true))⟩, none⟩, ⟨⟨(some 14), (.len (.tmp 13)), (some (11, true))⟩, none⟩, ⟨⟨(some 15), (.bin .lss (.tmp 12) (.tmp 14)), (some (11, true))⟩, none⟩, ⟨⟨(some 16), (.pick (.tmp 11) (.tmp 15) (.c (.bool false))), none⟩, none⟩]) (.cond (.tmp 16) .skip (.exit 0))) (.seq (.block 1 (.ops true [⟨⟨(some 19), (.mv (.tmp 5)), none⟩, none⟩, ⟨⟨(some 20), (.mv (.tmp 0)), none⟩, none⟩, ⟨⟨(some 21), (.mv (.tmp 6)), none⟩, none⟩, ⟨⟨(some 22), (.ixA 1 (.tmp 20) (.tmp 21)), none⟩, none⟩, ⟨⟨(some 23), (.ld false 1 (.tmp 22)), none⟩, (some (.int .i64))⟩, ⟨⟨(some 24), (.mv (.tmp 1)), none⟩, none⟩, ⟨⟨(some 25), (.mv (.tmp 6)), none⟩, none⟩, ⟨⟨(some 26), (.ixA 1 (.tmp 24) (.tmp 25)), none⟩, none⟩, ⟨⟨(some 27), (.ld false 1 (.tmp 26)), none⟩, (some (.int .i64))⟩, ⟨⟨(some 28), (.bin .mul (.tmp 23) (.tmp 27)), none⟩, none⟩, ⟨⟨(some 29), (.bin .add (.tmp 19) (.tmp 28)), none⟩, none⟩, ⟨⟨(some 5), (.mv (.tmp 29)), none⟩, none⟩])) (.ops false [⟨⟨(some 17), (.mv (.tmp 6)), none⟩, none⟩, ⟨⟨(some 18), (.bin .add (.tmp 17) (.c (.int .i64 (1)))), none⟩, none⟩, ⟨⟨(some 6), (.mv (.tmp 18)), none⟩, none⟩])))
def xr_coupletref05_Dot : XR := (.seq (.ops false [⟨⟨(some 4), (.mv (.c (.int .i64 (0)))), none⟩, none⟩]) (.seq (.ops false [⟨⟨(some 5), (.mv (.c (.int .i64 (0)))), none⟩, none⟩]) (.seq (.seq (.ops false [⟨⟨(some 6), (.mv (.c (.int .i64 (0)))), none⟩, none⟩]) (.block 0 (.loop 0 [0, 1, 5, 6] xb_coupletref05_Dot_0))) (.seq (.ops false [⟨⟨(some 30), (.mv (.tmp 5)), none⟩, none⟩, ⟨⟨(some 4), (.mv (.tmp 30)), none⟩, none⟩]) .ret))))
def rs_coupletref05_Dot : List ResultVar := [(.tmp 4)]
theorem ir_coupletref05_Dot : compCode Try.prog (Try.f67.body.getD .skip) [[0, 1, 5, 6]] = some (xr_coupletref05_Dot.erase, []) := by kernel_rfl
/-! coupletref05_Dot -/
def gm_coupletref05_Dot : Gam := Gam.bot
theorem gk_coupletref05_Dot : GamOk Try.prog GG gm_coupletref05_Dot := GamOk.bot
def st_coupletref05_Dot_0 (b6 : Bool) (b7 : Bool) (l8 : List Int) (b9 : Bool) (b10 : Bool) (l11 : List Int) (n12 : Int) (n13 : Int) : Option (((Bool × Bool × List Int × Bool × Bool × List Int × Int × Int)) ⊕ ((Int))) :=
  bif (decide (n13 < (((List.length l8) : Nat) : Int))) then
   bif (decide (n13 < (((List.length l11) : Nat) : Int))) then
    bif (decide (0 ≤ n13)) then
     bif (decide (n13 < (((List.length l8) : Nat) : Int))) then
      bif (decide ((Int.toNat n13) < (List.length l8))) then
       bif (decide (0 ≤ n13)) then
        bif (decide (n13 < (((List.length l11) : Nat) : Int))) then
         bif (decide ((Int.toNat n13) < (List.length l11))) then
          some (Sum.inl (b6, b7, l8, b9, b10, l11, (IntKind.wrap .i64 (n12 + (IntKind.wrap .i64 ((List.getD l8 (Int.toNat n13) 0) * (List.getD l11 (Int.toNat n13) 0))))), (IntKind.wrap .i64 (n13 + 1))))
         else none
        else none
       else none
      else none
     else none
    else none
   else
    some (Sum.inr n12)
  else
   some (Sum.inr n12)
def lp_coupletref05_Dot_0 (b6 : Bool) (b7 : Bool) (l8 : List Int) (b9 : Bool) (b10 : Bool) (l11 : List Int) (n12 : Int) (n13 : Int) : Option ((Int)) := loopN (X := (Bool × Bool × List Int × Bool × Bool × List Int × Int × Int)) (fun x => st_coupletref05_Dot_0 x.1 x.2.1 x.2.2.1 x.2.2.2.1 x.2.2.2.2.1 x.2.2.2.2.2.1 x.2.2.2.2.2.2.1 x.2.2.2.2.2.2.2) (b6, b7, l8, b9, b10, l11, n12, n13)
def sh_coupletref05_Dot_0 : StSh := ⟨31, [(0, (.p (.isl .i64))), (1, (.p (.isl .i64))), (5, (.p (.int .i64))), (6, (.p (.int .i64)))], []⟩
def sx_coupletref05_Dot_0 (x : (Bool × Bool × List Int × Bool × Bool × List Int × Int × Int)) : St := ⟨slots 31 0 [(0, (.p (.isl x.1 x.2.1 .i64 x.2.2.1))), (1, (.p (.isl x.2.2.2.1 x.2.2.2.2.1 .i64 x.2.2.2.2.2.1))), (5, (.p (.int .i64 x.2.2.2.2.2.2.1))), (6, (.p (.int .i64 x.2.2.2.2.2.2.2)))], []⟩
def sa_coupletref05_Dot_0 (S : St) : (Bool × Bool × List Int × Bool × Bool × List Int × Int × Int) := (((tls 0 S.t).headD .any).pv.nl, ((tls 0 S.t).headD .any).pv.ex, ((tls 0 S.t).headD .any).pv.ints, ((tls 1 S.t).headD .any).pv.nl, ((tls 1 S.t).headD .any).pv.ex, ((tls 1 S.t).headD .any).pv.ints, ((tls 5 S.t).headD .any).pv.num, ((tls 6 S.t).headD .any).pv.num)
def tz_coupletref05_Dot_0_0 : StSh := ⟨31, [(5, (.p (.int .i64)))], []⟩
def tx_coupletref05_Dot_0_0 (x : Int) : St := ⟨slots 31 0 [(5, (.p (.int .i64 x)))], []⟩
def ta_coupletref05_Dot_0_0 (S : St) : Int := ((tls 5 S.t).headD .any).pv.num
def kb_coupletref05_Dot_0 : Exit → St → Tree (((Bool × Bool × List Int × Bool × Bool × List Int × Int × Int)) ⊕ ((Int))) := (exOne (.exit 0) [5] tz_coupletref05_Dot_0_0 ta_coupletref05_Dot_0_0 (fun y => Sum.inr (y)) exNil)
def ky_coupletref05_Dot_0 : Dec ((Int)) := fun _ y ke => ke ((.exit 0) : EK).ex (tx_coupletref05_Dot_0_0 y)
theorem kk_coupletref05_Dot_0 : ExOk Sum.inr kb_coupletref05_Dot_0 ky_coupletref05_Dot_0 := (ExOk.one (acc := ta_coupletref05_Dot_0_0) (bY := tx_coupletref05_Dot_0_0) (inj1 := fun y => y) (fun S => by kernel_rfl) (fun y _ ke => .inr (by kernel_rfl)) ExOk.nil)
def lm_coupletref05_Dot : Lam := fun _ j S kn ke => match j with
  | 0 => prepT [0, 1, 5, 6] [] S fun S => .chk (sh_coupletref05_Dot_0.ok S) (.bind (loopN (fun x => st_coupletref05_Dot_0 x.1 x.2.1 x.2.2.1 x.2.2.2.1 x.2.2.2.2.1 x.2.2.2.2.2.1 x.2.2.2.2.2.2.1 x.2.2.2.2.2.2.2) (sa_coupletref05_Dot_0 S)) fun y => ky_coupletref05_Dot_0 _ y ke)
  | _ => .fail
theorem sr_coupletref05_Dot_0 (x : (Bool × Bool × List Int × Bool × Bool × List Int × Int × Int)) : (ev GG gm_coupletref05_Dot lm_coupletref05_Dot xb_coupletref05_Dot_0 (sx_coupletref05_Dot_0 x) (fun S => forgetT [0, 1, 5, 6] S fun S => prepT [0, 1, 5, 6] [] S fun S => .chk (sh_coupletref05_Dot_0.ok S) (.leaf (.inl (sa_coupletref05_Dot_0 S)))) kb_coupletref05_Dot_0).run = st_coupletref05_Dot_0 x.1 x.2.1 x.2.2.1 x.2.2.2.1 x.2.2.2.2.1 x.2.2.2.2.2.1 x.2.2.2.2.2.2.1 x.2.2.2.2.2.2.2 := by kernel_rfl
theorem la_coupletref05_Dot_0 : LamAt Try.prog GG lm_coupletref05_Dot 0 (.loop [0, 1, 5, 6] xb_coupletref05_Dot_0.erase) := lam_loop (body := xb_coupletref05_Dot_0) (Λ' := lm_coupletref05_Dot) gk_coupletref05_Dot (⟨⟨trivial, ⟨trivial, trivial⟩⟩, ⟨trivial, trivial⟩⟩) (fun S => (by kernel_rfl : sh_coupletref05_Dot_0.build S = sx_coupletref05_Dot_0 (sa_coupletref05_Dot_0 S))) kk_coupletref05_Dot_0 sr_coupletref05_Dot_0 (fun _ _ _ => rfl)
/-- coupletref05_Dot -/
def go_coupletref05_Dot (b0 : Bool) (b1 : Bool) (l2 : List Int) (b3 : Bool) (b4 : Bool) (l5 : List Int) : Option Int :=
  (lp_coupletref05_Dot_0 b0 b1 l2 b3 b4 l5 0 0).bind fun y14 =>
  some y14
def em_coupletref05_Dot (r : Int) : PV := (.int .i64 r)
def rh_coupletref05_Dot : Shp := (.int .i64)
def ra_coupletref05_Dot (v : PV) : Int := v.num
def kf_coupletref05_Dot (v : PV) : Tree Int := .chk (rh_coupletref05_Dot.ok v) (.leaf (ra_coupletref05_Dot v))
theorem rn_coupletref05_Dot (b0 : Bool) (b1 : Bool) (l2 : List Int) (b3 : Bool) (b4 : Bool) (l5 : List Int) : (ev GG gm_coupletref05_Dot lm_coupletref05_Dot xr_coupletref05_Dot ⟨slots 31 0 [(0, .p (.isl b0 b1 .i64 l2)), (1, .p (.isl b3 b4 .i64 l5))], []⟩ (fun S => finT Try.prog rs_coupletref05_Dot S kf_coupletref05_Dot) (retT Try.prog rs_coupletref05_Dot kf_coupletref05_Dot)).run = go_coupletref05_Dot b0 b1 l2 b3 b4 l5 := by kernel_rfl
theorem ok_coupletref05_Dot (b0 : Bool) (b1 : Bool) (l2 : List Int) (b3 : Bool) (b4 : Bool) (l5 : List Int) (r : Int) (h : go_coupletref05_Dot b0 b1 l2 b3 b4 l5 = some r) : FunEq Try.prog GG 67 [(.isl b0 b1 .i64 l2), (.isl b3 b4 .i64 l5)] (em_coupletref05_Dot r) :=
  fun_of_ev (x := xr_coupletref05_Dot) (Λ := lm_coupletref05_Dot) gk_coupletref05_Dot [[0, 1, 5, 6]] Try.func67 rfl (by kernel_rfl) ir_coupletref05_Dot (by kernel_rfl) (congrArg Array.toList Try.results67) Try.ntmps67 (⟨trivial, ⟨trivial, ⟨⟨trivial, la_coupletref05_Dot_0⟩, ⟨trivial, trivial⟩⟩⟩⟩) (leaf_of fun v => (by kernel_rfl : rh_coupletref05_Dot.build v = em_coupletref05_Dot (ra_coupletref05_Dot v))) (by kernel_rfl) ((rn_coupletref05_Dot b0 b1 l2 b3 b4 l5).trans h)
def as_coupletref05_Dot : List Shp := [(.isl .i64), (.isl .i64)]
def ga_coupletref05_Dot (vs : List PV) : Option Int := go_coupletref05_Dot ((tls 0 vs).headD .nilSl).nl ((tls 0 vs).headD .nilSl).ex ((tls 0 vs).headD .nilSl).ints ((tls 1 vs).headD .nilSl).nl ((tls 1 vs).headD .nilSl).ex ((tls 1 vs).headD .nilSl).ints
theorem at_coupletref05_Dot : FnAt Try.prog GG 67 as_coupletref05_Dot ga_coupletref05_Dot em_coupletref05_Dot := fun vs h r hr => by
  have e : Shp.buildL as_coupletref05_Dot vs = [(.isl ((tls 0 vs).headD .nilSl).nl ((tls 0 vs).headD .nilSl).ex .i64 ((tls 0 vs).headD .nilSl).ints), (.isl ((tls 1 vs).headD .nilSl).nl ((tls 1 vs).headD .nilSl).ex .i64 ((tls 1 vs).headD .nilSl).ints)] := by kernel_rfl
  rw [← Shp.buildL_eq _ h, e]
  exact .inl ⟨by decide, ok_coupletref05_Dot _ _ _ _ _ _ r hr⟩

def xb_coupletlaw05_VecWhole_0 : XR := (.seq (.ops false [⟨⟨(some 88), (.bin .lss (.tmp 87) (.tmp 86)), none⟩, none⟩]) (.seq (.cond (.tmp 88) .skip (.exit 0)) (.seq (.block 1 (.seq (.ops false [⟨⟨(some 89), (.mv (.tmp 87)), none⟩, none⟩, ⟨⟨(some 14), (.mv (.tmp 89)), none⟩, none⟩]) (.seq (.seq (.ops false [⟨⟨(some 90), (.mv (.tmp 0)), none⟩, none⟩, ⟨⟨(some 91), (.mv (.tmp 14)), none⟩, none⟩, ⟨⟨(some 92), (.ixA 1 (.tmp 90) (.tmp 91)), none⟩, none⟩, ⟨⟨(some 93), (.ld false 1 (.tmp 92)), none⟩, (some (.int .i64))⟩, ⟨⟨(some 94), (.bin .lss (.tmp 93) (.c (.int .i64 (-1000)))), none⟩, none⟩, ⟨⟨(some 95), (.mv (.tmp 94)), none⟩, none⟩, ⟨⟨(some 96), (.mv (.tmp 0)), (some (95, false))⟩, none⟩, ⟨⟨(some 97), (.mv (.tmp 14)), (some (95, false))⟩, none⟩, ⟨⟨(some 98), (.ixA 1 (.tmp 96) (.tmp 97)), (some (95, false))⟩, none⟩, ⟨⟨(some 99), (.ld false 1 (.tmp 98)), (some (95, false))⟩, (some (.int .i64))⟩, ⟨⟨(some 100), (.bin .gtr (.tmp 99) (.c (.int .i64 (1000)))), (some (95, false))⟩, none⟩, ⟨⟨(some 101), (.pick (.tmp 95) (.c (.bool true)) (.tmp 100)), none⟩, none⟩]) (.cond (.tmp 101) (.seq (.ops false [⟨⟨(some 102), (.call (.func 50) []), none⟩, none⟩, ⟨⟨(some 6), (.mv (.tmp 102)), none⟩, none⟩]) .ret) .skip)) (.seq (.ops false [⟨⟨(some 103), (.mv (.tmp 13)), none⟩, none⟩, ⟨⟨(some 104), (.mv (.tmp 0)), none⟩, none⟩, ⟨⟨(some 105), (.mv (.tmp 14)), none⟩, none⟩, ⟨⟨(some 106), (.ixA 1 (.tmp 104) (.tmp 105)), none⟩, none⟩, ⟨⟨(some 107), (.ld false 1 (.tmp 106)), none⟩, (some (.int .i64))⟩, ⟨⟨(some 108), (.bin .add (.tmp 103) (.tmp 107)), none⟩, none⟩, ⟨⟨(some 13), (.mv (.tmp 108)), none⟩, none⟩]) (.seq (.ops true [⟨⟨(some 109), (.mv (.tmp 7)), none⟩, none⟩, ⟨⟨(some 110), (.mv (.tmp 14)), none⟩, none⟩, ⟨⟨(some 111), (.ixA 3 (.tmp 109) (.tmp 110)), none⟩, none⟩, ⟨⟨(some 112), (.ld true 3 (.tmp 111)), none⟩, (some (.agg [(.int .i64), (.int .i64), .bool]))⟩, ⟨⟨(some 113), (.mv (.tmp 0)), none⟩, none⟩, ⟨⟨(some 114), (.mv (.tmp 14)), none⟩, none⟩, ⟨⟨(some 115), (.ixA 1 (.tmp 113) (.tmp 114)), none⟩, none⟩, ⟨⟨(some 116), (.ld false 1 (.tmp 115)), none⟩, (some (.int .i64))⟩, ⟨⟨(some 117), (.call (.func 58) [(.tmp 116), (.c (.int .i64 (1)))]), none⟩, none⟩, ⟨⟨(some 118), (.eqAgg true [(.int .i64), (.int .i64), .bool] (.tmp 112) (.tmp 117)), none⟩, none⟩, ⟨⟨(some 119), (.mv (.tmp 118)), none⟩, none⟩, ⟨⟨(some 120), (.mv (.tmp 12)), (some (119, false))⟩, none⟩, ⟨⟨(some 121), (.mv (.tmp 14)), (some (119, false))⟩, none⟩, ⟨⟨(some 122), (.ixA 3 (.tmp 120) (.tmp 121)), (some (119, false))⟩, none⟩, ⟨⟨(some 123), (.ld true 3 (.tmp 122)), (some (119, false))⟩, (some (.agg [(.int .i64), (.int .i64), .bool]))⟩, ⟨⟨(some 124), (.mv (.tmp 0)), (some (119, false))⟩, none⟩, ⟨⟨(some 125), (.mv (.tmp 14)), (some (119, false))⟩, none⟩, ⟨⟨(some 126), (.ixA 1 (.tmp 124) (.tmp 125)), (some (119, false))⟩, none⟩, ⟨⟨(some 127), (.ld false 1 (.tmp 126)), (some (119, false))⟩, (some (.int .i64))⟩, ⟨⟨(some 128), (.mv (.tmp 2)), (some (119, false))⟩, none⟩, ⟨⟨(some 129), (.bin .mul (.tmp 127) (.tmp 128)), (some (119, false))⟩, none⟩, ⟨⟨(some 130), (.call (.func 58) [(.tmp 129), (.c (.int .i64 (1)))]), (some (119, false))⟩, none⟩, ⟨⟨(some 131), (.eqAgg true [(.int .i64), (.int .i64), .bool] (.tmp 123) (.tmp 130)), (some (119, false))⟩, none⟩, ⟨⟨(some 132), (.pick (.tmp 119) (.c (.bool true)) (.tmp 131)), none⟩, none⟩, ⟨⟨(some 133), (.mv (.tmp 132)), none⟩, none⟩, ⟨⟨(some 134), (.mv (.tmp 14)), (some (133, false))⟩, none⟩, ⟨⟨(some 135), (.mv (.tmp 9)), (some (133, false))⟩, none⟩, ⟨⟨(some 136), (.bin .lss (.tmp 134) (.tmp 135)), (some (133, false))⟩, none⟩, ⟨⟨(some 137), (.mv (.tmp 136)), (some (133, false))⟩, none⟩, ⟨⟨(some 138), (.mv (.tmp 10)), (some (137, true))⟩, none⟩, ⟨⟨(some 139), (.mv (.tmp 14)), (some (137, true))⟩, none⟩, ⟨⟨(some 140), (.ixA 3 (.tmp 138) (.tmp 139)), (some (137, true))⟩, none⟩, ⟨⟨(some 141), (.ld true 3 (.tmp 140)), (some (137, true))⟩, (some (.agg [(.int .i64), (.int .i64), .bool]))⟩, ⟨⟨(some 142), (.mv (.tmp 0)), (some (137, true))⟩, none⟩, ⟨⟨(some 143), (.mv (.tmp 14)), (some (137, true))⟩, none⟩, ⟨⟨(some 144), (.ixA 1 (.tmp 142) (.tmp 143)), (some (137, true))⟩, none⟩, ⟨⟨(some 145), (.ld false 1 (.tmp 144)), (some (137, true))⟩, (some (.int .i64))⟩, ⟨⟨(some 146), (.mv (.tmp 1)), (some (137, true))⟩, none⟩, ⟨⟨(some 147), (.mv (.tmp 14)), (some (137, true))⟩, none⟩, ⟨⟨(some 148), (.ixA 1 (.tmp 146) (.tmp 147)), (some (137, true))⟩, none⟩, ⟨⟨(some 149), (.ld false 1 (.tmp 148)), (some (137, true))⟩, (some (.int .i64))⟩, ⟨⟨(some 150), (.bin .add (.tmp 145) (.tmp 149)), (some (137, true))⟩, none⟩, ⟨⟨(some 151), (.call (.func 58) [(.tmp 150), (.c (.int .i64 (1)))]), (some (137, true))⟩, none⟩, ⟨⟨(some 152), (.eqAgg true [(.int .i64), (.int .i64), .bool] (.tmp 141) (.tmp 151)), (some (137, true))⟩, none⟩, ⟨⟨(some 153), (.mv (.tmp 152)), (some (137, true))⟩, none⟩, ⟨⟨(some 154), (.mv (.tmp 11)), (some (153, false))⟩, none⟩, ⟨⟨(some 155), (.mv (.tmp 14)), (some (153, false))⟩, none⟩, ⟨⟨(some 156), (.ixA 3 (.tmp 154) (.tmp 155)), (some (153, false))⟩, none⟩, ⟨⟨(some 157), (.ld true 3 (.tmp 156)), (some (153, false))⟩, (some (.agg [(.int .i64), (.int .i64), .bool]))⟩, ⟨⟨(some 158), (.mv (.tmp 0)), (some (153, false))⟩, none⟩, ⟨⟨(some 159), (.mv (.tmp 14)), (some (153, false))⟩, none⟩, ⟨⟨(some 160), (.ixA 1 (.tmp 158) (.tmp 159)), (some (153, false))⟩, none⟩, ⟨⟨(some 161), (.ld false 1 (.tmp 160)), (some (153, false))⟩, (some (.int .i64))⟩, ⟨⟨(some 162), (.mv (.tmp 1)), (some (153, false))⟩, none⟩, ⟨⟨(some 163), (.mv (.tmp 14)), (some (153, false))⟩, none⟩, ⟨⟨(some 164), (.ixA 1 (.tmp 162) (.tmp 163)), (some (153, false))⟩, none⟩, ⟨⟨(some 165), (.ld false 1 (.tmp 164)), (some (153, false))⟩, (some (.int .i64))⟩, ⟨⟨(some 166), (.bin .sub (.tmp 161) (.tmp 165)), (some (153, false))⟩, none⟩, ⟨⟨(some 167), (.call (.func 58) [(.tmp 166), (.c (.int .i64 (1)))]), (some (153, false))⟩, none⟩, ⟨⟨(some 168), (.eqAgg true [(.int .i64), (.int .i64), .bool] (.tmp 157) (.tmp 167)), (some (153, false))⟩, none⟩, ⟨⟨(some 169), (.pick (.tmp 153) (.c (.bool true)) (.tmp 168)), (some (137, true))⟩, none⟩, ⟨⟨(some 170), (.pick (.tmp 137) (.tmp 169) (.c (.bool false))), (some (133, false))⟩, none⟩, ⟨⟨(some 171), (.pick (.tmp 133) (.c (.bool true)) (.tmp 170)), none⟩, none⟩]) (.cond (.tmp 171) (.seq (.ops false [⟨⟨(some 6), (.mv (.c (.bool false))), none⟩, none⟩]) .ret) .skip)))))) (.ops false [⟨⟨(some 172), (.bin .add (.tmp 87) (.c (.int .i64 (1)))), none⟩, none⟩, ⟨⟨(some 87), (.mv (.tmp 172)), none⟩, none⟩]))))
def xr_coupletlaw05_VecWhole : XR := (.seq (.ops false [⟨⟨(some 6), (.mv (.c (.bool false))), none⟩, none⟩]) (.seq (.seq (.ops false [⟨⟨(some 15), (.mv (.tmp 0)), none⟩, none⟩, ⟨⟨(some 16), (.call (.func 54) [(.tmp 15)]), none⟩, none⟩, ⟨⟨(some 17), (.un .not (.tmp 16)), none⟩, none⟩, ⟨⟨(some 18), (.mv (.tmp 17)), none⟩, none⟩, ⟨⟨(some 19), (.mv (.tmp 1)), (some (18, false))⟩, none⟩, ⟨⟨(some 20), (.call (.func 54) [(.tmp 19)]), (some (18, false))⟩, none⟩, ⟨⟨(some 21), (.un .not (.tmp 20)), (some (18, false))⟩, none⟩, ⟨⟨(some 22), (.pick (.tmp 18) (.c (.bool true)) (.tmp 21)), none⟩, none⟩, ⟨⟨(some 23), (.mv (.tmp 22)), none⟩, none⟩, ⟨⟨(some 24), (.mv (.tmp 2)), (some (23, false))⟩, none⟩, ⟨⟨(some 25), (.bin .lss (.tmp 24) (.c (.int .i64 (-1000)))), (some (23, false))⟩, none⟩, ⟨⟨(some 26), (.pick (.tmp 23) (.c (.bool true)) (.tmp 25)), none⟩, none⟩, ⟨⟨(some 27), (.mv (.tmp 26)), none⟩, none⟩, ⟨⟨(some 28), (.mv (.tmp 2)), (some (27, false))⟩, none⟩, ⟨⟨(some 29), (.bin .gtr (.tmp 28) (.c (.int .i64 (1000)))), (some (27, false))⟩, none⟩, ⟨⟨(some 30), (.pick (.tmp 27) (.c (.bool true)) (.tmp 29)), none⟩, none⟩]) (.cond (.tmp 30) (.seq (.ops false [⟨⟨(some 31), (.call (.func 50) []), none⟩, none⟩, ⟨⟨(some 6), (.mv (.tmp 31)), none⟩, none⟩]) .ret) .skip)) (.seq (.ops false [⟨⟨(some 32), (.mv (.tmp 0)), none⟩, none⟩, ⟨⟨(some 33), (.call (.func 55) [(.tmp 32)]), none⟩, none⟩, ⟨⟨(some 34), (.mv (.tmp 1)), none⟩, none⟩, ⟨⟨(some 35), (.call (.func 55) [(.tmp 34)]), none⟩, none⟩, ⟨⟨(some 7), (.mv (.tmp 33)), none⟩, none⟩, ⟨⟨(some 8), (.mv (.tmp 35)), none⟩, none⟩]) (.seq (.ops false [⟨⟨(some 36), (.mv (.tmp 0)), none⟩, none⟩, ⟨⟨(some 37), (.len (.tmp 36)), none⟩, none⟩, ⟨⟨(some 38), (.mv (.tmp 1)), none⟩, none⟩, ⟨⟨(some 39), (.len (.tmp 38)), none⟩, none⟩, ⟨⟨(some 40), (.mins [(.tmp 37), (.tmp 39)]), none⟩, none⟩, ⟨⟨(some 9), (.mv (.tmp 40)), none⟩, none⟩]) (.seq (.ops false [⟨⟨(some 41), (.mv (.tmp 7)), none⟩, none⟩, ⟨⟨(some 42), (.mv (.tmp 8)), none⟩, none⟩, ⟨⟨(some 43), (.call (.func 64) [(.tmp 41), (.tmp 42)]), none⟩, none⟩, ⟨⟨(some 44), (.mv (.tmp 7)), none⟩, none⟩, ⟨⟨(some 45), (.mv (.tmp 8)), none⟩, none⟩, ⟨⟨(some 46), (.call (.func 65) [(.tmp 44), (.tmp 45)]), none⟩, none⟩, ⟨⟨(some 47), (.mv (.tmp 7)), none⟩, none⟩, ⟨⟨(some 48), (.mv (.tmp 2)), none⟩, none⟩, ⟨⟨(some 49), (.call (.func 58) [(.tmp 48), (.c (.int .i64 (1)))]), none⟩, none⟩, ⟨⟨(some 50), (.call (.func 66) [(.tmp 47), (.tmp 49)]), none⟩, none⟩, ⟨⟨(some 10), (.mv (.tmp 43)), none⟩, none⟩, ⟨⟨(some 11), (.mv (.tmp 46)), none⟩, none⟩, ⟨⟨(some 12), (.mv (.tmp 50)), none⟩, none⟩]) (.seq (.seq (.ops false [⟨⟨(some 51), (.mv (.tmp 7)), none⟩, none⟩, ⟨⟨(some 52), (.mv (.tmp 8)), none⟩, none⟩, ⟨⟨(some 53), (.call (.func 59) [(.tmp 51), (.tmp 52)]), none⟩, none⟩, ⟨⟨(some 54), (.mv (.tmp 0)), none⟩, none⟩, ⟨⟨(some 55), (.mv (.tmp 1)), none⟩, none⟩, ⟨⟨(some 56), (.call (.func 67) [(.tmp 54), (.tmp 55)]), none⟩, none⟩, ⟨⟨(some 57), (.call (.func 58) [(.tmp 56), (.c (.int .i64 (1)))]), none⟩, none⟩, ⟨⟨(some 58), (.eqAgg true [(.int .i64), (.int .i64), .bool] (.tmp 53) (.tmp 57)), none⟩, none⟩, ⟨⟨(some 59), (.mv (.tmp 58)), none⟩, none⟩, ⟨⟨(some 60), (.mv (.tmp 10)), (some (59, false))⟩, none⟩, ⟨⟨(some 61), (.len (.tmp 60)), (some (59, false))⟩, none⟩, ⟨⟨(some 62), (.mv (.tmp 9)), (some (59, false))⟩, none⟩, ⟨⟨(some 63), (.bin .neq (.tmp 61) (.tmp 62)), (some (59, false))⟩, none⟩, ⟨⟨(some 64), (.pick (.tmp 59) (.c (.bool true)) (.tmp 63)), none⟩, none⟩, ⟨⟨(some 65), (.mv (.tmp 64)), none⟩, none⟩, ⟨⟨(some 66), (.mv (.tmp 11)), (some (65, false))⟩, none⟩, ⟨⟨(some 67), (.len (.tmp 66)), (some (65, false))⟩, none⟩, ⟨⟨(some 68), (.mv (.tmp 9)), (some (65, false))⟩, none⟩, ⟨⟨(some 69), (.bin .neq (.tmp 67) (.tmp 68)), (some (65, false))⟩, none⟩, ⟨⟨(some 70), (.pick (.tmp 65) (.c (.bool true)) (.tmp 69)), none⟩, none⟩, ⟨⟨(some 71), (.mv (.tmp 70)), none⟩, none⟩, ⟨⟨(some 72), (.mv (.tmp 12)), (some (71, false))⟩, none⟩, ⟨⟨(some 73), (.len (.tmp 72)), (some (71, false))⟩, none⟩, ⟨⟨(some 74), (.mv (.tmp 0)), (some (71, false))⟩, none⟩, ⟨⟨(some 75), (.len (.tmp 74)), (some (71, false))⟩, none⟩, ⟨⟨(some 76), (.bin .neq (.tmp 73) (.tmp 75)), (some (71, false))⟩, none⟩, ⟨⟨(some 77), (.pick (.tmp 71) (.c (.bool true)) (.tmp 76)), none⟩, none⟩, ⟨⟨(some 78), (.mv (.tmp 77)), none⟩, none⟩, ⟨⟨(some 79), (.mv (.tmp 7)), (some (78, false))⟩, none⟩, ⟨⟨(some 80), (.len (.tmp 79)), (some (78, false))⟩, none⟩, ⟨⟨(some 81), (.mv (.tmp 0)), (some (78, false))⟩, none⟩, ⟨⟨(some 82), (.len (.tmp 81)), (some (78, false))⟩, none⟩, ⟨⟨(some 83), (.bin .neq (.tmp 80) (.tmp 82)), (some (78, false))⟩, none⟩, ⟨⟨(some 84), (.pick (.tmp 78) (.c (.bool true)) (.tmp 83)), none⟩, none⟩]) (.cond (.tmp 84) (.seq (.ops false [⟨⟨(some 6), (.mv (.c (.bool false))), none⟩, none⟩]) .ret) .skip)) (.seq (.ops false [⟨⟨(some 13), (.mv (.c (.int .i64 (0)))), none⟩, none⟩]) (.seq (.seq (.ops false [⟨⟨(some 85), (.mv (.tmp 0)), none⟩, none⟩, ⟨⟨(some 86), (.len (.tmp 85)), none⟩, none⟩, ⟨⟨(some 87), (.mv (.c (.int .i64 (0)))), none⟩, none⟩]) (.block 0 (.loop 0 [0, 1, 2, 7, 9, 10, 11, 12, 13, 86, 87] xb_coupletlaw05_VecWhole_0))) (.seq (.ops false [⟨⟨(some 173), (.mv (.tmp 7)), none⟩, none⟩, ⟨⟨(some 174), (.call (.func 56) [(.tmp 173)]), none⟩, none⟩, ⟨⟨(some 175), (.mv (.tmp 13)), none⟩, none⟩, ⟨⟨(some 176), (.call (.func 58) [(.tmp 175), (.c (.int .i64 (1)))]), none⟩, none⟩, ⟨⟨(some 177), (.eqAgg false [(.int .i64), (.int .i64), .bool] (.tmp 174) (.tmp 176)), none⟩, none⟩, ⟨⟨(some 178), (.mv (.tmp 177)), none⟩, none⟩, ⟨⟨(some 179), (.call (.func 50) []), (some (178, true))⟩, none⟩, ⟨⟨(some 180), (.pick (.tmp 178) (.tmp 179) (.c (.bool false))), none⟩, none⟩, ⟨⟨(some 6), (.mv (.tmp 180)), none⟩, none⟩]) .ret)))))))))
def rs_coupletlaw05_VecWhole : List ResultVar := [(.tmp 6)]
theorem ir_coupletlaw05_VecWhole : compCode Try.prog (Try.f21.body.getD .skip) [[0, 1, 2, 7, 9, 10, 11, 12, 13, 86, 87]] = some (xr_coupletlaw05_VecWhole.erase, []) := by kernel_rfl
/-! coupletlaw05_VecWhole -/
def gm_coupletlaw05_VecWhole : Gam := (Gam.fn 54 as_coupletlaw05_Few ga_coupletlaw05_Few em_coupletlaw05_Few (Gam.fn 50 as_coupletlaw05_awake ga_coupletlaw05_awake em_coupletlaw05_awake (Gam.fn 55 as_vec_Whole_frac_Frac ga_vec_Whole_frac_Frac em_vec_Whole_frac_Frac (Gam.fn 64 as_vec_Add_frac_Frac ga_vec_Add_frac_Frac em_vec_Add_frac_Frac (Gam.fn 65 as_vec_Sub_frac_Frac ga_vec_Sub_frac_Frac em_vec_Sub_frac_Frac (Gam.fn 58 as_frac_New ga_frac_New em_frac_New (Gam.fn 66 as_vec_Scale_frac_Frac ga_vec_Scale_frac_Frac em_vec_Scale_frac_Frac (Gam.fn 59 as_vec_Dot_frac_Frac ga_vec_Dot_frac_Frac em_vec_Dot_frac_Frac (Gam.fn 67 as_coupletref05_Dot ga_coupletref05_Dot em_coupletref05_Dot (Gam.fn 56 as_vec_Sum_frac_Frac ga_vec_Sum_frac_Frac em_vec_Sum_frac_Frac Gam.bot))))))))))
theorem gk_coupletlaw05_VecWhole : GamOk Try.prog GG gm_coupletlaw05_VecWhole := (GamOk.fn at_coupletlaw05_Few (GamOk.fn at_coupletlaw05_awake (GamOk.fn at_vec_Whole_frac_Frac (GamOk.fn at_vec_Add_frac_Frac (GamOk.fn at_vec_Sub_frac_Frac (GamOk.fn at_frac_New (GamOk.fn at_vec_Scale_frac_Frac (GamOk.fn at_vec_Dot_frac_Frac (GamOk.fn at_coupletref05_Dot (GamOk.fn at_vec_Sum_frac_Frac GamOk.bot))))))))))
def st_coupletlaw05_VecWhole_0 (b22 : Bool) (b23 : Bool) (l24 : List Int) (b25 : Bool) (b26 : Bool) (l27 : List Int) (n28 : Int) (b29 : Bool) (b30 : Bool) (es31 : List PV) (n32 : Int) (b33 : Bool) (b34 : Bool) (es35 : List PV) (b36 : Bool) (b37 : Bool) (es38 : List PV) (b39 : Bool) (b40 : Bool) (es41 : List PV) (n42 : Int) (n43 : Int) (n44 : Int) : Option (((Bool × Bool × List Int × Bool × Bool × List Int × Int × Bool × Bool × List PV × Int × Bool × Bool × List PV × Bool × Bool × List PV × Bool × Bool × List PV × Int × Int × Int)) ⊕ (((Bool × Bool × List PV × Int)) ⊕ (Bool))) :=
  bif (decide (n44 < n43)) then
   bif (decide (0 ≤ n44)) then
    bif (decide (n44 < (((List.length l24) : Nat) : Int))) then
     bif (decide ((Int.toNat n44) < (List.length l24))) then
      bif (decide ((List.getD l24 (Int.toNat n44) 0) < (-1000))) then
       (go_coupletlaw05_awake).bind fun r45 =>
       some (Sum.inr (Sum.inr r45))
      else
       bif (decide (0 ≤ n44)) then
        bif (decide (n44 < (((List.length l24) : Nat) : Int))) then
         bif (decide ((Int.toNat n44) < (List.length l24))) then
          bif (decide ((List.getD l24 (Int.toNat n44) 0) > 1000)) then
           (go_coupletlaw05_awake).bind fun r46 =>
           some (Sum.inr (Sum.inr r46))
          else
           bif (decide (0 ≤ n44)) then
            bif (decide (n44 < (((List.length l24) : Nat) : Int))) then
             bif (decide ((Int.toNat n44) < (List.length l24))) then
              bif (decide (0 ≤ n44)) then
               bif (decide (n44 < (((List.length es31) : Nat) : Int))) then
                bif (decide ((Int.toNat n44) < (List.length es31))) then
                 bif (decide ((List.length (PV.cells (List.getD es31 (Int.toNat n44) .nilSl))) = 3)) then
                  bif (Shp.ok (.agg [(.int .i64), (.int .i64), .bool]) (.agg (PV.cells (List.getD es31 (Int.toNat n44) .nilSl)))) then
                   bif (decide (0 ≤ n44)) then
                    bif (decide (n44 < (((List.length l24) : Nat) : Int))) then
                     bif (decide ((Int.toNat n44) < (List.length l24))) then
                      (go_frac_New (List.getD l24 (Int.toNat n44) 0) 1).bind fun r47 =>
                      bif (!(((PV.num (List.headD (PV.subs (.agg (PV.cells (List.getD es31 (Int.toNat n44) .nilSl)))) .nilSl)) == r47.1) && (((PV.num (List.headD (List.tail (PV.subs (.agg (PV.cells (List.getD es31 (Int.toNat n44) .nilSl))))) .nilSl)) == r47.2.1) && (((PV.tru (List.headD (List.tail (List.tail (PV.subs (.agg (PV.cells (List.getD es31 (Int.toNat n44) .nilSl)))))) .nilSl)) == r47.2.2) && true)))) then
                       some (Sum.inr (Sum.inr false))
                      else
                       bif (decide (0 ≤ n44)) then
                        bif (decide (n44 < (((List.length es41) : Nat) : Int))) then
                         bif (decide ((Int.toNat n44) < (List.length es41))) then
                          bif (decide ((List.length (PV.cells (List.getD es41 (Int.toNat n44) .nilSl))) = 3)) then
                           bif (Shp.ok (.agg [(.int .i64), (.int .i64), .bool]) (.agg (PV.cells (List.getD es41 (Int.toNat n44) .nilSl)))) then
                            bif (decide (0 ≤ n44)) then
                             bif (decide (n44 < (((List.length l24) : Nat) : Int))) then
                              bif (decide ((Int.toNat n44) < (List.length l24))) then
                               (go_frac_New (IntKind.wrap .i64 ((List.getD l24 (Int.toNat n44) 0) * n28)) 1).bind fun r48 =>
                               bif (!(((PV.num (List.headD (PV.subs (.agg (PV.cells (List.getD es41 (Int.toNat n44) .nilSl)))) .nilSl)) == r48.1) && (((PV.num (List.headD (List.tail (PV.subs (.agg (PV.cells (List.getD es41 (Int.toNat n44) .nilSl))))) .nilSl)) == r48.2.1) && (((PV.tru (List.headD (List.tail (List.tail (PV.subs (.agg (PV.cells (List.getD es41 (Int.toNat n44) .nilSl)))))) .nilSl)) == r48.2.2) && true)))) then
                                some (Sum.inr (Sum.inr false))
                               else
                                bif (decide (n44 < n32)) then
                                 bif (decide (0 ≤ n44)) then
                                  bif (decide (n44 < (((List.length es35) : Nat) : Int))) then
                                   bif (decide ((Int.toNat n44) < (List.length es35))) then
                                    bif (decide ((List.length (PV.cells (List.getD es35 (Int.toNat n44) .nilSl))) = 3)) then
                                     bif (Shp.ok (.agg [(.int .i64), (.int .i64), .bool]) (.agg (PV.cells (List.getD es35 (Int.toNat n44) .nilSl)))) then
                                      bif (decide (0 ≤ n44)) then
                                       bif (decide (n44 < (((List.length l24) : Nat) : Int))) then
                                        bif (decide ((Int.toNat n44) < (List.length l24))) then
                                         bif (decide (0 ≤ n44)) then
                                          bif (decide (n44 < (((List.length l27) : Nat) : Int))) then
                                           bif (decide ((Int.toNat n44) < (List.length l27))) then
                                            (go_frac_New (IntKind.wrap .i64 ((List.getD l24 (Int.toNat n44) 0) + (List.getD l27 (Int.toNat n44) 0))) 1).bind fun r49 =>
                                            bif (!(((PV.num (List.headD (PV.subs (.agg (PV.cells (List.getD es35 (Int.toNat n44) .nilSl)))) .nilSl)) == r49.1) && (((PV.num (List.headD (List.tail (PV.subs (.agg (PV.cells (List.getD es35 (Int.toNat n44) .nilSl))))) .nilSl)) == r49.2.1) && (((PV.tru (List.headD (List.tail (List.tail (PV.subs (.agg (PV.cells (List.getD es35 (Int.toNat n44) .nilSl)))))) .nilSl)) == r49.2.2) && true)))) then
                                             some (Sum.inr (Sum.inr false))
                                            else
                                             bif (decide (0 ≤ n44)) then
                                              bif (decide (n44 < (((List.length es38) : Nat) : Int))) then
                                               bif (decide ((Int.toNat n44) < (List.length es38))) then
                                                bif (decide ((List.length (PV.cells (List.getD es38 (Int.toNat n44) .nilSl))) = 3)) then
                                                 bif (Shp.ok (.agg [(.int .i64), (.int .i64), .bool]) (.agg (PV.cells (List.getD es38 (Int.toNat n44) .nilSl)))) then
                                                  bif (decide (0 ≤ n44)) then
                                                   bif (decide (n44 < (((List.length l24) : Nat) : Int))) then
                                                    bif (decide ((Int.toNat n44) < (List.length l24))) then
                                                     bif (decide (0 ≤ n44)) then
                                                      bif (decide (n44 < (((List.length l27) : Nat) : Int))) then
                                                       bif (decide ((Int.toNat n44) < (List.length l27))) then
                                                        (go_frac_New (IntKind.wrap .i64 ((List.getD l24 (Int.toNat n44) 0) - (List.getD l27 (Int.toNat n44) 0))) 1).bind fun r50 =>
                                                        bif (!(((PV.num (List.headD (PV.subs (.agg (PV.cells (List.getD es38 (Int.toNat n44) .nilSl)))) .nilSl)) == r50.1) && (((PV.num (List.headD (List.tail (PV.subs (.agg (PV.cells (List.getD es38 (Int.toNat n44) .nilSl))))) .nilSl)) == r50.2.1) && (((PV.tru (List.headD (List.tail (List.tail (PV.subs (.agg (PV.cells (List.getD es38 (Int.toNat n44) .nilSl)))))) .nilSl)) == r50.2.2) && true)))) then
                                                         some (Sum.inr (Sum.inr false))
                                                        else
                                                         some (Sum.inl (b22, b23, l24, b25, b26, l27, n28, b29, b30, es31, n32, b33, b34, es35, b36, b37, es38, b39, b40, es41, (IntKind.wrap .i64 (n42 + (List.getD l24 (Int.toNat n44) 0))), n43, (IntKind.wrap .i64 (n44 + 1))))
                                                       else none
                                                      else none
                                                     else none
                                                    else none
                                                   else none
                                                  else none
                                                 else none
                                                else none
                                               else none
                                              else none
                                             else none
                                           else none
                                          else none
                                         else none
                                        else none
                                       else none
                                      else none
                                     else none
                                    else none
                                   else none
                                  else none
                                 else none
                                else
                                 some (Sum.inl (b22, b23, l24, b25, b26, l27, n28, b29, b30, es31, n32, b33, b34, es35, b36, b37, es38, b39, b40, es41, (IntKind.wrap .i64 (n42 + (List.getD l24 (Int.toNat n44) 0))), n43, (IntKind.wrap .i64 (n44 + 1))))
                              else none
                             else none
                            else none
                           else none
                          else none
                         else none
                        else none
                       else none
                     else none
                    else none
                   else none
                  else none
                 else none
                else none
               else none
              else none
             else none
            else none
           else none
         else none
        else none
       else none
     else none
    else none
   else none
  else
   some (Sum.inr (Sum.inl (b29, b30, es31, n42)))
def lp_coupletlaw05_VecWhole_0 (b22 : Bool) (b23 : Bool) (l24 : List Int) (b25 : Bool) (b26 : Bool) (l27 : List Int) (n28 : Int) (b29 : Bool) (b30 : Bool) (es31 : List PV) (n32 : Int) (b33 : Bool) (b34 : Bool) (es35 : List PV) (b36 : Bool) (b37 : Bool) (es38 : List PV) (b39 : Bool) (b40 : Bool) (es41 : List PV) (n42 : Int) (n43 : Int) (n44 : Int) : Option (((Bool × Bool × List PV × Int)) ⊕ (Bool)) := loopN (X := (Bool × Bool × List Int × Bool × Bool × List Int × Int × Bool × Bool × List PV × Int × Bool × Bool × List PV × Bool × Bool × List PV × Bool × Bool × List PV × Int × Int × Int)) (fun x => st_coupletlaw05_VecWhole_0 x.1 x.2.1 x.2.2.1 x.2.2.2.1 x.2.2.2.2.1 x.2.2.2.2.2.1 x.2.2.2.2.2.2.1 x.2.2.2.2.2.2.2.1 x.2.2.2.2.2.2.2.2.1 x.2.2.2.2.2.2.2.2.2.1 x.2.2.2.2.2.2.2.2.2.2.1 x.2.2.2.2.2.2.2.2.2.2.2.1 x.2.2.2.2.2.2.2.2.2.2.2.2.1 x.2.2.2.2.2.2.2.2.2.2.2.2.2.1 x.2.2.2.2.2.2.2.2.2.2.2.2.2.2.1 x.2.2.2.2.2.2.2.2.2.2.2.2.2.2.2.1 x.2.2.2.2.2.2.2.2.2.2.2.2.2.2.2.2.1 x.2.2.2.2.2.2.2.2.2.2.2.2.2.2.2.2.2.1 x.2.2.2.2.2.2.2.2.2.2.2.2.2.2.2.2.2.2.1 x.2.2.2.2.2.2.2.2.2.2.2.2.2.2.2.2.2.2.2.1 x.2.2.2.2.2.2.2.2.2.2.2.2.2.2.2.2.2.2.2.2.1 x.2.2.2.2.2.2.2.2.2.2.2.2.2.2.2.2.2.2.2.2.2.1 x.2.2.2.2.2.2.2.2.2.2.2.2.2.2.2.2.2.2.2.2.2.2) (b22, b23, l24, b25, b26, l27, n28, b29, b30, es31, n32, b33, b34, es35, b36, b37, es38, b39, b40, es41, n42, n43, n44)
def sh_coupletlaw05_VecWhole_0 : StSh := ⟨181, [(0, (.p (.isl .i64))), (1, (.p (.isl .i64))), (2, (.p (.int .i64))), (7, (.p (.sl 3))), (9, (.p (.int .i64))), (10, (.p (.sl 3))), (11, (.p (.sl 3))), (12, (.p (.sl 3))), (13, (.p (.int .i64))), (86, (.p (.int .i64))), (87, (.p (.int .i64)))], []⟩
def sx_coupletlaw05_VecWhole_0 (x : (Bool × Bool × List Int × Bool × Bool × List Int × Int × Bool × Bool × List PV × Int × Bool × Bool × List PV × Bool × Bool × List PV × Bool × Bool × List PV × Int × Int × Int)) : St := ⟨slots 181 0 [(0, (.p (.isl x.1 x.2.1 .i64 x.2.2.1))), (1, (.p (.isl x.2.2.2.1 x.2.2.2.2.1 .i64 x.2.2.2.2.2.1))), (2, (.p (.int .i64 x.2.2.2.2.2.2.1))), (7, (.p (.sl x.2.2.2.2.2.2.2.1 x.2.2.2.2.2.2.2.2.1 3 x.2.2.2.2.2.2.2.2.2.1))), (9, (.p (.int .i64 x.2.2.2.2.2.2.2.2.2.2.1))), (10, (.p (.sl x.2.2.2.2.2.2.2.2.2.2.2.1 x.2.2.2.2.2.2.2.2.2.2.2.2.1 3 x.2.2.2.2.2.2.2.2.2.2.2.2.2.1))), (11, (.p (.sl x.2.2.2.2.2.2.2.2.2.2.2.2.2.2.1 x.2.2.2.2.2.2.2.2.2.2.2.2.2.2.2.1 3 x.2.2.2.2.2.2.2.2.2.2.2.2.2.2.2.2.1))), (12, (.p (.sl x.2.2.2.2.2.2.2.2.2.2.2.2.2.2.2.2.2.1 x.2.2.2.2.2.2.2.2.2.2.2.2.2.2.2.2.2.2.1 3 x.2.2.2.2.2.2.2.2.2.2.2.2.2.2.2.2.2.2.2.1))), (13, (.p (.int .i64 x.2.2.2.2.2.2.2.2.2.2.2.2.2.2.2.2.2.2.2.2.1))), (86, (.p (.int .i64 x.2.2.2.2.2.2.2.2.2.2.2.2.2.2.2.2.2.2.2.2.2.1))), (87, (.p (.int .i64 x.2.2.2.2.2.2.2.2.2.2.2.2.2.2.2.2.2.2.2.2.2.2)))], []⟩
def sa_coupletlaw05_VecWhole_0 (S : St) : (Bool × Bool × List Int × Bool × Bool × List Int × Int × Bool × Bool × List PV × Int × Bool × Bool × List PV × Bool × Bool × List PV × Bool × Bool × List PV × Int × Int × Int) := (((tls 0 S.t).headD .any).pv.nl, ((tls 0 S.t).headD .any).pv.ex, ((tls 0 S.t).headD .any).pv.ints, ((tls 1 S.t).headD .any).pv.nl, ((tls 1 S.t).headD .any).pv.ex, ((tls 1 S.t).headD .any).pv.ints, ((tls 2 S.t).headD .any).pv.num, ((tls 7 S.t).headD .any).pv.nl, ((tls 7 S.t).headD .any).pv.ex, ((tls 7 S.t).headD .any).pv.elts, ((tls 9 S.t).headD .any).pv.num, ((tls 10 S.t).headD .any).pv.nl, ((tls 10 S.t).headD .any).pv.ex, ((tls 10 S.t).headD .any).pv.elts, ((tls 11 S.t).headD .any).pv.nl, ((tls 11 S.t).headD .any).pv.ex, ((tls 11 S.t).headD .any).pv.elts, ((tls 12 S.t).headD .any).pv.nl, ((tls 12 S.t).headD .any).pv.ex, ((tls 12 S.t).headD .any).pv.elts, ((tls 13 S.t).headD .any).pv.num, ((tls 86 S.t).headD .any).pv.num, ((tls 87 S.t).headD .any).pv.num)
def tz_coupletlaw05_VecWhole_0_1 : StSh := ⟨181, [(6, (.p .bool))], []⟩
def tx_coupletlaw05_VecWhole_0_1 (x : Bool) : St := ⟨slots 181 0 [(6, (.p (.bool x)))], []⟩
def ta_coupletlaw05_VecWhole_0_1 (S : St) : Bool := ((tls 6 S.t).headD .any).pv.tru
def tz_coupletlaw05_VecWhole_0_0 : StSh := ⟨181, [(7, (.p (.sl 3))), (13, (.p (.int .i64)))], []⟩
def tx_coupletlaw05_VecWhole_0_0 (x : (Bool × Bool × List PV × Int)) : St := ⟨slots 181 0 [(7, (.p (.sl x.1 x.2.1 3 x.2.2.1))), (13, (.p (.int .i64 x.2.2.2)))], []⟩
def ta_coupletlaw05_VecWhole_0_0 (S : St) : (Bool × Bool × List PV × Int) := (((tls 7 S.t).headD .any).pv.nl, ((tls 7 S.t).headD .any).pv.ex, ((tls 7 S.t).headD .any).pv.elts, ((tls 13 S.t).headD .any).pv.num)
def kb_coupletlaw05_VecWhole_0 : Exit → St → Tree (((Bool × Bool × List Int × Bool × Bool × List Int × Int × Bool × Bool × List PV × Int × Bool × Bool × List PV × Bool × Bool × List PV × Bool × Bool × List PV × Int × Int × Int)) ⊕ (((Bool × Bool × List PV × Int)) ⊕ (Bool))) := (exOne (.exit 0) [7, 13] tz_coupletlaw05_VecWhole_0_0 ta_coupletlaw05_VecWhole_0_0 (fun y => Sum.inr ((Sum.inl y))) (exOne .ret [6] tz_coupletlaw05_VecWhole_0_1 ta_coupletlaw05_VecWhole_0_1 (fun y => Sum.inr ((Sum.inr y))) exNil))
def ky_coupletlaw05_VecWhole_0 : Dec (((Bool × Bool × List PV × Int)) ⊕ (Bool)) := fun _ y ke => .sum y (fun a => ke ((.exit 0) : EK).ex (tx_coupletlaw05_VecWhole_0_0 a)) (fun y' => ke (.ret : EK).ex (tx_coupletlaw05_VecWhole_0_1 y'))
theorem kk_coupletlaw05_VecWhole_0 : ExOk Sum.inr kb_coupletlaw05_VecWhole_0 ky_coupletlaw05_VecWhole_0 := (ExOk.one (acc := ta_coupletlaw05_VecWhole_0_0) (bY := tx_coupletlaw05_VecWhole_0_0) (inj1 := fun y => (Sum.inl y)) (fun S => by kernel_rfl) (fun y _ ke => .inr (by kernel_rfl)) (ExOk.one (acc := ta_coupletlaw05_VecWhole_0_1) (bY := tx_coupletlaw05_VecWhole_0_1) (inj1 := fun y => (Sum.inr y)) (fun S => by kernel_rfl) (fun y _ ke => .inr (by kernel_rfl)) ExOk.nil))
def lm_coupletlaw05_VecWhole : Lam := fun _ j S kn ke => match j with
  | 0 => prepT [0, 1, 2, 7, 9, 10, 11, 12, 13, 86, 87] [] S fun S => .chk (sh_coupletlaw05_VecWhole_0.ok S) (.bind (loopN (fun x => st_coupletlaw05_VecWhole_0 x.1 x.2.1 x.2.2.1 x.2.2.2.1 x.2.2.2.2.1 x.2.2.2.2.2.1 x.2.2.2.2.2.2.1 x.2.2.2.2.2.2.2.1 x.2.2.2.2.2.2.2.2.1 x.2.2.2.2.2.2.2.2.2.1 x.2.2.2.2.2.2.2.2.2.2.1 x.2.2.2.2.2.2.2.2.2.2.2.1 x.2.2.2.2.2.2.2.2.2.2.2.2.1 x.2.2.2.2.2.2.2.2.2.2.2.2.2.1 x.2.2.2.2.2.2.2.2.2.2.2.2.2.2.1 x.2.2.2.2.2.2.2.2.2.2.2.2.2.2.2.1 x.2.2.2.2.2.2.2.2.2.2.2.2.2.2.2.2.1 x.2.2.2.2.2.2.2.2.2.2.2.2.2.2.2.2.2.1 x.2.2.2.2.2.2.2.2.2.2.2.2.2.2.2.2.2.2.1 x.2.2.2.2.2.2.2.2.2.2.2.2.2.2.2.2.2.2.2.1 x.2.2.2.2.2.2.2.2.2.2.2.2.2.2.2.2.2.2.2.2.1 x.2.2.2.2.2.2.2.2.2.2.2.2.2.2.2.2.2.2.2.2.2.1 x.2.2.2.2.2.2.2.2.2.2.2.2.2.2.2.2.2.2.2.2.2.2) (sa_coupletlaw05_VecWhole_0 S)) fun y => ky_coupletlaw05_VecWhole_0 _ y ke)
  | _ => .fail
theorem sr_coupletlaw05_VecWhole_0 (x : (Bool × Bool × List Int × Bool × Bool × List Int × Int × Bool × Bool × List PV × Int × Bool × Bool × List PV × Bool × Bool × List PV × Bool × Bool × List PV × Int × Int × Int)) : (ev GG gm_coupletlaw05_VecWhole lm_coupletlaw05_VecWhole xb_coupletlaw05_VecWhole_0 (sx_coupletlaw05_VecWhole_0 x) (fun S => forgetT [0, 1, 2, 7, 9, 10, 11, 12, 13, 86, 87] S fun S => prepT [0, 1, 2, 7, 9, 10, 11, 12, 13, 86, 87] [] S fun S => .chk (sh_coupletlaw05_VecWhole_0.ok S) (.leaf (.inl (sa_coupletlaw05_VecWhole_0 S)))) kb_coupletlaw05_VecWhole_0).run = st_coupletlaw05_VecWhole_0 x.1 x.2.1 x.2.2.1 x.2.2.2.1 x.2.2.2.2.1 x.2.2.2.2.2.1 x.2.2.2.2.2.2.1 x.2.2.2.2.2.2.2.1 x.2.2.2.2.2.2.2.2.1 x.2.2.2.2.2.2.2.2.2.1 x.2.2.2.2.2.2.2.2.2.2.1 x.2.2.2.2.2.2.2.2.2.2.2.1 x.2.2.2.2.2.2.2.2.2.2.2.2.1 x.2.2.2.2.2.2.2.2.2.2.2.2.2.1 x.2.2.2.2.2.2.2.2.2.2.2.2.2.2.1 x.2.2.2.2.2.2.2.2.2.2.2.2.2.2.2.1 x.2.2.2.2.2.2.2.2.2.2.2.2.2.2.2.2.1 x.2.2.2.2.2.2.2.2.2.2.2.2.2.2.2.2.2.1 x.2.2.2.2.2.2.2.2.2.2.2.2.2.2.2.2.2.2.1 x.2.2.2.2.2.2.2.2.2.2.2.2.2.2.2.2.2.2.2.1 x.2.2.2.2.2.2.2.2.2.2.2.2.2.2.2.2.2.2.2.2.1 x.2.2.2.2.2.2.2.2.2.2.2.2.2.2.2.2.2.2.2.2.2.1 x.2.2.2.2.2.2.2.2.2.2.2.2.2.2.2.2.2.2.2.2.2.2 := by kernel_rfl
theorem la_coupletlaw05_VecWhole_0 : LamAt Try.prog GG lm_coupletlaw05_VecWhole 0 (.loop [0, 1, 2, 7, 9, 10, 11, 12, 13, 86, 87] xb_coupletlaw05_VecWhole_0.erase) := lam_loop (body := xb_coupletlaw05_VecWhole_0) (Λ' := lm_coupletlaw05_VecWhole) gk_coupletlaw05_VecWhole (⟨trivial, ⟨⟨trivial, trivial⟩, ⟨⟨trivial, ⟨⟨trivial, ⟨⟨trivial, trivial⟩, trivial⟩⟩, ⟨trivial, ⟨trivial, ⟨⟨trivial, trivial⟩, trivial⟩⟩⟩⟩⟩, trivial⟩⟩⟩) (fun S => (by kernel_rfl : sh_coupletlaw05_VecWhole_0.build S = sx_coupletlaw05_VecWhole_0 (sa_coupletlaw05_VecWhole_0 S))) kk_coupletlaw05_VecWhole_0 sr_coupletlaw05_VecWhole_0 (fun _ _ _ => rfl)
/-- coupletlaw05_VecWhole -/
def go_coupletlaw05_VecWhole (b0 : Bool) (b1 : Bool) (l2 : List Int) (b3 : Bool) (b4 : Bool) (l5 : List Int) (n6 : Int) : Option Bool :=
  (go_coupletlaw05_Few b0 b1 l2).bind fun r7 =>
  bif (!r7) then
   (go_coupletlaw05_awake).bind fun r8 =>
   some r8
  else
   (go_coupletlaw05_Few b3 b4 l5).bind fun r9 =>
   bif (!r9) then
    (go_coupletlaw05_awake).bind fun r10 =>
    some r10
   else
    bif (decide (n6 < (-1000))) then
     (go_coupletlaw05_awake).bind fun r11 =>
     some r11
    else
     bif (decide (n6 > 1000)) then
      (go_coupletlaw05_awake).bind fun r12 =>
      some r12
     else
      (go_vec_Whole_frac_Frac b0 b1 l2).bind fun r13 =>
      (go_vec_Whole_frac_Frac b3 b4 l5).bind fun r14 =>
      (go_vec_Add_frac_Frac r13.1 r13.2.1 r13.2.2 r14.1 r14.2.1 r14.2.2).bind fun r15 =>
      (go_vec_Sub_frac_Frac r13.1 r13.2.1 r13.2.2 r14.1 r14.2.1 r14.2.2).bind fun r16 =>
      (go_frac_New n6 1).bind fun r17 =>
      (go_vec_Scale_frac_Frac r13.1 r13.2.1 r13.2.2 r17.1 r17.2.1 r17.2.2).bind fun r18 =>
      (go_vec_Dot_frac_Frac r13.1 r13.2.1 r13.2.2 r14.1 r14.2.1 r14.2.2).bind fun r19 =>
      (go_coupletref05_Dot b0 b1 l2 b3 b4 l5).bind fun r20 =>
      (go_frac_New r20 1).bind fun r21 =>
      bif (!((r19.1 == r21.1) && ((r19.2.1 == r21.2.1) && ((r19.2.2 == r21.2.2) && true)))) then
       some false
      else
       bif ((((List.length r15.2.2) : Nat) : Int) != (min (((List.length l2) : Nat) : Int) (((List.length l5) : Nat) : Int))) then
        some false
       else
        bif ((((List.length r16.2.2) : Nat) : Int) != (min (((List.length l2) : Nat) : Int) (((List.length l5) : Nat) : Int))) then
         some false
        else
         bif ((((List.length r18.2.2) : Nat) : Int) != (((List.length l2) : Nat) : Int)) then
          some false
         else
          bif ((((List.length r13.2.2) : Nat) : Int) != (((List.length l2) : Nat) : Int)) then
           some false
          else
           (lp_coupletlaw05_VecWhole_0 b0 b1 l2 b3 b4 l5 n6 r13.1 r13.2.1 r13.2.2 (min (((List.length l2) : Nat) : Int) (((List.length l5) : Nat) : Int)) r15.1 r15.2.1 r15.2.2 r16.1 r16.2.1 r16.2.2 r18.1 r18.2.1 r18.2.2 0 (((List.length l2) : Nat) : Int) 0).bind fun y51 =>
           Sum.elim (fun z52 =>
            (go_vec_Sum_frac_Frac z52.1 z52.2.1 z52.2.2.1).bind fun r53 =>
            (go_frac_New z52.2.2.2 1).bind fun r54 =>
            bif ((r53.1 == r54.1) && ((r53.2.1 == r54.2.1) && ((r53.2.2 == r54.2.2) && true))) then
             (go_coupletlaw05_awake).bind fun r55 =>
             some r55
            else
             some false) (fun z56 =>
            some z56) y51
def em_coupletlaw05_VecWhole (r : Bool) : PV := (.bool r)
def rh_coupletlaw05_VecWhole : Shp := .bool
def ra_coupletlaw05_VecWhole (v : PV) : Bool := v.tru
def kf_coupletlaw05_VecWhole (v : PV) : Tree Bool := .chk (rh_coupletlaw05_VecWhole.ok v) (.leaf (ra_coupletlaw05_VecWhole v))
theorem rn_coupletlaw05_VecWhole (b0 : Bool) (b1 : Bool) (l2 : List Int) (b3 : Bool) (b4 : Bool) (l5 : List Int) (n6 : Int) : (ev GG gm_coupletlaw05_VecWhole lm_coupletlaw05_VecWhole xr_coupletlaw05_VecWhole ⟨slots 181 0 [(0, .p (.isl b0 b1 .i64 l2)), (1, .p (.isl b3 b4 .i64 l5)), (2, .p (.int .i64 n6))], []⟩ (fun S => finT Try.prog rs_coupletlaw05_VecWhole S kf_coupletlaw05_VecWhole) (retT Try.prog rs_coupletlaw05_VecWhole kf_coupletlaw05_VecWhole)).run = go_coupletlaw05_VecWhole b0 b1 l2 b3 b4 l5 n6 := by kernel_rfl
theorem ok_coupletlaw05_VecWhole (b0 : Bool) (b1 : Bool) (l2 : List Int) (b3 : Bool) (b4 : Bool) (l5 : List Int) (n6 : Int) (r : Bool) (h : go_coupletlaw05_VecWhole b0 b1 l2 b3 b4 l5 n6 = some r) : FunEq Try.prog GG 21 [(.isl b0 b1 .i64 l2), (.isl b3 b4 .i64 l5), (.int .i64 n6)] (em_coupletlaw05_VecWhole r) :=
  fun_of_ev (x := xr_coupletlaw05_VecWhole) (Λ := lm_coupletlaw05_VecWhole) gk_coupletlaw05_VecWhole [[0, 1, 2, 7, 9, 10, 11, 12, 13, 86, 87]] Try.func21 rfl (by kernel_rfl) ir_coupletlaw05_VecWhole (by kernel_rfl) (congrArg Array.toList Try.results21) Try.ntmps21 (⟨trivial, ⟨⟨trivial, ⟨⟨trivial, trivial⟩, trivial⟩⟩, ⟨trivial, ⟨trivial, ⟨trivial, ⟨⟨trivial, ⟨⟨trivial, trivial⟩, trivial⟩⟩, ⟨trivial, ⟨⟨trivial, la_coupletlaw05_VecWhole_0⟩, ⟨trivial, trivial⟩⟩⟩⟩⟩⟩⟩⟩⟩) (leaf_of fun v => (by kernel_rfl : rh_coupletlaw05_VecWhole.build v = em_coupletlaw05_VecWhole (ra_coupletlaw05_VecWhole v))) (by kernel_rfl) ((rn_coupletlaw05_VecWhole b0 b1 l2 b3 b4 l5 n6).trans h)
def as_coupletlaw05_VecWhole : List Shp := [(.isl .i64), (.isl .i64), (.int .i64)]
def ga_coupletlaw05_VecWhole (vs : List PV) : Option Bool := go_coupletlaw05_VecWhole ((tls 0 vs).headD .nilSl).nl ((tls 0 vs).headD .nilSl).ex ((tls 0 vs).headD .nilSl).ints ((tls 1 vs).headD .nilSl).nl ((tls 1 vs).headD .nilSl).ex ((tls 1 vs).headD .nilSl).ints ((tls 2 vs).headD .nilSl).num
theorem at_coupletlaw05_VecWhole : FnAt Try.prog GG 21 as_coupletlaw05_VecWhole ga_coupletlaw05_VecWhole em_coupletlaw05_VecWhole := fun vs h r hr => by
  have e : Shp.buildL as_coupletlaw05_VecWhole vs = [(.isl ((tls 0 vs).headD .nilSl).nl ((tls 0 vs).headD .nilSl).ex .i64 ((tls 0 vs).headD .nilSl).ints), (.isl ((tls 1 vs).headD .nilSl).nl ((tls 1 vs).headD .nilSl).ex .i64 ((tls 1 vs).headD .nilSl).ints), (.int .i64 ((tls 2 vs).headD .nilSl).num)] := by kernel_rfl
  rw [← Shp.buildL_eq _ h, e]
  exact .inl ⟨by decide, ok_coupletlaw05_VecWhole _ _ _ _ _ _ _ r hr⟩

def xr_coupletlaw05_VecRules : XR := (.seq (.ops false [⟨⟨(some 8), (.mv (.c (.bool false))), none⟩, none⟩]) (.seq (.seq (.ops false [⟨⟨(some 13), (.mv (.tmp 0)), none⟩, none⟩, ⟨⟨(some 14), (.call (.func 54) [(.tmp 13)]), none⟩, none⟩, ⟨⟨(some 15), (.un .not (.tmp 14)), none⟩, none⟩, ⟨⟨(some 16), (.mv (.tmp 15)), none⟩, none⟩, ⟨⟨(some 17), (.mv (.tmp 1)), (some (16, false))⟩, none⟩, ⟨⟨(some 18), (.call (.func 54) [(.tmp 17)]), (some (16, false))⟩, none⟩, ⟨⟨(some 19), (.un .not (.tmp 18)), (some (16, false))⟩, none⟩, ⟨⟨(some 20), (.pick (.tmp 16) (.c (.bool true)) (.tmp 19)), none⟩, none⟩, ⟨⟨(some 21), (.mv (.tmp 20)), none⟩, none⟩, ⟨⟨(some 22), (.mv (.tmp 2)), (some (21, false))⟩, none⟩, ⟨⟨(some 23), (.call (.func 54) [(.tmp 22)]), (some (21, false))⟩, none⟩, ⟨⟨(some 24), (.un .not (.tmp 23)), (some (21, false))⟩, none⟩, ⟨⟨(some 25), (.pick (.tmp 21) (.c (.bool true)) (.tmp 24)), none⟩, none⟩, ⟨⟨(some 26), (.mv (.tmp 25)), none⟩, none⟩, ⟨⟨(some 27), (.mv (.tmp 3)), (some (26, false))⟩, none⟩, ⟨⟨(some 28), (.bin .lss (.tmp 27) (.c (.int .i64 (-10)))), (some (26, false))⟩, none⟩, ⟨⟨(some 29), (.pick (.tmp 26) (.c (.bool true)) (.tmp 28)), none⟩, none⟩, ⟨⟨(some 30), (.mv (.tmp 29)), none⟩, none⟩, ⟨⟨(some 31), (.mv (.tmp 3)), (some (30, false))⟩, none⟩, ⟨⟨(some 32), (.bin .gtr (.tmp 31) (.c (.int .i64 (10)))), (some (30, false))⟩, none⟩, ⟨⟨(some 33), (.pick (.tmp 30) (.c (.bool true)) (.tmp 32)), none⟩, none⟩, ⟨⟨(some 34), (.mv (.tmp 33)), none⟩, none⟩, ⟨⟨(some 35), (.mv (.tmp 0)), (some (34, false))⟩, none⟩, ⟨⟨(some 36), (.len (.tmp 35)), (some (34, false))⟩, none⟩, ⟨⟨(some 37), (.mv (.tmp 1)), (some (34, false))⟩, none⟩, ⟨⟨(some 38), (.len (.tmp 37)), (some (34, false))⟩, none⟩, ⟨⟨(some 39), (.bin .neq (.tmp 36) (.tmp 38)), (some (34, false))⟩, none⟩, ⟨⟨(some 40), (.pick (.tmp 34) (.c (.bool true)) (.tmp 39)), none⟩, none⟩, ⟨⟨(some 41), (.mv (.tmp 40)), none⟩, none⟩, ⟨⟨(some 42), (.mv (.tmp 0)), (some (41, false))⟩, none⟩, ⟨⟨(some 43), (.len (.tmp 42)), (some (41, false))⟩, none⟩, ⟨⟨(some 44), (.mv (.tmp 2)), (some (41, false))⟩, none⟩, ⟨⟨(some 45), (.len (.tmp 44)), (some (41, false))⟩, none⟩, ⟨⟨(some 46), (.bin .neq (.tmp 43) (.tmp 45)), (some (41, false))⟩, none⟩, ⟨⟨(some 47), (.pick (.tmp 41) (.c (.bool true)) (.tmp 46)), none⟩, none⟩]) (.cond (.tmp 47) (.seq (.ops false [⟨⟨(some 48), (.call (.func 50) []), none⟩, none⟩, ⟨⟨(some 8), (.mv (.tmp 48)), none⟩, none⟩]) .ret) .skip)) (.seq (.ops false [⟨⟨(some 49), (.mv (.tmp 0)), none⟩, none⟩, ⟨⟨(some 50), (.call (.func 55) [(.tmp 49)]), none⟩, none⟩, ⟨⟨(some 51), (.mv (.tmp 1)), none⟩, none⟩, ⟨⟨(some 52), (.call (.func 55) [(.tmp 51)]), none⟩, none⟩, ⟨⟨(some 53), (.mv (.tmp 2)), none⟩, none⟩, ⟨⟨(some 54), (.call (.func 55) [(.tmp 53)]), none⟩, none⟩, ⟨⟨(some 9), (.mv (.tmp 50)), none⟩, none⟩, ⟨⟨(some 10), (.mv (.tmp 52)), none⟩, none⟩, ⟨⟨(some 11), (.mv (.tmp 54)), none⟩, none⟩]) (.seq (.ops false [⟨⟨(some 55), (.mv (.tmp 3)), none⟩, none⟩, ⟨⟨(some 56), (.call (.func 58) [(.tmp 55), (.c (.int .i64 (1)))]), none⟩, none⟩, ⟨⟨(some 12), (.alloc 58 [(.int .i64 (0)), (.int .i64 (0)), (.bool false)]), none⟩, none⟩, ⟨⟨none, (.st 3 (.tmp 12) (.tmp 56)), none⟩, none⟩]) (.seq (.ops true [⟨⟨(some 57), (.mv (.tmp 9)), none⟩, none⟩, ⟨⟨(some 58), (.mv (.tmp 10)), none⟩, none⟩, ⟨⟨(some 59), (.call (.func 59) [(.tmp 57), (.tmp 58)]), none⟩, none⟩, ⟨⟨(some 60), (.mv (.tmp 10)), none⟩, none⟩, ⟨⟨(some 61), (.mv (.tmp 9)), none⟩, none⟩, ⟨⟨(some 62), (.call (.func 59) [(.tmp 60), (.tmp 61)]), none⟩, none⟩, ⟨⟨(some 63), (.eqAgg false [(.int .i64), (.int .i64), .bool] (.tmp 59) (.tmp 62)), none⟩, none⟩, ⟨⟨(some 64), (.mv (.tmp 63)), none⟩, none⟩, ⟨⟨(some 65), (.mv (.tmp 9)), (some (64, true))⟩, none⟩, ⟨⟨(some 66), (.mv (.tmp 10)), (some (64, true))⟩, none⟩, ⟨⟨(some 67), (.call (.func 64) [(.tmp 65), (.tmp 66)]), (some (64, true))⟩, none⟩, ⟨⟨(some 68), (.mv (.tmp 11)), (some (64, true))⟩, none⟩, ⟨⟨(some 69), (.call (.func 59) [(.tmp 67), (.tmp 68)]), (some (64, true))⟩, none⟩, ⟨⟨(some 70), (.mv (.tmp 9)), (some (64, true))⟩, none⟩, ⟨⟨(some 71), (.mv (.tmp 11)), (some (64, true))⟩, none⟩, ⟨⟨(some 72), (.call (.func 59) [(.tmp 70), (.tmp 71)]), (some (64, true))⟩, none⟩, ⟨⟨(some 73), (.mv (.tmp 10)), (some (64, true))⟩, none⟩, ⟨⟨(some 74), (.mv (.tmp 11)), (some (64, true))⟩, none⟩, ⟨⟨(some 75), (.call (.func 59) [(.tmp 73), (.tmp 74)]), (some (64, true))⟩, none⟩, ⟨⟨(some 76), (.call (.func 57) [(.tmp 72), (.tmp 75)]), (some (64, true))⟩, none⟩, ⟨⟨(some 77), (.eqAgg false [(.int .i64), (.int .i64), .bool] (.tmp 69) (.tmp 76)), (some (64, true))⟩, none⟩, ⟨⟨(some 78), (.pick (.tmp 64) (.tmp 77) (.c (.bool false))), none⟩, none⟩, ⟨⟨(some 79), (.mv (.tmp 78)), none⟩, none⟩, ⟨⟨(some 80), (.mv (.tmp 9)), (some (79, true))⟩, none⟩, ⟨⟨(some 81), (.mv (.tmp 10)), (some (79, true))⟩, none⟩, ⟨⟨(some 82), (.call (.func 65) [(.tmp 80), (.tmp 81)]), (some (79, true))⟩, none⟩, ⟨⟨(some 83), (.mv (.tmp 11)), (some (79, true))⟩, none⟩, ⟨⟨(some 84), (.call (.func 59) [(.tmp 82), (.tmp 83)]), (some (79, true))⟩, none⟩, ⟨⟨(some 85), (.mv (.tmp 9)), (some (79, true))⟩, none⟩, ⟨⟨(some 86), (.mv (.tmp 11)), (some (79, true))⟩, none⟩, ⟨⟨(some 87), (.call (.func 59) [(.tmp 85), (.tmp 86)]), (some (79, true))⟩, none⟩, ⟨⟨(some 88), (.mv (.tmp 10)), (some (79, true))⟩, none⟩, ⟨⟨(some 89), (.mv (.tmp 11)), (some (79, true))⟩, none⟩, ⟨⟨(some 90), (.call (.func 59) [(.tmp 88), (.tmp 89)]), (some (79, true))⟩, none⟩, ⟨⟨(some 91), (.call (.func 68) [(.tmp 87), (.tmp 90)]), (some (79, true))⟩, none⟩, ⟨⟨(some 92), (.eqAgg false [(.int .i64), (.int .i64), .bool] (.tmp 84) (.tmp 91)), (some (79, true))⟩, none⟩, ⟨⟨(some 93), (.pick (.tmp 79) (.tmp 92) (.c (.bool false))), none⟩, none⟩, ⟨⟨(some 94), (.mv (.tmp 93)), none⟩, none⟩, ⟨⟨(some 95), (.mv (.tmp 9)), (some (94, true))⟩, none⟩, ⟨⟨(some 96), (.ld true 3 (.tmp 12)), (some (94, true))⟩, (some (.agg [(.int .i64), (.int .i64), .bool]))⟩, ⟨⟨(some 97), (.call (.func 66) [(.tmp 95), (.tmp 96)]), (some (94, true))⟩, none⟩, ⟨⟨(some 98), (.mv (.tmp 10)), (some (94, true))⟩, none⟩, ⟨⟨(some 99), (.call (.func 59) [(.tmp 97), (.tmp 98)]), (some (94, true))⟩, none⟩, ⟨⟨(some 100), (.mv (.tmp 9)), (some (94, true))⟩, none⟩, ⟨⟨(some 101), (.mv (.tmp 10)), (some (94, true))⟩, none⟩, ⟨⟨(some 102), (.call (.func 59) [(.tmp 100), (.tmp 101)]), (some (94, true))⟩, none⟩, ⟨⟨(some 103), (.ld true 3 (.tmp 12)), (some (94, true))⟩, (some (.agg [(.int .i64), (.int .i64), .bool]))⟩, ⟨⟨(some 104), (.call (.func 69) [(.tmp 102), (.tmp 103)]), (some (94, true))⟩, none⟩, ⟨⟨(some 105), (.eqAgg false [(.int .i64), (.int .i64), .bool] (.tmp 99) (.tmp 104)), (some (94, true))⟩, none⟩, ⟨⟨(some 106), (.pick (.tmp 94) (.tmp 105) (.c (.bool false))), none⟩, none⟩, ⟨⟨(some 107), (.mv (.tmp 106)), none⟩, none⟩, ⟨⟨(some 108), (.call (.func 50) []), (some (107, true))⟩, none⟩, ⟨⟨(some 109), (.pick (.tmp 107) (.tmp 108) (.c (.bool false))), none⟩, none⟩, ⟨⟨(some 8), (.mv (.tmp 109)), none⟩, none⟩]) .ret)))))
def rs_coupletlaw05_VecRules : List ResultVar := [(.tmp 8)]
theorem ir_coupletlaw05_VecRules : compCode Try.prog (Try.f22.body.getD .skip) [] = some (xr_coupletlaw05_VecRules.erase, []) := by kernel_rfl
/-! coupletlaw05_VecRules -/
def gm_coupletlaw05_VecRules : Gam := (Gam.fn 54 as_coupletlaw05_Few ga_coupletlaw05_Few em_coupletlaw05_Few (Gam.fn 50 as_coupletlaw05_awake ga_coupletlaw05_awake em_coupletlaw05_awake (Gam.fn 55 as_vec_Whole_frac_Frac ga_vec_Whole_frac_Frac em_vec_Whole_frac_Frac (Gam.fn 58 as_frac_New ga_frac_New em_frac_New (Gam.fn 59 as_vec_Dot_frac_Frac ga_vec_Dot_frac_Frac em_vec_Dot_frac_Frac (Gam.fn 64 as_vec_Add_frac_Frac ga_vec_Add_frac_Frac em_vec_Add_frac_Frac (Gam.fn 57 as_frac_Frac_Add ga_frac_Frac_Add em_frac_Frac_Add (Gam.fn 65 as_vec_Sub_frac_Frac ga_vec_Sub_frac_Frac em_vec_Sub_frac_Frac (Gam.fn 68 as_frac_Frac_Sub ga_frac_Frac_Sub em_frac_Frac_Sub (Gam.fn 66 as_vec_Scale_frac_Frac ga_vec_Scale_frac_Frac em_vec_Scale_frac_Frac (Gam.fn 69 as_frac_Frac_Mul ga_frac_Frac_Mul em_frac_Frac_Mul Gam.bot)))))))))))
theorem gk_coupletlaw05_VecRules : GamOk Try.prog GG gm_coupletlaw05_VecRules := (GamOk.fn at_coupletlaw05_Few (GamOk.fn at_coupletlaw05_awake (GamOk.fn at_vec_Whole_frac_Frac (GamOk.fn at_frac_New (GamOk.fn at_vec_Dot_frac_Frac (GamOk.fn at_vec_Add_frac_Frac (GamOk.fn at_frac_Frac_Add (GamOk.fn at_vec_Sub_frac_Frac (GamOk.fn at_frac_Frac_Sub (GamOk.fn at_vec_Scale_frac_Frac (GamOk.fn at_frac_Frac_Mul GamOk.bot)))))))))))
def lm_coupletlaw05_VecRules : Lam := fun _ j S kn ke => match j with
  | _ => .fail
/-- coupletlaw05_VecRules -/
def go_coupletlaw05_VecRules (b0 : Bool) (b1 : Bool) (l2 : List Int) (b3 : Bool) (b4 : Bool) (l5 : List Int) (b6 : Bool) (b7 : Bool) (l8 : List Int) (n9 : Int) : Option Bool :=
  (go_coupletlaw05_Few b0 b1 l2).bind fun r10 =>
  bif (!r10) then
   (go_coupletlaw05_awake).bind fun r11 =>
   some r11
  else
   (go_coupletlaw05_Few b3 b4 l5).bind fun r12 =>
   bif (!r12) then
    (go_coupletlaw05_awake).bind fun r13 =>
    some r13
   else
    (go_coupletlaw05_Few b6 b7 l8).bind fun r14 =>
    bif (!r14) then
     (go_coupletlaw05_awake).bind fun r15 =>
     some r15
    else
     bif (decide (n9 < (-10))) then
      (go_coupletlaw05_awake).bind fun r16 =>
      some r16
     else
      bif (decide (n9 > 10)) then
       (go_coupletlaw05_awake).bind fun r17 =>
       some r17
      else
       bif ((((List.length l2) : Nat) : Int) != (((List.length l5) : Nat) : Int)) then
        (go_coupletlaw05_awake).bind fun r18 =>
        some r18
       else
        bif ((((List.length l2) : Nat) : Int) != (((List.length l8) : Nat) : Int)) then
         (go_coupletlaw05_awake).bind fun r19 =>
         some r19
        else
         (go_vec_Whole_frac_Frac b0 b1 l2).bind fun r20 =>
         (go_vec_Whole_frac_Frac b3 b4 l5).bind fun r21 =>
         (go_vec_Whole_frac_Frac b6 b7 l8).bind fun r22 =>
         (go_frac_New n9 1).bind fun r23 =>
         (go_vec_Dot_frac_Frac r20.1 r20.2.1 r20.2.2 r21.1 r21.2.1 r21.2.2).bind fun r24 =>
         (go_vec_Dot_frac_Frac r21.1 r21.2.1 r21.2.2 r20.1 r20.2.1 r20.2.2).bind fun r25 =>
         bif ((r24.1 == r25.1) && ((r24.2.1 == r25.2.1) && ((r24.2.2 == r25.2.2) && true))) then
          (go_vec_Add_frac_Frac r20.1 r20.2.1 r20.2.2 r21.1 r21.2.1 r21.2.2).bind fun r26 =>
          (go_vec_Dot_frac_Frac r26.1 r26.2.1 r26.2.2 r22.1 r22.2.1 r22.2.2).bind fun r27 =>
          (go_vec_Dot_frac_Frac r20.1 r20.2.1 r20.2.2 r22.1 r22.2.1 r22.2.2).bind fun r28 =>
          (go_vec_Dot_frac_Frac r21.1 r21.2.1 r21.2.2 r22.1 r22.2.1 r22.2.2).bind fun r29 =>
          (go_frac_Frac_Add r28.1 r28.2.1 r28.2.2 r29.1 r29.2.1 r29.2.2).bind fun r30 =>
          bif ((r27.1 == r30.1) && ((r27.2.1 == r30.2.1) && ((r27.2.2 == r30.2.2) && true))) then
           (go_vec_Sub_frac_Frac r20.1 r20.2.1 r20.2.2 r21.1 r21.2.1 r21.2.2).bind fun r31 =>
           (go_vec_Dot_frac_Frac r31.1 r31.2.1 r31.2.2 r22.1 r22.2.1 r22.2.2).bind fun r32 =>
           (go_vec_Dot_frac_Frac r20.1 r20.2.1 r20.2.2 r22.1 r22.2.1 r22.2.2).bind fun r33 =>
           (go_vec_Dot_frac_Frac r21.1 r21.2.1 r21.2.2 r22.1 r22.2.1 r22.2.2).bind fun r34 =>
           (go_frac_Frac_Sub r33.1 r33.2.1 r33.2.2 r34.1 r34.2.1 r34.2.2).bind fun r35 =>
           bif ((r32.1 == r35.1) && ((r32.2.1 == r35.2.1) && ((r32.2.2 == r35.2.2) && true))) then
            (go_vec_Scale_frac_Frac r20.1 r20.2.1 r20.2.2 r23.1 r23.2.1 r23.2.2).bind fun r36 =>
            (go_vec_Dot_frac_Frac r36.1 r36.2.1 r36.2.2 r21.1 r21.2.1 r21.2.2).bind fun r37 =>
            (go_vec_Dot_frac_Frac r20.1 r20.2.1 r20.2.2 r21.1 r21.2.1 r21.2.2).bind fun r38 =>
            (go_frac_Frac_Mul r38.1 r38.2.1 r38.2.2 r23.1 r23.2.1 r23.2.2).bind fun r39 =>
            bif ((r37.1 == r39.1) && ((r37.2.1 == r39.2.1) && ((r37.2.2 == r39.2.2) && true))) then
             (go_coupletlaw05_awake).bind fun r40 =>
             some r40
            else
             some false
           else
            some false
          else
           some false
         else
          some false
def em_coupletlaw05_VecRules (r : Bool) : PV := (.bool r)
def rh_coupletlaw05_VecRules : Shp := .bool
def ra_coupletlaw05_VecRules (v : PV) : Bool := v.tru
def kf_coupletlaw05_VecRules (v : PV) : Tree Bool := .chk (rh_coupletlaw05_VecRules.ok v) (.leaf (ra_coupletlaw05_VecRules v))
theorem rn_coupletlaw05_VecRules (b0 : Bool) (b1 : Bool) (l2 : List Int) (b3 : Bool) (b4 : Bool) (l5 : List Int) (b6 : Bool) (b7 : Bool) (l8 : List Int) (n9 : Int) : (ev GG gm_coupletlaw05_VecRules lm_coupletlaw05_VecRules xr_coupletlaw05_VecRules ⟨slots 110 0 [(0, .p (.isl b0 b1 .i64 l2)), (1, .p (.isl b3 b4 .i64 l5)), (2, .p (.isl b6 b7 .i64 l8)), (3, .p (.int .i64 n9))], []⟩ (fun S => finT Try.prog rs_coupletlaw05_VecRules S kf_coupletlaw05_VecRules) (retT Try.prog rs_coupletlaw05_VecRules kf_coupletlaw05_VecRules)).run = go_coupletlaw05_VecRules b0 b1 l2 b3 b4 l5 b6 b7 l8 n9 := by kernel_rfl
theorem ok_coupletlaw05_VecRules (b0 : Bool) (b1 : Bool) (l2 : List Int) (b3 : Bool) (b4 : Bool) (l5 : List Int) (b6 : Bool) (b7 : Bool) (l8 : List Int) (n9 : Int) (r : Bool) (h : go_coupletlaw05_VecRules b0 b1 l2 b3 b4 l5 b6 b7 l8 n9 = some r) : FunEq Try.prog GG 22 [(.isl b0 b1 .i64 l2), (.isl b3 b4 .i64 l5), (.isl b6 b7 .i64 l8), (.int .i64 n9)] (em_coupletlaw05_VecRules r) :=
  fun_of_ev (x := xr_coupletlaw05_VecRules) (Λ := lm_coupletlaw05_VecRules) gk_coupletlaw05_VecRules [] Try.func22 rfl (by kernel_rfl) ir_coupletlaw05_VecRules (by kernel_rfl) (congrArg Array.toList Try.results22) Try.ntmps22 (⟨trivial, ⟨⟨trivial, ⟨⟨trivial, trivial⟩, trivial⟩⟩, ⟨trivial, ⟨trivial, ⟨trivial, trivial⟩⟩⟩⟩⟩) (leaf_of fun v => (by kernel_rfl : rh_coupletlaw05_VecRules.build v = em_coupletlaw05_VecRules (ra_coupletlaw05_VecRules v))) (by kernel_rfl) ((rn_coupletlaw05_VecRules b0 b1 l2 b3 b4 l5 b6 b7 l8 n9).trans h)
def as_coupletlaw05_VecRules : List Shp := [(.isl .i64), (.isl .i64), (.isl .i64), (.int .i64)]
def ga_coupletlaw05_VecRules (vs : List PV) : Option Bool := go_coupletlaw05_VecRules ((tls 0 vs).headD .nilSl).nl ((tls 0 vs).headD .nilSl).ex ((tls 0 vs).headD .nilSl).ints ((tls 1 vs).headD .nilSl).nl ((tls 1 vs).headD .nilSl).ex ((tls 1 vs).headD .nilSl).ints ((tls 2 vs).headD .nilSl).nl ((tls 2 vs).headD .nilSl).ex ((tls 2 vs).headD .nilSl).ints ((tls 3 vs).headD .nilSl).num
theorem at_coupletlaw05_VecRules : FnAt Try.prog GG 22 as_coupletlaw05_VecRules ga_coupletlaw05_VecRules em_coupletlaw05_VecRules := fun vs h r hr => by
  have e : Shp.buildL as_coupletlaw05_VecRules vs = [(.isl ((tls 0 vs).headD .nilSl).nl ((tls 0 vs).headD .nilSl).ex .i64 ((tls 0 vs).headD .nilSl).ints), (.isl ((tls 1 vs).headD .nilSl).nl ((tls 1 vs).headD .nilSl).ex .i64 ((tls 1 vs).headD .nilSl).ints), (.isl ((tls 2 vs).headD .nilSl).nl ((tls 2 vs).headD .nilSl).ex .i64 ((tls 2 vs).headD .nilSl).ints), (.int .i64 ((tls 3 vs).headD .nilSl).num)] := by kernel_rfl
  rw [← Shp.buildL_eq _ h, e]
  exact .inl ⟨by decide, ok_coupletlaw05_VecRules _ _ _ _ _ _ _ _ _ _ r hr⟩
end Go.Proofs
