import Derived.Test.YtbfhholefjngpaaWSVpf
import Derived.Test.YtbfhholefjngpaaWGV1
import Derived.Test.YtbfhholefjngpaaWGE2
import Derived.Test.YtbfhholefjngpaaWSVpn
import Derived.Test.YtbfhholefjngpaaFxRng
import Derived.Test.YtbfhholefjngpaaChecked
set_option linter.unusedVariables false
set_option maxRecDepth 100000
noncomputable section
namespace Go.Proofs
open Go Go.Fx
def xb_vec_Sum_env_Num_0 : XR := (.seq (.ops false [⟨⟨(some 13), (.bin .lss (.tmp 12) (.tmp 11)), none⟩, none⟩]) (.seq (.cond (.tmp 13) .skip (.exit 0)) (.seq (.block 1 (.seq (.ops false [⟨⟨(some 14), (.ixA 4 (.tmp 10) (.tmp 12)), none⟩, none⟩, ⟨⟨(some 15), (.ld true 4 (.tmp 14)), none⟩, (some (.agg [(.int .i64), (.int .i64), (.int .i64), .bool]))⟩, ⟨⟨(some 6), (.alloc 36 [(.int .i64 (0)), (.int .i64 (0)), (.int .i64 (0)), (.bool false)]), none⟩, none⟩, ⟨⟨none, (.st 4 (.tmp 6) (.tmp 15)), none⟩, none⟩]) (.ops false [⟨⟨(some 16), (.ld true 4 (.tmp 4)), none⟩, (some (.agg [(.int .i64), (.int .i64), (.int .i64), .bool]))⟩, ⟨⟨(some 17), (.mkI 36 (.tmp 16)), none⟩, none⟩, ⟨⟨(some 18), (.ld true 4 (.tmp 6)), none⟩, (some (.agg [(.int .i64), (.int .i64), (.int .i64), .bool]))⟩, ⟨⟨(some 19), (.callI 43 36 (.tmp 17) [(.tmp 18)]), none⟩, none⟩, ⟨⟨none, (.st 4 (.tmp 4) (.tmp 19)), none⟩, none⟩]))) (.ops false [⟨⟨(some 20), (.bin .add (.tmp 12) (.c (.int .i64 (1)))), none⟩, none⟩, ⟨⟨(some 12), (.mv (.tmp 20)), none⟩, none⟩]))))
def xr_vec_Sum_env_Num : XR := (.seq (.ops false [⟨⟨(some 2), (.alloc 36 [(.int .i64 (0)), (.int .i64 (0)), (.int .i64 (0)), (.bool false)]), none⟩, none⟩]) (.seq (.ops false [⟨⟨(some 3), (.alloc 36 [(.int .i64 (0)), (.int .i64 (0)), (.int .i64 (0)), (.bool false)]), none⟩, none⟩]) (.seq (.ops false [⟨⟨(some 7), (.ld true 4 (.tmp 3)), none⟩, (some (.agg [(.int .i64), (.int .i64), (.int .i64), .bool]))⟩, ⟨⟨(some 8), (.mkI 36 (.tmp 7)), none⟩, none⟩, ⟨⟨(some 9), (.callI 37 36 (.tmp 8) [(.c (.int .i64 (0)))]), none⟩, none⟩, ⟨⟨(some 4), (.alloc 36 [(.int .i64 (0)), (.int .i64 (0)), (.int .i64 (0)), (.bool false)]), none⟩, none⟩, ⟨⟨none, (.st 4 (.tmp 4) (.tmp 9)), none⟩, none⟩]) (.seq (.seq (.ops false [⟨⟨(some 10), (.mv (.tmp 0)), none⟩, none⟩, ⟨⟨(some 11), (.len (.tmp 10)), none⟩, none⟩, ⟨⟨(some 12), (.mv (.c (.int .i64 (0)))), none⟩, none⟩]) (.block 0 (.loop 0 [2, 4, 10, 11, 12] xb_vec_Sum_env_Num_0))) (.seq (.ops false [⟨⟨(some 21), (.ld true 4 (.tmp 4)), none⟩, (some (.agg [(.int .i64), (.int .i64), (.int .i64), .bool]))⟩, ⟨⟨none, (.st 4 (.tmp 2) (.tmp 21)), none⟩, none⟩]) .ret)))))
def rs_vec_Sum_env_Num : List ResultVar := [(.cell 2 36)]
theorem ir_vec_Sum_env_Num : compCode Try.prog (Try.f51.body.getD .skip) [[2, 4, 10, 11, 12]] = some (xr_vec_Sum_env_Num.erase, []) := by kernel_rfl
def gm_vec_Sum_env_Num : Gam := (Gam.fn 37 as_env_Num_Of ga_env_Num_Of em_env_Num_Of (Gam.fn 43 as_env_Num_Add ga_env_Num_Add em_env_Num_Add Gam.bot))
theorem gk_vec_Sum_env_Num : GamOk Try.prog GG gm_vec_Sum_env_Num := (GamOk.fn at_env_Num_Of (GamOk.fn at_env_Num_Add GamOk.bot))
def st_vec_Sum_env_Num_0 (b4 : Bool) (b5 : Bool) (es6 : List PV) (n7 : Int) (n8 : Int) (n9 : Int) (n10 : Int) (n11 : Int) (b12 : Bool) (n13 : Int) (n14 : Int) (n15 : Int) (b16 : Bool) : Option (((Bool × Bool × List PV × Int × Int × Int × Int × Int × Bool × Int × Int × Int × Bool)) ⊕ (((Int × Int × Int × Bool × Int × Int × Int × Bool)))) :=
  bif (decide (n8 < n7)) then
   bif (decide (0 ≤ n8)) then
    bif (decide (n8 < (((List.length es6) : Nat) : Int))) then
     bif (decide ((Int.toNat n8) < (List.length es6))) then
      bif (decide ((List.length (PV.cells (List.getD es6 (Int.toNat n8) .nilSl))) = 4)) then
       bif (Shp.ok (.agg [(.int .i64), (.int .i64), (.int .i64), .bool]) (.agg (PV.cells (List.getD es6 (Int.toNat n8) .nilSl)))) then
        (go_env_Num_Add n13 n14 n15 b16 (PV.num (List.headD (PV.subs (.agg (PV.cells (List.getD es6 (Int.toNat n8) .nilSl)))) .nilSl)) (PV.num (List.headD (List.tail (PV.subs (.agg (PV.cells (List.getD es6 (Int.toNat n8) .nilSl))))) .nilSl)) (PV.num (List.headD (List.tail (List.tail (PV.subs (.agg (PV.cells (List.getD es6 (Int.toNat n8) .nilSl)))))) .nilSl)) (PV.tru (List.headD (List.tail (List.tail (List.tail (PV.subs (.agg (PV.cells (List.getD es6 (Int.toNat n8) .nilSl))))))) .nilSl))).bind fun r17 =>
        some (Sum.inl (b4, b5, es6, n7, (IntKind.wrap .i64 (n8 + 1)), n9, n10, n11, b12, r17.1, r17.2.1, r17.2.2.1, r17.2.2.2))
       else none
      else none
     else none
    else none
   else none
  else
   some (Sum.inr (n9, n10, n11, b12, n13, n14, n15, b16))
def lp_vec_Sum_env_Num_0 (b4 : Bool) (b5 : Bool) (es6 : List PV) (n7 : Int) (n8 : Int) (n9 : Int) (n10 : Int) (n11 : Int) (b12 : Bool) (n13 : Int) (n14 : Int) (n15 : Int) (b16 : Bool) : Option (((Int × Int × Int × Bool × Int × Int × Int × Bool))) := loopN (X := (Bool × Bool × List PV × Int × Int × Int × Int × Int × Bool × Int × Int × Int × Bool)) (fun x => st_vec_Sum_env_Num_0 x.1 x.2.1 x.2.2.1 x.2.2.2.1 x.2.2.2.2.1 x.2.2.2.2.2.1 x.2.2.2.2.2.2.1 x.2.2.2.2.2.2.2.1 x.2.2.2.2.2.2.2.2.1 x.2.2.2.2.2.2.2.2.2.1 x.2.2.2.2.2.2.2.2.2.2.1 x.2.2.2.2.2.2.2.2.2.2.2.1 x.2.2.2.2.2.2.2.2.2.2.2.2) (b4, b5, es6, n7, n8, n9, n10, n11, b12, n13, n14, n15, b16)
def sh_vec_Sum_env_Num_0 : StSh := ⟨22, [(2, (.ptr 0 0)), (4, (.ptr 1 0)), (10, (.p (.sl 4))), (11, (.p (.int .i64))), (12, (.p (.int .i64)))], [(.box 36 [(.p (.int .i64)), (.p (.int .i64)), (.p (.int .i64)), (.p .bool)]), (.box 36 [(.p (.int .i64)), (.p (.int .i64)), (.p (.int .i64)), (.p .bool)])]⟩
def sx_vec_Sum_env_Num_0 (x : (Bool × Bool × List PV × Int × Int × Int × Int × Int × Bool × Int × Int × Int × Bool)) : St := ⟨slots 22 0 [(2, (.ptr 0 0)), (4, (.ptr 1 0)), (10, (.p (.sl x.1 x.2.1 4 x.2.2.1))), (11, (.p (.int .i64 x.2.2.2.1))), (12, (.p (.int .i64 x.2.2.2.2.1)))], [(.box 36 [(.p (.int .i64 x.2.2.2.2.2.1)), (.p (.int .i64 x.2.2.2.2.2.2.1)), (.p (.int .i64 x.2.2.2.2.2.2.2.1)), (.p (.bool x.2.2.2.2.2.2.2.2.1))]), (.box 36 [(.p (.int .i64 x.2.2.2.2.2.2.2.2.2.1)), (.p (.int .i64 x.2.2.2.2.2.2.2.2.2.2.1)), (.p (.int .i64 x.2.2.2.2.2.2.2.2.2.2.2.1)), (.p (.bool x.2.2.2.2.2.2.2.2.2.2.2.2))])]⟩
def sa_vec_Sum_env_Num_0 (S : St) : (Bool × Bool × List PV × Int × Int × Int × Int × Int × Bool × Int × Int × Int × Bool) := (((tls 10 S.t).headD .any).pv.nl, ((tls 10 S.t).headD .any).pv.ex, ((tls 10 S.t).headD .any).pv.elts, ((tls 11 S.t).headD .any).pv.num, ((tls 12 S.t).headD .any).pv.num, (((tls 0 S.own).headD .gone).subs.headD .any).pv.num, (((tls 0 S.own).headD .gone).subs.tail.headD .any).pv.num, (((tls 0 S.own).headD .gone).subs.tail.tail.headD .any).pv.num, (((tls 0 S.own).headD .gone).subs.tail.tail.tail.headD .any).pv.tru, (((tls 1 S.own).headD .gone).subs.headD .any).pv.num, (((tls 1 S.own).headD .gone).subs.tail.headD .any).pv.num, (((tls 1 S.own).headD .gone).subs.tail.tail.headD .any).pv.num, (((tls 1 S.own).headD .gone).subs.tail.tail.tail.headD .any).pv.tru)
def tz_vec_Sum_env_Num_0_0 : StSh := ⟨22, [(2, (.ptr 0 0)), (4, (.ptr 1 0))], [(.box 36 [(.p (.int .i64)), (.p (.int .i64)), (.p (.int .i64)), (.p .bool)]), (.box 36 [(.p (.int .i64)), (.p (.int .i64)), (.p (.int .i64)), (.p .bool)])]⟩
def tx_vec_Sum_env_Num_0_0 (x : (Int × Int × Int × Bool × Int × Int × Int × Bool)) : St := ⟨slots 22 0 [(2, (.ptr 0 0)), (4, (.ptr 1 0))], [(.box 36 [(.p (.int .i64 x.1)), (.p (.int .i64 x.2.1)), (.p (.int .i64 x.2.2.1)), (.p (.bool x.2.2.2.1))]), (.box 36 [(.p (.int .i64 x.2.2.2.2.1)), (.p (.int .i64 x.2.2.2.2.2.1)), (.p (.int .i64 x.2.2.2.2.2.2.1)), (.p (.bool x.2.2.2.2.2.2.2))])]⟩
def ta_vec_Sum_env_Num_0_0 (S : St) : (Int × Int × Int × Bool × Int × Int × Int × Bool) := ((((tls 0 S.own).headD .gone).subs.headD .any).pv.num, (((tls 0 S.own).headD .gone).subs.tail.headD .any).pv.num, (((tls 0 S.own).headD .gone).subs.tail.tail.headD .any).pv.num, (((tls 0 S.own).headD .gone).subs.tail.tail.tail.headD .any).pv.tru, (((tls 1 S.own).headD .gone).subs.headD .any).pv.num, (((tls 1 S.own).headD .gone).subs.tail.headD .any).pv.num, (((tls 1 S.own).headD .gone).subs.tail.tail.headD .any).pv.num, (((tls 1 S.own).headD .gone).subs.tail.tail.tail.headD .any).pv.tru)
def kb_vec_Sum_env_Num_0 : Exit → St → Tree (((Bool × Bool × List PV × Int × Int × Int × Int × Int × Bool × Int × Int × Int × Bool)) ⊕ (((Int × Int × Int × Bool × Int × Int × Int × Bool)))) := (exOne (.exit 0) [2, 4] tz_vec_Sum_env_Num_0_0 ta_vec_Sum_env_Num_0_0 (fun y => Sum.inr (y)) exNil)
def ky_vec_Sum_env_Num_0 : Dec (((Int × Int × Int × Bool × Int × Int × Int × Bool))) := fun _ y ke => ke ((.exit 0) : EK).ex (tx_vec_Sum_env_Num_0_0 y)
theorem kk_vec_Sum_env_Num_0 : ExOk Sum.inr kb_vec_Sum_env_Num_0 ky_vec_Sum_env_Num_0 := (ExOk.one (acc := ta_vec_Sum_env_Num_0_0) (bY := tx_vec_Sum_env_Num_0_0) (inj1 := fun y => y) (fun S => by kernel_rfl) (fun y _ ke => .inr (by kernel_rfl)) ExOk.nil)
def lm_vec_Sum_env_Num : Lam := fun _ j S kn ke => match j with
  | 0 => prepT [2, 4, 10, 11, 12] [] S fun S => .chk (sh_vec_Sum_env_Num_0.ok S) (.bind (loopN (fun x => st_vec_Sum_env_Num_0 x.1 x.2.1 x.2.2.1 x.2.2.2.1 x.2.2.2.2.1 x.2.2.2.2.2.1 x.2.2.2.2.2.2.1 x.2.2.2.2.2.2.2.1 x.2.2.2.2.2.2.2.2.1 x.2.2.2.2.2.2.2.2.2.1 x.2.2.2.2.2.2.2.2.2.2.1 x.2.2.2.2.2.2.2.2.2.2.2.1 x.2.2.2.2.2.2.2.2.2.2.2.2) (sa_vec_Sum_env_Num_0 S)) fun y => ky_vec_Sum_env_Num_0 _ y ke)
  | _ => .fail
theorem sr_vec_Sum_env_Num_0 (x : (Bool × Bool × List PV × Int × Int × Int × Int × Int × Bool × Int × Int × Int × Bool)) : (ev GG gm_vec_Sum_env_Num lm_vec_Sum_env_Num xb_vec_Sum_env_Num_0 (sx_vec_Sum_env_Num_0 x) (fun S => forgetT [2, 4, 10, 11, 12] S fun S => prepT [2, 4, 10, 11, 12] [] S fun S => .chk (sh_vec_Sum_env_Num_0.ok S) (.leaf (.inl (sa_vec_Sum_env_Num_0 S)))) kb_vec_Sum_env_Num_0).run = st_vec_Sum_env_Num_0 x.1 x.2.1 x.2.2.1 x.2.2.2.1 x.2.2.2.2.1 x.2.2.2.2.2.1 x.2.2.2.2.2.2.1 x.2.2.2.2.2.2.2.1 x.2.2.2.2.2.2.2.2.1 x.2.2.2.2.2.2.2.2.2.1 x.2.2.2.2.2.2.2.2.2.2.1 x.2.2.2.2.2.2.2.2.2.2.2.1 x.2.2.2.2.2.2.2.2.2.2.2.2 := by kernel_rfl
theorem la_vec_Sum_env_Num_0 : LamAt Try.prog GG lm_vec_Sum_env_Num 0 (.loop [2, 4, 10, 11, 12] xb_vec_Sum_env_Num_0.erase) := lam_loop (body := xb_vec_Sum_env_Num_0) (Λ' := lm_vec_Sum_env_Num) gk_vec_Sum_env_Num (⟨trivial, ⟨⟨trivial, trivial⟩, ⟨⟨trivial, trivial⟩, trivial⟩⟩⟩) (fun S => (by kernel_rfl : sh_vec_Sum_env_Num_0.build S = sx_vec_Sum_env_Num_0 (sa_vec_Sum_env_Num_0 S))) kk_vec_Sum_env_Num_0 sr_vec_Sum_env_Num_0 (fun _ _ _ => rfl)
def go_vec_Sum_env_Num (b0 : Bool) (b1 : Bool) (es2 : List PV) : Option (Int × Int × Int × Bool) :=
  (go_env_Num_Of 0 0 0 false 0).bind fun r3 =>
  (lp_vec_Sum_env_Num_0 b0 b1 es2 (((List.length es2) : Nat) : Int) 0 0 0 0 false r3.1 r3.2.1 r3.2.2.1 r3.2.2.2).bind fun y18 =>
  some (y18.2.2.2.2.1, y18.2.2.2.2.2.1, y18.2.2.2.2.2.2.1, y18.2.2.2.2.2.2.2)
def em_vec_Sum_env_Num (r : (Int × Int × Int × Bool)) : PV := (.agg [(.int .i64 r.1), (.int .i64 r.2.1), (.int .i64 r.2.2.1), (.bool r.2.2.2)])
def rh_vec_Sum_env_Num : Shp := (.agg [(.int .i64), (.int .i64), (.int .i64), .bool])
def ra_vec_Sum_env_Num (v : PV) : (Int × Int × Int × Bool) := ((v.subs.headD .nilSl).num, (v.subs.tail.headD .nilSl).num, (v.subs.tail.tail.headD .nilSl).num, (v.subs.tail.tail.tail.headD .nilSl).tru)
def kf_vec_Sum_env_Num (v : PV) : Tree (Int × Int × Int × Bool) := .chk (rh_vec_Sum_env_Num.ok v) (.leaf (ra_vec_Sum_env_Num v))
theorem rn_vec_Sum_env_Num (b0 : Bool) (b1 : Bool) (es2 : List PV) : (ev GG gm_vec_Sum_env_Num lm_vec_Sum_env_Num xr_vec_Sum_env_Num ⟨slots 22 0 [(0, .p (.sl b0 b1 4 es2))], []⟩ (fun S => finT Try.prog rs_vec_Sum_env_Num S kf_vec_Sum_env_Num) (retT Try.prog rs_vec_Sum_env_Num kf_vec_Sum_env_Num)).run = go_vec_Sum_env_Num b0 b1 es2 := by kernel_rfl
theorem ok_vec_Sum_env_Num (b0 : Bool) (b1 : Bool) (es2 : List PV) (r : (Int × Int × Int × Bool)) (h : go_vec_Sum_env_Num b0 b1 es2 = some r) : FunEq Try.prog GG 51 [(.sl b0 b1 4 es2)] (em_vec_Sum_env_Num r) :=
  fun_of_ev (x := xr_vec_Sum_env_Num) (Λ := lm_vec_Sum_env_Num) gk_vec_Sum_env_Num [[2, 4, 10, 11, 12]] Try.func51 rfl (by kernel_rfl) ir_vec_Sum_env_Num (by kernel_rfl) (congrArg Array.toList Try.results51) Try.ntmps51 (⟨trivial, ⟨trivial, ⟨trivial, ⟨⟨trivial, la_vec_Sum_env_Num_0⟩, ⟨trivial, trivial⟩⟩⟩⟩⟩) (leaf_of fun v => (by kernel_rfl : rh_vec_Sum_env_Num.build v = em_vec_Sum_env_Num (ra_vec_Sum_env_Num v))) (by kernel_rfl) ((rn_vec_Sum_env_Num b0 b1 es2).trans h)
def as_vec_Sum_env_Num : List Shp := [(.sl 4)]
def ga_vec_Sum_env_Num (vs : List PV) : Option (Int × Int × Int × Bool) := go_vec_Sum_env_Num ((tls 0 vs).headD .nilSl).nl ((tls 0 vs).headD .nilSl).ex ((tls 0 vs).headD .nilSl).elts
theorem at_vec_Sum_env_Num : FnAt Try.prog GG 51 as_vec_Sum_env_Num ga_vec_Sum_env_Num em_vec_Sum_env_Num := fun vs h r hr => by
  have e : Shp.buildL as_vec_Sum_env_Num vs = [(.sl ((tls 0 vs).headD .nilSl).nl ((tls 0 vs).headD .nilSl).ex 4 ((tls 0 vs).headD .nilSl).elts)] := by kernel_rfl
  rw [← Shp.buildL_eq _ h, e]
  exact .inl ⟨by decide, ok_vec_Sum_env_Num _ _ _ r hr⟩
def xr_vec_Pairs_env_Num : XR := (.seq (.ops false [⟨⟨(some 2), (.box 47 (.tmp 0)), none⟩, none⟩, ⟨⟨(some 3), (.box 47 (.tmp 1)), none⟩, none⟩, ⟨⟨(some 4), (.mv (.c .nilFn)), none⟩, none⟩]) (.seq (.ops false [⟨⟨(some 5), (.mkFn 123 [(.tmp 2), (.tmp 3)]), none⟩, none⟩, ⟨⟨(some 4), (.mv (.tmp 5)), none⟩, none⟩]) .ret))
def rs_vec_Pairs_env_Num : List ResultVar := [(.tmp 4)]
theorem ir_vec_Pairs_env_Num : compCode Try.prog (Try.f119.body.getD .skip) [] = some (xr_vec_Pairs_env_Num.erase, []) := by kernel_rfl
def gm_vec_Pairs_env_Num : Gam := Gam.bot
theorem gk_vec_Pairs_env_Num : GamOk Try.prog GG gm_vec_Pairs_env_Num := GamOk.bot
def lm_vec_Pairs_env_Num : Lam := fun _ j S kn ke => match j with
  | _ => .fail
def go_vec_Pairs_env_Num (b0 : Bool) (b1 : Bool) (es2 : List PV) (b3 : Bool) (b4 : Bool) (es5 : List PV) : Option (Bool × Bool × List PV × Bool × Bool × List PV) :=
  some (b0, b1, es2, b3, b4, es5)
def em_vec_Pairs_env_Num (r : (Bool × Bool × List PV × Bool × Bool × List PV)) : PV := (.fn 123 [(.ref 0 [(.sl r.1 r.2.1 4 r.2.2.1)]), (.ref 0 [(.sl r.2.2.2.1 r.2.2.2.2.1 4 r.2.2.2.2.2)])])
def rh_vec_Pairs_env_Num : Shp := (.fn 123 [(.ref 0 [(.sl 4)]), (.ref 0 [(.sl 4)])])
def ra_vec_Pairs_env_Num (v : PV) : (Bool × Bool × List PV × Bool × Bool × List PV) := (((v.subs.headD .nilSl).subs.headD .nilSl).nl, ((v.subs.headD .nilSl).subs.headD .nilSl).ex, ((v.subs.headD .nilSl).subs.headD .nilSl).elts, ((v.subs.tail.headD .nilSl).subs.headD .nilSl).nl, ((v.subs.tail.headD .nilSl).subs.headD .nilSl).ex, ((v.subs.tail.headD .nilSl).subs.headD .nilSl).elts)
def kf_vec_Pairs_env_Num (v : PV) : Tree (Bool × Bool × List PV × Bool × Bool × List PV) := .chk (rh_vec_Pairs_env_Num.ok v) (.leaf (ra_vec_Pairs_env_Num v))
theorem rn_vec_Pairs_env_Num (b0 : Bool) (b1 : Bool) (es2 : List PV) (b3 : Bool) (b4 : Bool) (es5 : List PV) : (ev GG gm_vec_Pairs_env_Num lm_vec_Pairs_env_Num xr_vec_Pairs_env_Num ⟨slots 6 0 [(0, .p (.sl b0 b1 4 es2)), (1, .p (.sl b3 b4 4 es5))], []⟩ (fun S => finT Try.prog rs_vec_Pairs_env_Num S kf_vec_Pairs_env_Num) (retT Try.prog rs_vec_Pairs_env_Num kf_vec_Pairs_env_Num)).run = go_vec_Pairs_env_Num b0 b1 es2 b3 b4 es5 := by kernel_rfl
theorem ok_vec_Pairs_env_Num (b0 : Bool) (b1 : Bool) (es2 : List PV) (b3 : Bool) (b4 : Bool) (es5 : List PV) (r : (Bool × Bool × List PV × Bool × Bool × List PV)) (h : go_vec_Pairs_env_Num b0 b1 es2 b3 b4 es5 = some r) : FunEq Try.prog GG 119 [(.sl b0 b1 4 es2), (.sl b3 b4 4 es5)] (em_vec_Pairs_env_Num r) :=
  fun_of_ev (x := xr_vec_Pairs_env_Num) (Λ := lm_vec_Pairs_env_Num) gk_vec_Pairs_env_Num [] Try.func119 rfl (by kernel_rfl) ir_vec_Pairs_env_Num (by kernel_rfl) (congrArg Array.toList Try.results119) Try.ntmps119 (⟨trivial, ⟨trivial, trivial⟩⟩) (leaf_of fun v => (by kernel_rfl : rh_vec_Pairs_env_Num.build v = em_vec_Pairs_env_Num (ra_vec_Pairs_env_Num v))) (by kernel_rfl) ((rn_vec_Pairs_env_Num b0 b1 es2 b3 b4 es5).trans h)
def as_vec_Pairs_env_Num : List Shp := [(.sl 4), (.sl 4)]
def ga_vec_Pairs_env_Num (vs : List PV) : Option (Bool × Bool × List PV × Bool × Bool × List PV) := go_vec_Pairs_env_Num ((tls 0 vs).headD .nilSl).nl ((tls 0 vs).headD .nilSl).ex ((tls 0 vs).headD .nilSl).elts ((tls 1 vs).headD .nilSl).nl ((tls 1 vs).headD .nilSl).ex ((tls 1 vs).headD .nilSl).elts
theorem at_vec_Pairs_env_Num : FnAt Try.prog GG 119 as_vec_Pairs_env_Num ga_vec_Pairs_env_Num em_vec_Pairs_env_Num := fun vs h r hr => by
  have e : Shp.buildL as_vec_Pairs_env_Num vs = [(.sl ((tls 0 vs).headD .nilSl).nl ((tls 0 vs).headD .nilSl).ex 4 ((tls 0 vs).headD .nilSl).elts), (.sl ((tls 1 vs).headD .nilSl).nl ((tls 1 vs).headD .nilSl).ex 4 ((tls 1 vs).headD .nilSl).elts)] := by kernel_rfl
  rw [← Shp.buildL_eq _ h, e]
  exact .inl ⟨by decide, ok_vec_Pairs_env_Num _ _ _ _ _ _ r hr⟩
def xr_vec_Dot_env_Num_1 : XR := (.seq (.ops false [⟨⟨(some 2), (.box 36 (.tmp 0)), none⟩, none⟩, ⟨⟨(some 3), (.box 36 (.tmp 1)), none⟩, none⟩, ⟨⟨(some 4), (.alloc 36 [(.int .i64 (0)), (.int .i64 (0)), (.int .i64 (0)), (.bool false)]), none⟩, none⟩]) (.seq (.ops false [⟨⟨(some 5), (.ld true 4 (.tmp 2)), none⟩, (some (.agg [(.int .i64), (.int .i64), (.int .i64), .bool]))⟩, ⟨⟨(some 6), (.mkI 36 (.tmp 5)), none⟩, none⟩, ⟨⟨(some 7), (.ld true 4 (.tmp 3)), none⟩, (some (.agg [(.int .i64), (.int .i64), (.int .i64), .bool]))⟩, ⟨⟨(some 8), (.callI 44 36 (.tmp 6) [(.tmp 7)]), none⟩, none⟩, ⟨⟨none, (.st 4 (.tmp 4) (.tmp 8)), none⟩, none⟩]) .ret))
def rs_vec_Dot_env_Num_1 : List ResultVar := [(.cell 4 36)]
theorem ir_vec_Dot_env_Num_1 : compCode Try.prog (Try.f95.body.getD .skip) [] = some (xr_vec_Dot_env_Num_1.erase, []) := by kernel_rfl
def gm_vec_Dot_env_Num_1 : Gam := (Gam.fn 44 as_env_Num_Mul ga_env_Num_Mul em_env_Num_Mul Gam.bot)
theorem gk_vec_Dot_env_Num_1 : GamOk Try.prog GG gm_vec_Dot_env_Num_1 := (GamOk.fn at_env_Num_Mul GamOk.bot)
def lm_vec_Dot_env_Num_1 : Lam := fun _ j S kn ke => match j with
  | _ => .fail
def go_vec_Dot_env_Num_1 (n0 : Int) (n1 : Int) (n2 : Int) (b3 : Bool) (n4 : Int) (n5 : Int) (n6 : Int) (b7 : Bool) : Option (Int × Int × Int × Bool) :=
  (go_env_Num_Mul n0 n1 n2 b3 n4 n5 n6 b7).bind fun r8 =>
  some (r8.1, r8.2.1, r8.2.2.1, r8.2.2.2)
def em_vec_Dot_env_Num_1 (r : (Int × Int × Int × Bool)) : PV := (.agg [(.int .i64 r.1), (.int .i64 r.2.1), (.int .i64 r.2.2.1), (.bool r.2.2.2)])
def rh_vec_Dot_env_Num_1 : Shp := (.agg [(.int .i64), (.int .i64), (.int .i64), .bool])
def ra_vec_Dot_env_Num_1 (v : PV) : (Int × Int × Int × Bool) := ((v.subs.headD .nilSl).num, (v.subs.tail.headD .nilSl).num, (v.subs.tail.tail.headD .nilSl).num, (v.subs.tail.tail.tail.headD .nilSl).tru)
def kf_vec_Dot_env_Num_1 (v : PV) : Tree (Int × Int × Int × Bool) := .chk (rh_vec_Dot_env_Num_1.ok v) (.leaf (ra_vec_Dot_env_Num_1 v))
theorem rn_vec_Dot_env_Num_1 (n0 : Int) (n1 : Int) (n2 : Int) (b3 : Bool) (n4 : Int) (n5 : Int) (n6 : Int) (b7 : Bool) : (ev GG gm_vec_Dot_env_Num_1 lm_vec_Dot_env_Num_1 xr_vec_Dot_env_Num_1 ⟨slots 9 0 [(0, .p (.agg [(.int .i64 n0), (.int .i64 n1), (.int .i64 n2), (.bool b3)])), (1, .p (.agg [(.int .i64 n4), (.int .i64 n5), (.int .i64 n6), (.bool b7)]))], []⟩ (fun S => finT Try.prog rs_vec_Dot_env_Num_1 S kf_vec_Dot_env_Num_1) (retT Try.prog rs_vec_Dot_env_Num_1 kf_vec_Dot_env_Num_1)).run = go_vec_Dot_env_Num_1 n0 n1 n2 b3 n4 n5 n6 b7 := by kernel_rfl
theorem ok_vec_Dot_env_Num_1 (n0 : Int) (n1 : Int) (n2 : Int) (b3 : Bool) (n4 : Int) (n5 : Int) (n6 : Int) (b7 : Bool) (r : (Int × Int × Int × Bool)) (h : go_vec_Dot_env_Num_1 n0 n1 n2 b3 n4 n5 n6 b7 = some r) : FunEq Try.prog GG 95 [(.agg [(.int .i64 n0), (.int .i64 n1), (.int .i64 n2), (.bool b3)]), (.agg [(.int .i64 n4), (.int .i64 n5), (.int .i64 n6), (.bool b7)])] (em_vec_Dot_env_Num_1 r) :=
  fun_of_ev (x := xr_vec_Dot_env_Num_1) (Λ := lm_vec_Dot_env_Num_1) gk_vec_Dot_env_Num_1 [] Try.func95 rfl (by kernel_rfl) ir_vec_Dot_env_Num_1 (by kernel_rfl) (congrArg Array.toList Try.results95) Try.ntmps95 (⟨trivial, ⟨trivial, trivial⟩⟩) (leaf_of fun v => (by kernel_rfl : rh_vec_Dot_env_Num_1.build v = em_vec_Dot_env_Num_1 (ra_vec_Dot_env_Num_1 v))) (by kernel_rfl) ((rn_vec_Dot_env_Num_1 n0 n1 n2 b3 n4 n5 n6 b7).trans h)
def as_vec_Dot_env_Num_1 : List Shp := [(.agg [(.int .i64), (.int .i64), (.int .i64), .bool]), (.agg [(.int .i64), (.int .i64), (.int .i64), .bool])]
def ga_vec_Dot_env_Num_1 (vs : List PV) : Option (Int × Int × Int × Bool) := go_vec_Dot_env_Num_1 (((tls 0 vs).headD .nilSl).subs.headD .nilSl).num (((tls 0 vs).headD .nilSl).subs.tail.headD .nilSl).num (((tls 0 vs).headD .nilSl).subs.tail.tail.headD .nilSl).num (((tls 0 vs).headD .nilSl).subs.tail.tail.tail.headD .nilSl).tru (((tls 1 vs).headD .nilSl).subs.headD .nilSl).num (((tls 1 vs).headD .nilSl).subs.tail.headD .nilSl).num (((tls 1 vs).headD .nilSl).subs.tail.tail.headD .nilSl).num (((tls 1 vs).headD .nilSl).subs.tail.tail.tail.headD .nilSl).tru
theorem at_vec_Dot_env_Num_1 : FnAt Try.prog GG 95 as_vec_Dot_env_Num_1 ga_vec_Dot_env_Num_1 em_vec_Dot_env_Num_1 := fun vs h r hr => by
  have e : Shp.buildL as_vec_Dot_env_Num_1 vs = [(.agg [(.int .i64 (((tls 0 vs).headD .nilSl).subs.headD .nilSl).num), (.int .i64 (((tls 0 vs).headD .nilSl).subs.tail.headD .nilSl).num), (.int .i64 (((tls 0 vs).headD .nilSl).subs.tail.tail.headD .nilSl).num), (.bool (((tls 0 vs).headD .nilSl).subs.tail.tail.tail.headD .nilSl).tru)]), (.agg [(.int .i64 (((tls 1 vs).headD .nilSl).subs.headD .nilSl).num), (.int .i64 (((tls 1 vs).headD .nilSl).subs.tail.headD .nilSl).num), (.int .i64 (((tls 1 vs).headD .nilSl).subs.tail.tail.headD .nilSl).num), (.bool (((tls 1 vs).headD .nilSl).subs.tail.tail.tail.headD .nilSl).tru)])] := by kernel_rfl
  rw [← Shp.buildL_eq _ h, e]
  exact .inl ⟨by decide, ok_vec_Dot_env_Num_1 _ _ _ _ _ _ _ _ r hr⟩
def xf_vec_of_env_Num_0 : Opd := (.tmp 12)
def xa_vec_of_env_Num_0 : XR := (.seq (.ops false [⟨⟨(some 8), (.alloc 36 [(.int .i64 (0)), (.int .i64 (0)), (.int .i64 (0)), (.bool false)]), none⟩, none⟩, ⟨⟨none, (.st 4 (.tmp 8) (.tmp 13)), none⟩, none⟩]) (.ops false [⟨⟨(some 9), (.alloc 36 [(.int .i64 (0)), (.int .i64 (0)), (.int .i64 (0)), (.bool false)]), none⟩, none⟩, ⟨⟨none, (.st 4 (.tmp 9) (.tmp 14)), none⟩, none⟩]))
def xb_vec_of_env_Num_0 : XR := (.block 1 (.ops true [⟨⟨(some 15), (.ld false 1 (.tmp 7)), none⟩, (some (.sl 4))⟩, ⟨⟨(some 16), (.ld false 1 (.tmp 5)), none⟩, none⟩, ⟨⟨(some 17), (.ld true 4 (.tmp 8)), none⟩, (some (.agg [(.int .i64), (.int .i64), (.int .i64), .bool]))⟩, ⟨⟨(some 18), (.ld true 4 (.tmp 9)), none⟩, (some (.agg [(.int .i64), (.int .i64), (.int .i64), .bool]))⟩, ⟨⟨(some 19), (.call (.tmp 16) [(.tmp 17), (.tmp 18)]), none⟩, none⟩, ⟨⟨(some 20), (.bsl 36 none 4 [(.tmp 19)]), none⟩, none⟩, ⟨⟨(some 21), (.app 36 none 4 32 (.tmp 15) (.tmp 20)), none⟩, none⟩, ⟨⟨none, (.st 1 (.tmp 7) (.tmp 21)), none⟩, none⟩]))
def xr_vec_of_env_Num : XR := (.seq (.ops false [⟨⟨(some 5), (.box 95 (.tmp 2)), none⟩, none⟩, ⟨⟨(some 6), (.mv (.c (.sl true true 4 []))), none⟩, none⟩]) (.seq (.ops false [⟨⟨(some 7), (.alloc 47 [(.sl true true 4 [])]), none⟩, none⟩]) (.seq (.seq (.ops false [⟨⟨(some 10), (.mv (.tmp 0)), none⟩, none⟩, ⟨⟨(some 11), (.mv (.tmp 1)), none⟩, none⟩, ⟨⟨(some 12), (.call (.func 119) [(.tmp 10), (.tmp 11)]), none⟩, none⟩]) (.block 0 (.range 0 [5, 7, 12] xf_vec_of_env_Num_0 [13, 14] xa_vec_of_env_Num_0 xb_vec_of_env_Num_0))) (.seq (.ops false [⟨⟨(some 22), (.ld false 1 (.tmp 7)), none⟩, (some (.sl 4))⟩, ⟨⟨(some 6), (.mv (.tmp 22)), none⟩, none⟩]) .ret))))
def rs_vec_of_env_Num : List ResultVar := [(.tmp 6)]
theorem ir_vec_of_env_Num : compCode Try.prog (Try.f94.body.getD .skip) [] = some (xr_vec_of_env_Num.erase, []) := by kernel_rfl
def gm_vec_of_env_Num : Gam := (Gam.fn 119 as_vec_Pairs_env_Num ga_vec_Pairs_env_Num em_vec_Pairs_env_Num (Gam.fn 95 as_vec_Dot_env_Num_1 ga_vec_Dot_env_Num_1 em_vec_Dot_env_Num_1 Gam.bot))
theorem gk_vec_of_env_Num : GamOk Try.prog GG gm_vec_of_env_Num := (GamOk.fn at_vec_Pairs_env_Num (GamOk.fn at_vec_Dot_env_Num_1 GamOk.bot))
def it_vec_of_env_Num_0 (b7 : Bool) (b8 : Bool) (es9 : List PV) (b10 : Bool) (b11 : Bool) (es12 : List PV) (b13 : Bool) (b14 : Bool) (es15 : List PV) : Option (List (Int × Int × Int × Bool × Int × Int × Int × Bool)) := it_pairspN b7 b8 es9 b10 b11 es12
def cp_vec_of_env_Num_0 (b7 : Bool) (b8 : Bool) (es9 : List PV) (b10 : Bool) (b11 : Bool) (es12 : List PV) (b13 : Bool) (b14 : Bool) (es15 : List PV) : List PV := [(.ref 0 [(.sl b7 b8 4 es9)]), (.ref 0 [(.sl b10 b11 4 es12)])]
def st_vec_of_env_Num_0 (b7 : Bool) (b8 : Bool) (es9 : List PV) (b10 : Bool) (b11 : Bool) (es12 : List PV) (b13 : Bool) (b14 : Bool) (es15 : List PV) (u16 : (Int × Int × Int × Bool × Int × Int × Int × Bool)) : Option (((Bool × Bool × List PV × Bool × Bool × List PV × Bool × Bool × List PV)) ⊕ (Unit)) :=
  (go_vec_Dot_env_Num_1 u16.1 u16.2.1 u16.2.2.1 u16.2.2.2.1 u16.2.2.2.2.1 u16.2.2.2.2.2.1 u16.2.2.2.2.2.2.1 u16.2.2.2.2.2.2.2).bind fun r17 =>
  bif (decide ((((List.length es15) + 1) * 32) ≤ 140737488355328)) then
   bif (decide (((List.length es15) + 1) ≤ 4611686018427387904)) then
    some (Sum.inl (b7, b8, es9, b10, b11, es12, (b13 && false), false, (es15 ++ [(.agg [(.int .i64 r17.1), (.int .i64 r17.2.1), (.int .i64 r17.2.2.1), (.bool r17.2.2.2)])])))
   else none
  else none
def lp_vec_of_env_Num_0 (b7 : Bool) (b8 : Bool) (es9 : List PV) (b10 : Bool) (b11 : Bool) (es12 : List PV) (b13 : Bool) (b14 : Bool) (es15 : List PV) : Option (((Bool × Bool × List PV × Bool × Bool × List PV × Bool × Bool × List PV)) ⊕ (Unit)) := (it_vec_of_env_Num_0 b7 b8 es9 b10 b11 es12 b13 b14 es15).bind fun is => foldS (X := (Bool × Bool × List PV × Bool × Bool × List PV × Bool × Bool × List PV)) (fun x i => st_vec_of_env_Num_0 x.1 x.2.1 x.2.2.1 x.2.2.2.1 x.2.2.2.2.1 x.2.2.2.2.2.1 x.2.2.2.2.2.2.1 x.2.2.2.2.2.2.2.1 x.2.2.2.2.2.2.2.2 i) is (b7, b8, es9, b10, b11, es12, b13, b14, es15)
def sh_vec_of_env_Num_0 : StSh := ⟨23, [(5, (.ptr 0 0)), (7, (.ptr 1 0)), (12, (.p (.fn 123 [(.ref 0 [(.sl 4)]), (.ref 0 [(.sl 4)])])))], [(.box 95 [(.p (.fn 95 []))]), (.box 47 [(.row 2)]), (.row 36 4)]⟩
def sx_vec_of_env_Num_0 (x : (Bool × Bool × List PV × Bool × Bool × List PV × Bool × Bool × List PV)) : St := ⟨slots 23 0 [(5, (.ptr 0 0)), (7, (.ptr 1 0)), (12, (.p (.fn 123 [(.ref 0 [(.sl x.1 x.2.1 4 x.2.2.1)]), (.ref 0 [(.sl x.2.2.2.1 x.2.2.2.2.1 4 x.2.2.2.2.2.1)])])))], [(.box 95 [(.p (.fn 95 []))]), (.box 47 [(.row 2)]), (.row 36 4 x.2.2.2.2.2.2.1 x.2.2.2.2.2.2.2.1 x.2.2.2.2.2.2.2.2)]⟩
def sa_vec_of_env_Num_0 (S : St) : (Bool × Bool × List PV × Bool × Bool × List PV × Bool × Bool × List PV) := (((((tls 12 S.t).headD .any).pv.subs.headD .nilSl).subs.headD .nilSl).nl, ((((tls 12 S.t).headD .any).pv.subs.headD .nilSl).subs.headD .nilSl).ex, ((((tls 12 S.t).headD .any).pv.subs.headD .nilSl).subs.headD .nilSl).elts, ((((tls 12 S.t).headD .any).pv.subs.tail.headD .nilSl).subs.headD .nilSl).nl, ((((tls 12 S.t).headD .any).pv.subs.tail.headD .nilSl).subs.headD .nilSl).ex, ((((tls 12 S.t).headD .any).pv.subs.tail.headD .nilSl).subs.headD .nilSl).elts, ((tls 2 S.own).headD .gone).pvD.nl, ((tls 2 S.own).headD .gone).pvD.ex, ((tls 2 S.own).headD .gone).pvD.elts)
def kb_vec_of_env_Num_0 : Exit → St → Tree (((Bool × Bool × List PV × Bool × Bool × List PV × Bool × Bool × List PV)) ⊕ (Unit)) := exNil
def ky_vec_of_env_Num_0 : Dec (Unit) := fun _ y ke => .fail
theorem kk_vec_of_env_Num_0 : ExOk Sum.inr kb_vec_of_env_Num_0 ky_vec_of_env_Num_0 := ExOk.nil
def lm_vec_of_env_Num : Lam := fun _ j S kn ke => match j with
  | 0 => prepT [5, 7, 12] [(100700, 36)] S fun S => .chk (sh_vec_of_env_Num_0.ok S) (.bind ((fun x => (it_vec_of_env_Num_0 x.1 x.2.1 x.2.2.1 x.2.2.2.1 x.2.2.2.2.1 x.2.2.2.2.2.1 x.2.2.2.2.2.2.1 x.2.2.2.2.2.2.2.1 x.2.2.2.2.2.2.2.2).bind fun is => foldS (X := (Bool × Bool × List PV × Bool × Bool × List PV × Bool × Bool × List PV)) (fun x i => st_vec_of_env_Num_0 x.1 x.2.1 x.2.2.1 x.2.2.2.1 x.2.2.2.2.1 x.2.2.2.2.2.1 x.2.2.2.2.2.2.1 x.2.2.2.2.2.2.2.1 x.2.2.2.2.2.2.2.2 i) is x) (sa_vec_of_env_Num_0 S)) fun r => .sum r (fun x => kn (sx_vec_of_env_Num_0 x)) (fun y => ky_vec_of_env_Num_0 _ y ke))
  | _ => .fail
theorem sr_vec_of_env_Num_0 (x : (Bool × Bool × List PV × Bool × Bool × List PV × Bool × Bool × List PV)) (i : (Int × Int × Int × Bool × Int × Int × Int × Bool)) : (ev GG gm_vec_of_env_Num lm_vec_of_env_Num xa_vec_of_env_Num_0 ⟨setL (sx_vec_of_env_Num_0 x).t [13, 14] (ie_pairspN i), (sx_vec_of_env_Num_0 x).own⟩ (fun S1 => ev GG gm_vec_of_env_Num lm_vec_of_env_Num xb_vec_of_env_Num_0 S1 (fun S => forgetT [5, 7, 12] ⟨(sx_vec_of_env_Num_0 x).t, S.own⟩ fun S => prepT [5, 7, 12] [(100700, 36)] S fun S => .chk (sh_vec_of_env_Num_0.ok S) (.leaf (.inl (sa_vec_of_env_Num_0 S)))) (fun e S => kb_vec_of_env_Num_0 e ⟨(sx_vec_of_env_Num_0 x).t, S.own⟩)) (fun _ _ => .fail)).run = st_vec_of_env_Num_0 x.1 x.2.1 x.2.2.1 x.2.2.2.1 x.2.2.2.2.1 x.2.2.2.2.2.1 x.2.2.2.2.2.2.1 x.2.2.2.2.2.2.2.1 x.2.2.2.2.2.2.2.2 i := by kernel_rfl
theorem la_vec_of_env_Num_0 : LamAt Try.prog GG lm_vec_of_env_Num 0 (.rangeF xf_vec_of_env_Num_0 [13, 14] xa_vec_of_env_Num_0.erase xb_vec_of_env_Num_0.erase) := lam_range (asg := xa_vec_of_env_Num_0) (bdy := xb_vec_of_env_Num_0) (Λ0 := lm_vec_of_env_Num) gk_vec_of_env_Num (by kernel_rfl) (by kernel_rfl) (fun S => (by kernel_rfl : sh_vec_of_env_Num_0.build S = sx_vec_of_env_Num_0 (sa_vec_of_env_Num_0 S))) (caps := fun x => cp_vec_of_env_Num_0 x.1 x.2.1 x.2.2.1 x.2.2.2.1 x.2.2.2.2.1 x.2.2.2.2.2.1 x.2.2.2.2.2.2.1 x.2.2.2.2.2.2.2.1 x.2.2.2.2.2.2.2.2) (fun x => (by kernel_rfl : evS GG (sx_vec_of_env_Num_0 x) xf_vec_of_env_Num_0 = .p (.fn 123 (cp_vec_of_env_Num_0 x.1 x.2.1 x.2.2.1 x.2.2.2.1 x.2.2.2.2.1 x.2.2.2.2.2.1 x.2.2.2.2.2.2.1 x.2.2.2.2.2.2.2.1 x.2.2.2.2.2.2.2.2)))) (its := fun x => it_vec_of_env_Num_0 x.1 x.2.1 x.2.2.1 x.2.2.2.1 x.2.2.2.2.1 x.2.2.2.2.2.1 x.2.2.2.2.2.2.1 x.2.2.2.2.2.2.2.1 x.2.2.2.2.2.2.2.2) (emb := ie_pairspN) (fun i => rfl) (fun x is h => sq_pairspN _ _ _ _ _ _ is h) (step := fun x i => st_vec_of_env_Num_0 x.1 x.2.1 x.2.2.1 x.2.2.2.1 x.2.2.2.2.1 x.2.2.2.2.2.1 x.2.2.2.2.2.2.1 x.2.2.2.2.2.2.2.1 x.2.2.2.2.2.2.2.2 i) kk_vec_of_env_Num_0 sr_vec_of_env_Num_0 (fun _ _ _ => rfl)
def go_vec_of_env_Num (b0 : Bool) (b1 : Bool) (es2 : List PV) (b3 : Bool) (b4 : Bool) (es5 : List PV) : Option (Bool × Bool × List PV) :=
  (go_vec_Pairs_env_Num b0 b1 es2 b3 b4 es5).bind fun r6 =>
  (lp_vec_of_env_Num_0 r6.1 r6.2.1 r6.2.2.1 r6.2.2.2.1 r6.2.2.2.2.1 r6.2.2.2.2.2 true true []).bind fun y18 =>
  Sum.elim (fun z19 =>
   some (z19.2.2.2.2.2.2.1, z19.2.2.2.2.2.2.2.1, z19.2.2.2.2.2.2.2.2)) (fun u_ =>
   none) y18
def em_vec_of_env_Num (r : (Bool × Bool × List PV)) : PV := (.sl r.1 r.2.1 4 r.2.2)
def rh_vec_of_env_Num : Shp := (.sl 4)
def ra_vec_of_env_Num (v : PV) : (Bool × Bool × List PV) := (v.nl, v.ex, v.elts)
def kf_vec_of_env_Num (v : PV) : Tree (Bool × Bool × List PV) := .chk (rh_vec_of_env_Num.ok v) (.leaf (ra_vec_of_env_Num v))
theorem rn_vec_of_env_Num (b0 : Bool) (b1 : Bool) (es2 : List PV) (b3 : Bool) (b4 : Bool) (es5 : List PV) : (ev GG gm_vec_of_env_Num lm_vec_of_env_Num xr_vec_of_env_Num ⟨slots 23 0 [(0, .p (.sl b0 b1 4 es2)), (1, .p (.sl b3 b4 4 es5)), (2, .p (.fn 95 []))], []⟩ (fun S => finT Try.prog rs_vec_of_env_Num S kf_vec_of_env_Num) (retT Try.prog rs_vec_of_env_Num kf_vec_of_env_Num)).run = go_vec_of_env_Num b0 b1 es2 b3 b4 es5 := by kernel_rfl
theorem ok_vec_of_env_Num (b0 : Bool) (b1 : Bool) (es2 : List PV) (b3 : Bool) (b4 : Bool) (es5 : List PV) (r : (Bool × Bool × List PV)) (h : go_vec_of_env_Num b0 b1 es2 b3 b4 es5 = some r) : FunEq Try.prog GG 94 [(.sl b0 b1 4 es2), (.sl b3 b4 4 es5), (.fn 95 [])] (em_vec_of_env_Num r) :=
  fun_of_ev (x := xr_vec_of_env_Num) (Λ := lm_vec_of_env_Num) gk_vec_of_env_Num [] Try.func94 rfl (by kernel_rfl) ir_vec_of_env_Num (by kernel_rfl) (congrArg Array.toList Try.results94) Try.ntmps94 (⟨trivial, ⟨trivial, ⟨⟨trivial, la_vec_of_env_Num_0⟩, ⟨trivial, trivial⟩⟩⟩⟩) (leaf_of fun v => (by kernel_rfl : rh_vec_of_env_Num.build v = em_vec_of_env_Num (ra_vec_of_env_Num v))) (by kernel_rfl) ((rn_vec_of_env_Num b0 b1 es2 b3 b4 es5).trans h)
def as_vec_of_env_Num : List Shp := [(.sl 4), (.sl 4), (.fn 95 [])]
def ga_vec_of_env_Num (vs : List PV) : Option (Bool × Bool × List PV) := go_vec_of_env_Num ((tls 0 vs).headD .nilSl).nl ((tls 0 vs).headD .nilSl).ex ((tls 0 vs).headD .nilSl).elts ((tls 1 vs).headD .nilSl).nl ((tls 1 vs).headD .nilSl).ex ((tls 1 vs).headD .nilSl).elts
theorem at_vec_of_env_Num : FnAt Try.prog GG 94 as_vec_of_env_Num ga_vec_of_env_Num em_vec_of_env_Num := fun vs h r hr => by
  have e : Shp.buildL as_vec_of_env_Num vs = [(.sl ((tls 0 vs).headD .nilSl).nl ((tls 0 vs).headD .nilSl).ex 4 ((tls 0 vs).headD .nilSl).elts), (.sl ((tls 1 vs).headD .nilSl).nl ((tls 1 vs).headD .nilSl).ex 4 ((tls 1 vs).headD .nilSl).elts), (.fn 95 [])] := by kernel_rfl
  rw [← Shp.buildL_eq _ h, e]
  exact .inl ⟨by decide, ok_vec_of_env_Num _ _ _ _ _ _ r hr⟩
def xr_vec_Dot_env_Num : XR := (.seq (.ops false [⟨⟨(some 4), (.alloc 36 [(.int .i64 (0)), (.int .i64 (0)), (.int .i64 (0)), (.bool false)]), none⟩, none⟩]) (.seq (.ops false [⟨⟨(some 5), (.mv (.tmp 0)), none⟩, none⟩, ⟨⟨(some 6), (.mv (.tmp 1)), none⟩, none⟩, ⟨⟨(some 7), (.call (.func 94) [(.tmp 5), (.tmp 6), (.func 95)]), none⟩, none⟩, ⟨⟨(some 8), (.call (.func 51) [(.tmp 7)]), none⟩, none⟩, ⟨⟨none, (.st 4 (.tmp 4) (.tmp 8)), none⟩, none⟩]) .ret))
def rs_vec_Dot_env_Num : List ResultVar := [(.cell 4 36)]
theorem ir_vec_Dot_env_Num : compCode Try.prog (Try.f52.body.getD .skip) [] = some (xr_vec_Dot_env_Num.erase, []) := by kernel_rfl
def gm_vec_Dot_env_Num : Gam := (Gam.fn 94 as_vec_of_env_Num ga_vec_of_env_Num em_vec_of_env_Num (Gam.fn 51 as_vec_Sum_env_Num ga_vec_Sum_env_Num em_vec_Sum_env_Num Gam.bot))
theorem gk_vec_Dot_env_Num : GamOk Try.prog GG gm_vec_Dot_env_Num := (GamOk.fn at_vec_of_env_Num (GamOk.fn at_vec_Sum_env_Num GamOk.bot))
def lm_vec_Dot_env_Num : Lam := fun _ j S kn ke => match j with
  | _ => .fail
def go_vec_Dot_env_Num (b0 : Bool) (b1 : Bool) (es2 : List PV) (b3 : Bool) (b4 : Bool) (es5 : List PV) : Option (Int × Int × Int × Bool) :=
  (go_vec_of_env_Num b0 b1 es2 b3 b4 es5).bind fun r6 =>
  (go_vec_Sum_env_Num r6.1 r6.2.1 r6.2.2).bind fun r7 =>
  some (r7.1, r7.2.1, r7.2.2.1, r7.2.2.2)
def em_vec_Dot_env_Num (r : (Int × Int × Int × Bool)) : PV := (.agg [(.int .i64 r.1), (.int .i64 r.2.1), (.int .i64 r.2.2.1), (.bool r.2.2.2)])
def rh_vec_Dot_env_Num : Shp := (.agg [(.int .i64), (.int .i64), (.int .i64), .bool])
def ra_vec_Dot_env_Num (v : PV) : (Int × Int × Int × Bool) := ((v.subs.headD .nilSl).num, (v.subs.tail.headD .nilSl).num, (v.subs.tail.tail.headD .nilSl).num, (v.subs.tail.tail.tail.headD .nilSl).tru)
def kf_vec_Dot_env_Num (v : PV) : Tree (Int × Int × Int × Bool) := .chk (rh_vec_Dot_env_Num.ok v) (.leaf (ra_vec_Dot_env_Num v))
theorem rn_vec_Dot_env_Num (b0 : Bool) (b1 : Bool) (es2 : List PV) (b3 : Bool) (b4 : Bool) (es5 : List PV) : (ev GG gm_vec_Dot_env_Num lm_vec_Dot_env_Num xr_vec_Dot_env_Num ⟨slots 9 0 [(0, .p (.sl b0 b1 4 es2)), (1, .p (.sl b3 b4 4 es5))], []⟩ (fun S => finT Try.prog rs_vec_Dot_env_Num S kf_vec_Dot_env_Num) (retT Try.prog rs_vec_Dot_env_Num kf_vec_Dot_env_Num)).run = go_vec_Dot_env_Num b0 b1 es2 b3 b4 es5 := by kernel_rfl
theorem ok_vec_Dot_env_Num (b0 : Bool) (b1 : Bool) (es2 : List PV) (b3 : Bool) (b4 : Bool) (es5 : List PV) (r : (Int × Int × Int × Bool)) (h : go_vec_Dot_env_Num b0 b1 es2 b3 b4 es5 = some r) : FunEq Try.prog GG 52 [(.sl b0 b1 4 es2), (.sl b3 b4 4 es5)] (em_vec_Dot_env_Num r) :=
  fun_of_ev (x := xr_vec_Dot_env_Num) (Λ := lm_vec_Dot_env_Num) gk_vec_Dot_env_Num [] Try.func52 rfl (by kernel_rfl) ir_vec_Dot_env_Num (by kernel_rfl) (congrArg Array.toList Try.results52) Try.ntmps52 (⟨trivial, ⟨trivial, trivial⟩⟩) (leaf_of fun v => (by kernel_rfl : rh_vec_Dot_env_Num.build v = em_vec_Dot_env_Num (ra_vec_Dot_env_Num v))) (by kernel_rfl) ((rn_vec_Dot_env_Num b0 b1 es2 b3 b4 es5).trans h)
def as_vec_Dot_env_Num : List Shp := [(.sl 4), (.sl 4)]
def ga_vec_Dot_env_Num (vs : List PV) : Option (Int × Int × Int × Bool) := go_vec_Dot_env_Num ((tls 0 vs).headD .nilSl).nl ((tls 0 vs).headD .nilSl).ex ((tls 0 vs).headD .nilSl).elts ((tls 1 vs).headD .nilSl).nl ((tls 1 vs).headD .nilSl).ex ((tls 1 vs).headD .nilSl).elts
theorem at_vec_Dot_env_Num : FnAt Try.prog GG 52 as_vec_Dot_env_Num ga_vec_Dot_env_Num em_vec_Dot_env_Num := fun vs h r hr => by
  have e : Shp.buildL as_vec_Dot_env_Num vs = [(.sl ((tls 0 vs).headD .nilSl).nl ((tls 0 vs).headD .nilSl).ex 4 ((tls 0 vs).headD .nilSl).elts), (.sl ((tls 1 vs).headD .nilSl).nl ((tls 1 vs).headD .nilSl).ex 4 ((tls 1 vs).headD .nilSl).elts)] := by kernel_rfl
  rw [← Shp.buildL_eq _ h, e]
  exact .inl ⟨by decide, ok_vec_Dot_env_Num _ _ _ _ _ _ r hr⟩
def xb_vec_Whole_env_Num_0 : XR := (.seq (.ops false [⟨⟨(some 10), (.bin .lss (.tmp 9) (.tmp 8)), none⟩, none⟩]) (.seq (.cond (.tmp 10) .skip (.exit 0)) (.seq (.block 1 (.seq (.ops false [⟨⟨(some 11), (.ixA 1 (.tmp 7) (.tmp 9)), none⟩, none⟩, ⟨⟨(some 12), (.ld false 1 (.tmp 11)), none⟩, (some (.int .i64))⟩, ⟨⟨(some 6), (.mv (.tmp 12)), none⟩, none⟩]) (.ops false [⟨⟨(some 13), (.mv (.tmp 3)), none⟩, none⟩, ⟨⟨(some 14), (.ld true 4 (.tmp 4)), none⟩, (some (.agg [(.int .i64), (.int .i64), (.int .i64), .bool]))⟩, ⟨⟨(some 15), (.mkI 36 (.tmp 14)), none⟩, none⟩, ⟨⟨(some 16), (.mv (.tmp 6)), none⟩, none⟩, ⟨⟨(some 17), (.callI 37 36 (.tmp 15) [(.tmp 16)]), none⟩, none⟩, ⟨⟨(some 18), (.bsl 36 none 4 [(.tmp 17)]), none⟩, none⟩, ⟨⟨(some 19), (.app 36 none 4 32 (.tmp 13) (.tmp 18)), none⟩, none⟩, ⟨⟨(some 3), (.mv (.tmp 19)), none⟩, none⟩]))) (.ops false [⟨⟨(some 20), (.bin .add (.tmp 9) (.c (.int .i64 (1)))), none⟩, none⟩, ⟨⟨(some 9), (.mv (.tmp 20)), none⟩, none⟩]))))
def xr_vec_Whole_env_Num : XR := (.seq (.ops false [⟨⟨(some 2), (.mv (.c (.sl true true 4 []))), none⟩, none⟩]) (.seq (.ops false [⟨⟨(some 3), (.mv (.c (.sl true true 4 []))), none⟩, none⟩]) (.seq (.ops false [⟨⟨(some 4), (.alloc 36 [(.int .i64 (0)), (.int .i64 (0)), (.int .i64 (0)), (.bool false)]), none⟩, none⟩]) (.seq (.seq (.ops false [⟨⟨(some 7), (.mv (.tmp 0)), none⟩, none⟩, ⟨⟨(some 8), (.len (.tmp 7)), none⟩, none⟩, ⟨⟨(some 9), (.mv (.c (.int .i64 (0)))), none⟩, none⟩]) (.block 0 (.loop 0 [3, 4, 7, 8, 9] xb_vec_Whole_env_Num_0))) (.seq (.ops false [⟨⟨(some 21), (.mv (.tmp 3)), none⟩, none⟩, ⟨⟨(some 2), (.mv (.tmp 21)), none⟩, none⟩]) .ret)))))
def rs_vec_Whole_env_Num : List ResultVar := [(.tmp 2)]
theorem ir_vec_Whole_env_Num : compCode Try.prog (Try.f70.body.getD .skip) [[3, 4, 7, 8, 9]] = some (xr_vec_Whole_env_Num.erase, []) := by kernel_rfl
def gm_vec_Whole_env_Num : Gam := (Gam.fn 37 as_env_Num_Of ga_env_Num_Of em_env_Num_Of Gam.bot)
theorem gk_vec_Whole_env_Num : GamOk Try.prog GG gm_vec_Whole_env_Num := (GamOk.fn at_env_Num_Of GamOk.bot)
def st_vec_Whole_env_Num_0 (b3 : Bool) (b4 : Bool) (l5 : List Int) (n6 : Int) (n7 : Int) (b8 : Bool) (b9 : Bool) (es10 : List PV) (n11 : Int) (n12 : Int) (n13 : Int) (b14 : Bool) : Option (((Bool × Bool × List Int × Int × Int × Bool × Bool × List PV × Int × Int × Int × Bool)) ⊕ (((Bool × Bool × List PV)))) :=
  bif (decide (n7 < n6)) then
   bif (decide (0 ≤ n7)) then
    bif (decide (n7 < (((List.length l5) : Nat) : Int))) then
     bif (decide ((Int.toNat n7) < (List.length l5))) then
      (go_env_Num_Of n11 n12 n13 b14 (List.getD l5 (Int.toNat n7) 0)).bind fun r15 =>
      bif (decide ((((List.length es10) + 1) * 32) ≤ 140737488355328)) then
       bif (decide (((List.length es10) + 1) ≤ 4611686018427387904)) then
        some (Sum.inl (b3, b4, l5, n6, (IntKind.wrap .i64 (n7 + 1)), (b8 && false), false, (es10 ++ [(.agg [(.int .i64 r15.1), (.int .i64 r15.2.1), (.int .i64 r15.2.2.1), (.bool r15.2.2.2)])]), n11, n12, n13, b14))
       else none
      else none
     else none
    else none
   else none
  else
   some (Sum.inr (b8, b9, es10))
def lp_vec_Whole_env_Num_0 (b3 : Bool) (b4 : Bool) (l5 : List Int) (n6 : Int) (n7 : Int) (b8 : Bool) (b9 : Bool) (es10 : List PV) (n11 : Int) (n12 : Int) (n13 : Int) (b14 : Bool) : Option (((Bool × Bool × List PV))) := loopN (X := (Bool × Bool × List Int × Int × Int × Bool × Bool × List PV × Int × Int × Int × Bool)) (fun x => st_vec_Whole_env_Num_0 x.1 x.2.1 x.2.2.1 x.2.2.2.1 x.2.2.2.2.1 x.2.2.2.2.2.1 x.2.2.2.2.2.2.1 x.2.2.2.2.2.2.2.1 x.2.2.2.2.2.2.2.2.1 x.2.2.2.2.2.2.2.2.2.1 x.2.2.2.2.2.2.2.2.2.2.1 x.2.2.2.2.2.2.2.2.2.2.2) (b3, b4, l5, n6, n7, b8, b9, es10, n11, n12, n13, b14)
def sh_vec_Whole_env_Num_0 : StSh := ⟨22, [(3, (.row 0)), (4, (.ptr 1 0)), (7, (.p (.isl .i64))), (8, (.p (.int .i64))), (9, (.p (.int .i64)))], [(.row 36 4), (.box 36 [(.p (.int .i64)), (.p (.int .i64)), (.p (.int .i64)), (.p .bool)])]⟩
def sx_vec_Whole_env_Num_0 (x : (Bool × Bool × List Int × Int × Int × Bool × Bool × List PV × Int × Int × Int × Bool)) : St := ⟨slots 22 0 [(3, (.row 0)), (4, (.ptr 1 0)), (7, (.p (.isl x.1 x.2.1 .i64 x.2.2.1))), (8, (.p (.int .i64 x.2.2.2.1))), (9, (.p (.int .i64 x.2.2.2.2.1)))], [(.row 36 4 x.2.2.2.2.2.1 x.2.2.2.2.2.2.1 x.2.2.2.2.2.2.2.1), (.box 36 [(.p (.int .i64 x.2.2.2.2.2.2.2.2.1)), (.p (.int .i64 x.2.2.2.2.2.2.2.2.2.1)), (.p (.int .i64 x.2.2.2.2.2.2.2.2.2.2.1)), (.p (.bool x.2.2.2.2.2.2.2.2.2.2.2))])]⟩
def sa_vec_Whole_env_Num_0 (S : St) : (Bool × Bool × List Int × Int × Int × Bool × Bool × List PV × Int × Int × Int × Bool) := (((tls 7 S.t).headD .any).pv.nl, ((tls 7 S.t).headD .any).pv.ex, ((tls 7 S.t).headD .any).pv.ints, ((tls 8 S.t).headD .any).pv.num, ((tls 9 S.t).headD .any).pv.num, ((tls 0 S.own).headD .gone).pvD.nl, ((tls 0 S.own).headD .gone).pvD.ex, ((tls 0 S.own).headD .gone).pvD.elts, (((tls 1 S.own).headD .gone).subs.headD .any).pv.num, (((tls 1 S.own).headD .gone).subs.tail.headD .any).pv.num, (((tls 1 S.own).headD .gone).subs.tail.tail.headD .any).pv.num, (((tls 1 S.own).headD .gone).subs.tail.tail.tail.headD .any).pv.tru)
def tz_vec_Whole_env_Num_0_0 : StSh := ⟨22, [(3, (.row 0))], [(.row 36 4)]⟩
def tx_vec_Whole_env_Num_0_0 (x : (Bool × Bool × List PV)) : St := ⟨slots 22 0 [(3, (.row 0))], [(.row 36 4 x.1 x.2.1 x.2.2)]⟩
def ta_vec_Whole_env_Num_0_0 (S : St) : (Bool × Bool × List PV) := (((tls 0 S.own).headD .gone).pvD.nl, ((tls 0 S.own).headD .gone).pvD.ex, ((tls 0 S.own).headD .gone).pvD.elts)
def kb_vec_Whole_env_Num_0 : Exit → St → Tree (((Bool × Bool × List Int × Int × Int × Bool × Bool × List PV × Int × Int × Int × Bool)) ⊕ (((Bool × Bool × List PV)))) := (exOne (.exit 0) [3] tz_vec_Whole_env_Num_0_0 ta_vec_Whole_env_Num_0_0 (fun y => Sum.inr (y)) exNil)
def ky_vec_Whole_env_Num_0 : Dec (((Bool × Bool × List PV))) := fun _ y ke => ke ((.exit 0) : EK).ex (tx_vec_Whole_env_Num_0_0 y)
theorem kk_vec_Whole_env_Num_0 : ExOk Sum.inr kb_vec_Whole_env_Num_0 ky_vec_Whole_env_Num_0 := (ExOk.one (acc := ta_vec_Whole_env_Num_0_0) (bY := tx_vec_Whole_env_Num_0_0) (inj1 := fun y => y) (fun S => by kernel_rfl) (fun y _ ke => .inr (by kernel_rfl)) ExOk.nil)
def lm_vec_Whole_env_Num : Lam := fun _ j S kn ke => match j with
  | 0 => prepT [3, 4, 7, 8, 9] [(3, 36)] S fun S => .chk (sh_vec_Whole_env_Num_0.ok S) (.bind (loopN (fun x => st_vec_Whole_env_Num_0 x.1 x.2.1 x.2.2.1 x.2.2.2.1 x.2.2.2.2.1 x.2.2.2.2.2.1 x.2.2.2.2.2.2.1 x.2.2.2.2.2.2.2.1 x.2.2.2.2.2.2.2.2.1 x.2.2.2.2.2.2.2.2.2.1 x.2.2.2.2.2.2.2.2.2.2.1 x.2.2.2.2.2.2.2.2.2.2.2) (sa_vec_Whole_env_Num_0 S)) fun y => ky_vec_Whole_env_Num_0 _ y ke)
  | _ => .fail
theorem sr_vec_Whole_env_Num_0 (x : (Bool × Bool × List Int × Int × Int × Bool × Bool × List PV × Int × Int × Int × Bool)) : (ev GG gm_vec_Whole_env_Num lm_vec_Whole_env_Num xb_vec_Whole_env_Num_0 (sx_vec_Whole_env_Num_0 x) (fun S => forgetT [3, 4, 7, 8, 9] S fun S => prepT [3, 4, 7, 8, 9] [(3, 36)] S fun S => .chk (sh_vec_Whole_env_Num_0.ok S) (.leaf (.inl (sa_vec_Whole_env_Num_0 S)))) kb_vec_Whole_env_Num_0).run = st_vec_Whole_env_Num_0 x.1 x.2.1 x.2.2.1 x.2.2.2.1 x.2.2.2.2.1 x.2.2.2.2.2.1 x.2.2.2.2.2.2.1 x.2.2.2.2.2.2.2.1 x.2.2.2.2.2.2.2.2.1 x.2.2.2.2.2.2.2.2.2.1 x.2.2.2.2.2.2.2.2.2.2.1 x.2.2.2.2.2.2.2.2.2.2.2 := by kernel_rfl
theorem la_vec_Whole_env_Num_0 : LamAt Try.prog GG lm_vec_Whole_env_Num 0 (.loop [3, 4, 7, 8, 9] xb_vec_Whole_env_Num_0.erase) := lam_loop (body := xb_vec_Whole_env_Num_0) (Λ' := lm_vec_Whole_env_Num) gk_vec_Whole_env_Num (⟨trivial, ⟨⟨trivial, trivial⟩, ⟨⟨trivial, trivial⟩, trivial⟩⟩⟩) (fun S => (by kernel_rfl : sh_vec_Whole_env_Num_0.build S = sx_vec_Whole_env_Num_0 (sa_vec_Whole_env_Num_0 S))) kk_vec_Whole_env_Num_0 sr_vec_Whole_env_Num_0 (fun _ _ _ => rfl)
def go_vec_Whole_env_Num (b0 : Bool) (b1 : Bool) (l2 : List Int) : Option (Bool × Bool × List PV) :=
  (lp_vec_Whole_env_Num_0 b0 b1 l2 (((List.length l2) : Nat) : Int) 0 true true [] 0 0 0 false).bind fun y16 =>
  some (y16.1, y16.2.1, y16.2.2)
def em_vec_Whole_env_Num (r : (Bool × Bool × List PV)) : PV := (.sl r.1 r.2.1 4 r.2.2)
def rh_vec_Whole_env_Num : Shp := (.sl 4)
def ra_vec_Whole_env_Num (v : PV) : (Bool × Bool × List PV) := (v.nl, v.ex, v.elts)
def kf_vec_Whole_env_Num (v : PV) : Tree (Bool × Bool × List PV) := .chk (rh_vec_Whole_env_Num.ok v) (.leaf (ra_vec_Whole_env_Num v))
theorem rn_vec_Whole_env_Num (b0 : Bool) (b1 : Bool) (l2 : List Int) : (ev GG gm_vec_Whole_env_Num lm_vec_Whole_env_Num xr_vec_Whole_env_Num ⟨slots 22 0 [(0, .p (.isl b0 b1 .i64 l2))], []⟩ (fun S => finT Try.prog rs_vec_Whole_env_Num S kf_vec_Whole_env_Num) (retT Try.prog rs_vec_Whole_env_Num kf_vec_Whole_env_Num)).run = go_vec_Whole_env_Num b0 b1 l2 := by kernel_rfl
theorem ok_vec_Whole_env_Num (b0 : Bool) (b1 : Bool) (l2 : List Int) (r : (Bool × Bool × List PV)) (h : go_vec_Whole_env_Num b0 b1 l2 = some r) : FunEq Try.prog GG 70 [(.isl b0 b1 .i64 l2)] (em_vec_Whole_env_Num r) :=
  fun_of_ev (x := xr_vec_Whole_env_Num) (Λ := lm_vec_Whole_env_Num) gk_vec_Whole_env_Num [[3, 4, 7, 8, 9]] Try.func70 rfl (by kernel_rfl) ir_vec_Whole_env_Num (by kernel_rfl) (congrArg Array.toList Try.results70) Try.ntmps70 (⟨trivial, ⟨trivial, ⟨trivial, ⟨⟨trivial, la_vec_Whole_env_Num_0⟩, ⟨trivial, trivial⟩⟩⟩⟩⟩) (leaf_of fun v => (by kernel_rfl : rh_vec_Whole_env_Num.build v = em_vec_Whole_env_Num (ra_vec_Whole_env_Num v))) (by kernel_rfl) ((rn_vec_Whole_env_Num b0 b1 l2).trans h)
def as_vec_Whole_env_Num : List Shp := [(.isl .i64)]
def ga_vec_Whole_env_Num (vs : List PV) : Option (Bool × Bool × List PV) := go_vec_Whole_env_Num ((tls 0 vs).headD .nilSl).nl ((tls 0 vs).headD .nilSl).ex ((tls 0 vs).headD .nilSl).ints
theorem at_vec_Whole_env_Num : FnAt Try.prog GG 70 as_vec_Whole_env_Num ga_vec_Whole_env_Num em_vec_Whole_env_Num := fun vs h r hr => by
  have e : Shp.buildL as_vec_Whole_env_Num vs = [(.isl ((tls 0 vs).headD .nilSl).nl ((tls 0 vs).headD .nilSl).ex .i64 ((tls 0 vs).headD .nilSl).ints)] := by kernel_rfl
  rw [← Shp.buildL_eq _ h, e]
  exact .inl ⟨by decide, ok_vec_Whole_env_Num _ _ _ r hr⟩
def xr_coupletlaw05_VecEncloses : XR := (.seq (.ops false [⟨⟨(some 4), (.mv (.c (.bool false))), none⟩, none⟩]) (.seq (.seq (.ops false [⟨⟨(some 6), (.mv (.tmp 0)), none⟩, none⟩, ⟨⟨(some 7), (.call (.func 54) [(.tmp 6)]), none⟩, none⟩, ⟨⟨(some 8), (.un .not (.tmp 7)), none⟩, none⟩, ⟨⟨(some 9), (.mv (.tmp 8)), none⟩, none⟩, ⟨⟨(some 10), (.mv (.tmp 1)), (some (9, false))⟩, none⟩, ⟨⟨(some 11), (.call (.func 54) [(.tmp 10)]), (some (9, false))⟩, none⟩, ⟨⟨(some 12), (.un .not (.tmp 11)), (some (9, false))⟩, none⟩, ⟨⟨(some 13), (.pick (.tmp 9) (.c (.bool true)) (.tmp 12)), none⟩, none⟩]) (.cond (.tmp 13) (.seq (.ops false [⟨⟨(some 14), (.call (.func 50) []), none⟩, none⟩, ⟨⟨(some 4), (.mv (.tmp 14)), none⟩, none⟩]) .ret) .skip)) (.seq (.ops false [⟨⟨(some 15), (.mv (.tmp 0)), none⟩, none⟩, ⟨⟨(some 16), (.call (.func 70) [(.tmp 15)]), none⟩, none⟩, ⟨⟨(some 17), (.mv (.tmp 1)), none⟩, none⟩, ⟨⟨(some 18), (.call (.func 70) [(.tmp 17)]), none⟩, none⟩, ⟨⟨(some 19), (.call (.func 52) [(.tmp 16), (.tmp 18)]), none⟩, none⟩, ⟨⟨(some 5), (.alloc 36 [(.int .i64 (0)), (.int .i64 (0)), (.int .i64 (0)), (.bool false)]), none⟩, none⟩, ⟨⟨none, (.st 4 (.tmp 5) (.tmp 19)), none⟩, none⟩]) (.seq (.ops true [⟨⟨(some 20), (.ld true 4 (.tmp 5)), none⟩, (some (.agg [(.int .i64), (.int .i64), (.int .i64), .bool]))⟩, ⟨⟨(some 21), (.mv (.tmp 0)), none⟩, none⟩, ⟨⟨(some 22), (.mv (.tmp 1)), none⟩, none⟩, ⟨⟨(some 23), (.call (.func 67) [(.tmp 21), (.tmp 22)]), none⟩, none⟩, ⟨⟨(some 24), (.call (.func 46) [(.tmp 20), (.tmp 23), (.c (.int .i64 (1)))]), none⟩, none⟩, ⟨⟨(some 25), (.mv (.tmp 24)), none⟩, none⟩, ⟨⟨(some 26), (.call (.func 50) []), (some (25, true))⟩, none⟩, ⟨⟨(some 27), (.pick (.tmp 25) (.tmp 26) (.c (.bool false))), none⟩, none⟩, ⟨⟨(some 4), (.mv (.tmp 27)), none⟩, none⟩]) .ret))))
def rs_coupletlaw05_VecEncloses : List ResultVar := [(.tmp 4)]
theorem ir_coupletlaw05_VecEncloses : compCode Try.prog (Try.f23.body.getD .skip) [] = some (xr_coupletlaw05_VecEncloses.erase, []) := by kernel_rfl
def gm_coupletlaw05_VecEncloses : Gam := (Gam.fn 54 as_coupletlaw05_Few ga_coupletlaw05_Few em_coupletlaw05_Few (Gam.fn 50 as_coupletlaw05_awake ga_coupletlaw05_awake em_coupletlaw05_awake (Gam.fn 70 as_vec_Whole_env_Num ga_vec_Whole_env_Num em_vec_Whole_env_Num (Gam.fn 52 as_vec_Dot_env_Num ga_vec_Dot_env_Num em_vec_Dot_env_Num (Gam.fn 67 as_coupletref05_Dot ga_coupletref05_Dot em_coupletref05_Dot (Gam.fn 46 as_env_Encloses ga_env_Encloses em_env_Encloses Gam.bot))))))
theorem gk_coupletlaw05_VecEncloses : GamOk Try.prog GG gm_coupletlaw05_VecEncloses := (GamOk.fn at_coupletlaw05_Few (GamOk.fn at_coupletlaw05_awake (GamOk.fn at_vec_Whole_env_Num (GamOk.fn at_vec_Dot_env_Num (GamOk.fn at_coupletref05_Dot (GamOk.fn at_env_Encloses GamOk.bot))))))
def lm_coupletlaw05_VecEncloses : Lam := fun _ j S kn ke => match j with
  | _ => .fail
def go_coupletlaw05_VecEncloses (b0 : Bool) (b1 : Bool) (l2 : List Int) (b3 : Bool) (b4 : Bool) (l5 : List Int) : Option Bool :=
  (go_coupletlaw05_Few b0 b1 l2).bind fun r6 =>
  bif (!r6) then
   (go_coupletlaw05_awake).bind fun r7 =>
   some r7
  else
   (go_coupletlaw05_Few b3 b4 l5).bind fun r8 =>
   bif (!r8) then
    (go_coupletlaw05_awake).bind fun r9 =>
    some r9
   else
    (go_vec_Whole_env_Num b0 b1 l2).bind fun r10 =>
    (go_vec_Whole_env_Num b3 b4 l5).bind fun r11 =>
    (go_vec_Dot_env_Num r10.1 r10.2.1 r10.2.2 r11.1 r11.2.1 r11.2.2).bind fun r12 =>
    (go_coupletref05_Dot b0 b1 l2 b3 b4 l5).bind fun r13 =>
    (go_env_Encloses r12.1 r12.2.1 r12.2.2.1 r12.2.2.2 r13 1).bind fun r14 =>
    bif r14 then
     (go_coupletlaw05_awake).bind fun r15 =>
     some r15
    else
     some false
def em_coupletlaw05_VecEncloses (r : Bool) : PV := (.bool r)
def rh_coupletlaw05_VecEncloses : Shp := .bool
def ra_coupletlaw05_VecEncloses (v : PV) : Bool := v.tru
def kf_coupletlaw05_VecEncloses (v : PV) : Tree Bool := .chk (rh_coupletlaw05_VecEncloses.ok v) (.leaf (ra_coupletlaw05_VecEncloses v))
theorem rn_coupletlaw05_VecEncloses (b0 : Bool) (b1 : Bool) (l2 : List Int) (b3 : Bool) (b4 : Bool) (l5 : List Int) : (ev GG gm_coupletlaw05_VecEncloses lm_coupletlaw05_VecEncloses xr_coupletlaw05_VecEncloses ⟨slots 28 0 [(0, .p (.isl b0 b1 .i64 l2)), (1, .p (.isl b3 b4 .i64 l5))], []⟩ (fun S => finT Try.prog rs_coupletlaw05_VecEncloses S kf_coupletlaw05_VecEncloses) (retT Try.prog rs_coupletlaw05_VecEncloses kf_coupletlaw05_VecEncloses)).run = go_coupletlaw05_VecEncloses b0 b1 l2 b3 b4 l5 := by kernel_rfl
theorem ok_coupletlaw05_VecEncloses (b0 : Bool) (b1 : Bool) (l2 : List Int) (b3 : Bool) (b4 : Bool) (l5 : List Int) (r : Bool) (h : go_coupletlaw05_VecEncloses b0 b1 l2 b3 b4 l5 = some r) : FunEq Try.prog GG 23 [(.isl b0 b1 .i64 l2), (.isl b3 b4 .i64 l5)] (em_coupletlaw05_VecEncloses r) :=
  fun_of_ev (x := xr_coupletlaw05_VecEncloses) (Λ := lm_coupletlaw05_VecEncloses) gk_coupletlaw05_VecEncloses [] Try.func23 rfl (by kernel_rfl) ir_coupletlaw05_VecEncloses (by kernel_rfl) (congrArg Array.toList Try.results23) Try.ntmps23 (⟨trivial, ⟨⟨trivial, ⟨⟨trivial, trivial⟩, trivial⟩⟩, ⟨trivial, ⟨trivial, trivial⟩⟩⟩⟩) (leaf_of fun v => (by kernel_rfl : rh_coupletlaw05_VecEncloses.build v = em_coupletlaw05_VecEncloses (ra_coupletlaw05_VecEncloses v))) (by kernel_rfl) ((rn_coupletlaw05_VecEncloses b0 b1 l2 b3 b4 l5).trans h)
end Go.Proofs
end
