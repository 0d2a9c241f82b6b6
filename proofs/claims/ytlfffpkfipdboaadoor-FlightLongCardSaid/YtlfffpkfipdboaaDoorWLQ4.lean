/-
  The laws on flights, as the rows ask for them.
-/
import Derived.Test.YtlfffpkfipdboaaDoorWGF1
import Derived.Test.YtlfffpkfipdboaaDoorWSFs
import Derived.Test.YtlfffpkfipdboaaDoorWSFm
import Derived.Test.YtlfffpkfipdboaaDoorWLP1
import Derived.Test.YtlfffpkfipdboaaDoorFxRng
import Derived.Test.YtlfffpkfipdboaaDoorChecked
import Derived.Test.YtlfffpkfipdboaaDoorWGFb
import Derived.Test.YtlfffpkfipdboaaDoorFxRow
set_option linter.unusedVariables false
set_option maxRecDepth 100000
noncomputable section
namespace Go.Proofs
open Go Go.Fx
def xb_coupletlaw20_FlightLong_0 : XR := (.seq (.ops false [⟨⟨(some 19), (.bin .lss (.tmp 18) (.tmp 17)), none⟩, none⟩]) (.seq (.cond (.tmp 19) .skip (.exit 0)) (.seq (.block 1 (.seq (.ops false [⟨⟨(some 20), (.mv (.tmp 18)), none⟩, none⟩, ⟨⟨(some 4), (.mv (.tmp 20)), none⟩, none⟩]) (.ops false [⟨⟨(some 21), (.mv (.tmp 3)), none⟩, none⟩, ⟨⟨(some 22), (.mv (.tmp 4)), none⟩, none⟩, ⟨⟨(some 23), (.ixA 1 (.tmp 21) (.tmp 22)), none⟩, none⟩, ⟨⟨none, (.st 1 (.tmp 23) (.c (.int .u8 (10)))), none⟩, none⟩]))) (.ops false [⟨⟨(some 24), (.bin .add (.tmp 18) (.c (.int .i64 (1)))), none⟩, none⟩, ⟨⟨(some 18), (.mv (.tmp 24)), none⟩, none⟩]))))
def xr_coupletlaw20_FlightLong : XR := (.seq (.ops false [⟨⟨(some 2), (.mv (.c (.bool false))), none⟩, none⟩]) (.seq (.ops false [⟨⟨(some 11), (.mv (.tmp 0)), none⟩, none⟩, ⟨⟨(some 12), (.cvtI .i64 (.tmp 11)), none⟩, none⟩, ⟨⟨(some 13), (.bin .rem (.tmp 12) (.c (.int .i64 (100)))), none⟩, none⟩, ⟨⟨(some 14), (.bin .add (.c (.int .i64 (65537))) (.tmp 13)), none⟩, none⟩, ⟨⟨(some 15), (.mkS 5 .u8 1 (.tmp 14)), none⟩, none⟩, ⟨⟨(some 3), (.mv (.tmp 15)), none⟩, none⟩]) (.seq (.seq (.ops false [⟨⟨(some 16), (.mv (.tmp 3)), none⟩, none⟩, ⟨⟨(some 17), (.len (.tmp 16)), none⟩, none⟩, ⟨⟨(some 18), (.mv (.c (.int .i64 (0)))), none⟩, none⟩]) (.block 0 (.loop 0 [3, 17, 18] xb_coupletlaw20_FlightLong_0))) (.seq (.ops false [⟨⟨(some 26), (.mv (.tmp 3)), none⟩, none⟩, ⟨⟨(some 27), (.cvtBS (.tmp 26)), none⟩, none⟩, ⟨⟨(some 28), (.call (.func 8) [(.tmp 27)]), none⟩, none⟩, ⟨⟨(some 25), (.mv (.tmp 28)), none⟩, none⟩, ⟨⟨(some 29), (.ext (.tmp 25) 0), none⟩, none⟩, ⟨⟨(some 30), (.ext (.tmp 25) 1), none⟩, none⟩, ⟨⟨(some 31), (.ext (.tmp 25) 2), none⟩, none⟩, ⟨⟨(some 5), (.mv (.tmp 29)), none⟩, none⟩, ⟨⟨(some 6), (.mv (.tmp 30)), none⟩, none⟩, ⟨⟨(some 7), (.mv (.tmp 31)), none⟩, none⟩]) (.seq (.ops false [⟨⟨(some 33), (.mv (.tmp 3)), none⟩, none⟩, ⟨⟨(some 34), (.fx (.slcX 1 (.tmp 33) none (some (.c (.int .i64 (65536)))) none)), none⟩, none⟩, ⟨⟨(some 35), (.cvtBS (.tmp 34)), none⟩, none⟩, ⟨⟨(some 36), (.call (.func 8) [(.tmp 35)]), none⟩, none⟩, ⟨⟨(some 32), (.mv (.tmp 36)), none⟩, none⟩, ⟨⟨(some 37), (.ext (.tmp 32) 0), none⟩, none⟩, ⟨⟨(some 38), (.ext (.tmp 32) 1), none⟩, none⟩, ⟨⟨(some 39), (.ext (.tmp 32) 2), none⟩, none⟩, ⟨⟨(some 8), (.mv (.tmp 37)), none⟩, none⟩, ⟨⟨(some 9), (.mv (.tmp 38)), none⟩, none⟩, ⟨⟨(some 10), (.mv (.tmp 39)), none⟩, none⟩]) (.seq (.ops false [⟨⟨(some 40), (.mv (.tmp 5)), none⟩, none⟩, ⟨⟨(some 41), (.len (.tmp 40)), none⟩, none⟩, ⟨⟨(some 42), (.bin .eql (.tmp 41) (.c (.int .i64 (0)))), none⟩, none⟩, ⟨⟨(some 43), (.mv (.tmp 42)), none⟩, none⟩, ⟨⟨(some 44), (.mv (.tmp 6)), (some (43, true))⟩, none⟩, ⟨⟨(some 45), (.bin .eql (.tmp 44) (.c (.int .i64 (0)))), (some (43, true))⟩, none⟩, ⟨⟨(some 46), (.pick (.tmp 43) (.tmp 45) (.c (.bool false))), none⟩, none⟩, ⟨⟨(some 47), (.mv (.tmp 46)), none⟩, none⟩, ⟨⟨(some 48), (.mv (.tmp 7)), (some (47, true))⟩, none⟩, ⟨⟨(some 49), (.bin .eql (.tmp 48) (.c (.int .i64 (3)))), (some (47, true))⟩, none⟩, ⟨⟨(some 50), (.pick (.tmp 47) (.tmp 49) (.c (.bool false))), none⟩, none⟩, ⟨⟨(some 51), (.mv (.tmp 50)), none⟩, none⟩, ⟨⟨(some 52), (.mv (.tmp 8)), (some (51, true))⟩, none⟩, ⟨⟨(some 53), (.len (.tmp 52)), (some (51, true))⟩, none⟩, ⟨⟨(some 54), (.bin .eql (.tmp 53) (.c (.int .i64 (0)))), (some (51, true))⟩, none⟩, ⟨⟨(some 55), (.pick (.tmp 51) (.tmp 54) (.c (.bool false))), none⟩, none⟩, ⟨⟨(some 56), (.mv (.tmp 55)), none⟩, none⟩, ⟨⟨(some 57), (.mv (.tmp 9)), (some (56, true))⟩, none⟩, ⟨⟨(some 58), (.bin .eql (.tmp 57) (.c (.int .i64 (65536)))), (some (56, true))⟩, none⟩, ⟨⟨(some 59), (.pick (.tmp 56) (.tmp 58) (.c (.bool false))), none⟩, none⟩, ⟨⟨(some 60), (.mv (.tmp 59)), none⟩, none⟩, ⟨⟨(some 61), (.mv (.tmp 10)), (some (60, true))⟩, none⟩, ⟨⟨(some 62), (.bin .eql (.tmp 61) (.c (.int .i64 (0)))), (some (60, true))⟩, none⟩, ⟨⟨(some 63), (.pick (.tmp 60) (.tmp 62) (.c (.bool false))), none⟩, none⟩, ⟨⟨(some 64), (.mv (.tmp 63)), none⟩, none⟩, ⟨⟨(some 65), (.call (.func 7) []), (some (64, true))⟩, none⟩, ⟨⟨(some 66), (.pick (.tmp 64) (.tmp 65) (.c (.bool false))), none⟩, none⟩, ⟨⟨(some 2), (.mv (.tmp 66)), none⟩, none⟩]) .ret))))))
def rs_coupletlaw20_FlightLong : List ResultVar := [(.tmp 2)]
theorem ir_coupletlaw20_FlightLong : compCode Tryd.prog (Tryd.f5.body.getD .skip) [[3, 17, 18]] = some (xr_coupletlaw20_FlightLong.erase, []) := by kernel_rfl
def gm_coupletlaw20_FlightLong : Gam := (Gam.fn 8 as_flight_Parse ga_flight_Parse em_flight_Parse (Gam.fn 7 as_coupletlaw20_awake ga_coupletlaw20_awake em_coupletlaw20_awake Gam.bot))
theorem gk_coupletlaw20_FlightLong : GamOk Tryd.prog GG gm_coupletlaw20_FlightLong := (GamOk.fn at_flight_Parse (GamOk.fn at_coupletlaw20_awake GamOk.bot))
def st_coupletlaw20_FlightLong_0 (n1 : Int) (n2 : Int) (b3 : Bool) (b4 : Bool) (l5 : List Int) : Option (((Int × Int × Bool × Bool × List Int)) ⊕ (((Bool × Bool × List Int)))) :=
  bif (decide (n2 < n1)) then
   bif (decide (0 ≤ n2)) then
    bif (decide (n2 < (((List.length l5) : Nat) : Int))) then
     bif (decide ((Int.toNat n2) < (List.length l5))) then
      some (Sum.inl (n1, (IntKind.wrap .i64 (n2 + 1)), b3, b4, (List.set l5 (Int.toNat n2) 10)))
     else none
    else none
   else none
  else
   some (Sum.inr (b3, b4, l5))
def lp_coupletlaw20_FlightLong_0 (n1 : Int) (n2 : Int) (b3 : Bool) (b4 : Bool) (l5 : List Int) : Option (((Bool × Bool × List Int))) := loopN (X := (Int × Int × Bool × Bool × List Int)) (fun x => st_coupletlaw20_FlightLong_0 x.1 x.2.1 x.2.2.1 x.2.2.2.1 x.2.2.2.2) (n1, n2, b3, b4, l5)
def sh_coupletlaw20_FlightLong_0 : StSh := ⟨67, [(3, (.row 0)), (17, (.p (.int .i64))), (18, (.p (.int .i64)))], [(.irow 5 .u8)]⟩
def sx_coupletlaw20_FlightLong_0 (x : (Int × Int × Bool × Bool × List Int)) : St := ⟨slots 67 0 [(3, (.row 0)), (17, (.p (.int .i64 x.1))), (18, (.p (.int .i64 x.2.1)))], [(.irow 5 .u8 x.2.2.1 x.2.2.2.1 x.2.2.2.2)]⟩
def sa_coupletlaw20_FlightLong_0 (S : St) : (Int × Int × Bool × Bool × List Int) := (((tls 17 S.t).headD .any).pv.num, ((tls 18 S.t).headD .any).pv.num, ((tls 0 S.own).headD .gone).pvD.nl, ((tls 0 S.own).headD .gone).pvD.ex, ((tls 0 S.own).headD .gone).pvD.ints)
def tz_coupletlaw20_FlightLong_0_0 : StSh := ⟨67, [(3, (.row 0))], [(.irow 5 .u8)]⟩
def tx_coupletlaw20_FlightLong_0_0 (x : (Bool × Bool × List Int)) : St := ⟨slots 67 0 [(3, (.row 0))], [(.irow 5 .u8 x.1 x.2.1 x.2.2)]⟩
def ta_coupletlaw20_FlightLong_0_0 (S : St) : (Bool × Bool × List Int) := (((tls 0 S.own).headD .gone).pvD.nl, ((tls 0 S.own).headD .gone).pvD.ex, ((tls 0 S.own).headD .gone).pvD.ints)
def kb_coupletlaw20_FlightLong_0 : Exit → St → Tree (((Int × Int × Bool × Bool × List Int)) ⊕ (((Bool × Bool × List Int)))) := (exOne (.exit 0) [3] tz_coupletlaw20_FlightLong_0_0 ta_coupletlaw20_FlightLong_0_0 (fun y => Sum.inr (y)) exNil)
def ky_coupletlaw20_FlightLong_0 : Dec (((Bool × Bool × List Int))) := fun _ y ke => ke ((.exit 0) : EK).ex (tx_coupletlaw20_FlightLong_0_0 y)
theorem kk_coupletlaw20_FlightLong_0 : ExOk Sum.inr kb_coupletlaw20_FlightLong_0 ky_coupletlaw20_FlightLong_0 := (ExOk.one (acc := ta_coupletlaw20_FlightLong_0_0) (bY := tx_coupletlaw20_FlightLong_0_0) (inj1 := fun y => y) (fun S => by kernel_rfl) (fun y _ ke => .inr (by kernel_rfl)) ExOk.nil)
def lm_coupletlaw20_FlightLong : Lam := fun _ j S kn ke => match j with
  | 0 => prepT [3, 17, 18] [] S fun S => .chk (sh_coupletlaw20_FlightLong_0.ok S) (.bind (loopN (fun x => st_coupletlaw20_FlightLong_0 x.1 x.2.1 x.2.2.1 x.2.2.2.1 x.2.2.2.2) (sa_coupletlaw20_FlightLong_0 S)) fun y => ky_coupletlaw20_FlightLong_0 _ y ke)
  | _ => .fail
theorem sr_coupletlaw20_FlightLong_0 (x : (Int × Int × Bool × Bool × List Int)) : (ev GG gm_coupletlaw20_FlightLong lm_coupletlaw20_FlightLong xb_coupletlaw20_FlightLong_0 (sx_coupletlaw20_FlightLong_0 x) (fun S => forgetT [3, 17, 18] S fun S => prepT [3, 17, 18] [] S fun S => .chk (sh_coupletlaw20_FlightLong_0.ok S) (.leaf (.inl (sa_coupletlaw20_FlightLong_0 S)))) kb_coupletlaw20_FlightLong_0).run = st_coupletlaw20_FlightLong_0 x.1 x.2.1 x.2.2.1 x.2.2.2.1 x.2.2.2.2 := by kernel_rfl
theorem la_coupletlaw20_FlightLong_0 : LamAt Tryd.prog GG lm_coupletlaw20_FlightLong 0 (.loop [3, 17, 18] xb_coupletlaw20_FlightLong_0.erase) := lam_loop (body := xb_coupletlaw20_FlightLong_0) (Λ' := lm_coupletlaw20_FlightLong) gk_coupletlaw20_FlightLong (⟨trivial, ⟨⟨trivial, trivial⟩, ⟨⟨trivial, trivial⟩, trivial⟩⟩⟩) (fun S => (by kernel_rfl : sh_coupletlaw20_FlightLong_0.build S = sx_coupletlaw20_FlightLong_0 (sa_coupletlaw20_FlightLong_0 S))) kk_coupletlaw20_FlightLong_0 sr_coupletlaw20_FlightLong_0 (fun _ _ _ => rfl)
def go_coupletlaw20_FlightLong (n0 : Int) : Option Bool :=
  bif (decide (0 ≤ (IntKind.wrap .i64 (65537 + (Int.tmod (IntKind.wrap .i64 n0) 100))))) then
   bif (decide (((Int.toNat (IntKind.wrap .i64 (65537 + (Int.tmod (IntKind.wrap .i64 n0) 100)))) * 1) ≤ 140737488355328)) then
    bif (decide ((Int.toNat (IntKind.wrap .i64 (65537 + (Int.tmod (IntKind.wrap .i64 n0) 100)))) ≤ 4611686018427387904)) then
     (lp_coupletlaw20_FlightLong_0 (((List.length (List.replicate (α := Int) (Int.toNat (IntKind.wrap .i64 (65537 + (Int.tmod (IntKind.wrap .i64 n0) 100)))) 0)) : Nat) : Int) 0 false true (List.replicate (α := Int) (Int.toNat (IntKind.wrap .i64 (65537 + (Int.tmod (IntKind.wrap .i64 n0) 100)))) 0)).bind fun y6 =>
     bif (List.all y6.2.2 (fun x10 => (decide ((0 ≤ x10) ∧ (x10 < 256))))) then
      (go_flight_Parse y6.2.2).bind fun r7 =>
      bif (decide (65536 ≤ (((List.length y6.2.2) : Nat) : Int))) then
       bif (List.all (List.take 65536 (List.drop 0 y6.2.2)) (fun x11 => (decide ((0 ≤ x11) ∧ (x11 < 256))))) then
        (go_flight_Parse (List.take 65536 (List.drop 0 y6.2.2))).bind fun r8 =>
        bif ((((List.length r7.2.2.1) : Nat) : Int) == 0) then
         bif (r7.2.2.2.1 == 0) then
          bif (r7.2.2.2.2 == 3) then
           bif ((((List.length r8.2.2.1) : Nat) : Int) == 0) then
            bif (r8.2.2.2.1 == 65536) then
             bif (r8.2.2.2.2 == 0) then
              (go_coupletlaw20_awake).bind fun r9 =>
              some r9
             else
              some false
            else
             some false
           else
            some false
          else
           some false
         else
          some false
        else
         some false
       else none
      else none
     else none
    else none
   else none
  else none
def em_coupletlaw20_FlightLong (r : Bool) : PV := (.bool r)
def rh_coupletlaw20_FlightLong : Shp := .bool
def ra_coupletlaw20_FlightLong (v : PV) : Bool := v.tru
def kf_coupletlaw20_FlightLong (v : PV) : Tree Bool := .chk (rh_coupletlaw20_FlightLong.ok v) (.leaf (ra_coupletlaw20_FlightLong v))
theorem rn_coupletlaw20_FlightLong (n0 : Int) : (ev GG gm_coupletlaw20_FlightLong lm_coupletlaw20_FlightLong xr_coupletlaw20_FlightLong ⟨slots 67 0 [(0, .p (.int .u8 n0))], []⟩ (fun S => finT Tryd.prog rs_coupletlaw20_FlightLong S kf_coupletlaw20_FlightLong) (retT Tryd.prog rs_coupletlaw20_FlightLong kf_coupletlaw20_FlightLong)).run = go_coupletlaw20_FlightLong n0 := by kernel_rfl
theorem ok_coupletlaw20_FlightLong (n0 : Int) (r : Bool) (h : go_coupletlaw20_FlightLong n0 = some r) : FunEq Tryd.prog GG 5 [(.int .u8 n0)] (em_coupletlaw20_FlightLong r) :=
  fun_of_ev (x := xr_coupletlaw20_FlightLong) (Λ := lm_coupletlaw20_FlightLong) gk_coupletlaw20_FlightLong [[3, 17, 18]] Tryd.func5 rfl (by kernel_rfl) ir_coupletlaw20_FlightLong (by kernel_rfl) (congrArg Array.toList Tryd.results5) Tryd.ntmps5 (⟨trivial, ⟨trivial, ⟨⟨trivial, la_coupletlaw20_FlightLong_0⟩, ⟨trivial, ⟨trivial, ⟨trivial, trivial⟩⟩⟩⟩⟩⟩) (leaf_of fun v => (by kernel_rfl : rh_coupletlaw20_FlightLong.build v = em_coupletlaw20_FlightLong (ra_coupletlaw20_FlightLong v))) (by kernel_rfl) ((rn_coupletlaw20_FlightLong n0).trans h)
end Go.Proofs
end
set_option linter.unusedVariables false
set_option linter.unusedSimpArgs false
noncomputable section
namespace Go.Proofs
open Go Go.Fx
def blank (k : Nat) : List Int := List.replicate k 10
def empties (k : Nat) : List (List Int) := List.replicate k []
theorem cut_blank : ∀ (k : Nat) (l : List Int), cutC 10 (blank k ++ l) = empties k ++ cutC 10 l
  | 0, l => rfl
  | k + 1, l => by
    unfold blank empties
    rw [List.replicate_succ, List.replicate_succ, List.cons_append, cutC, beq_self_eq_true, cond_true]
    exact congrArg _ (cut_blank k l)
theorem parse_empties : ∀ (k j : Nat) (L : List (List Int)), parseI j (empties k ++ L) = parseI (j + k) L
  | 0, j, L => rfl
  | k + 1, j, L => by
    unfold empties
    rw [List.replicate_succ, List.cons_append, parseI, show (([] : List Int) == []) = true from rfl, cond_true]
    exact (parse_empties k (j + 1) L).trans (by rw [Nat.add_assoc, Nat.add_comm 1 k])
theorem blank_isB (k : Nat) : isB (blank k) := fun x hx => by
  have := (List.mem_replicate.1 hx).2
  omega
theorem blank_len (k : Nat) : (blank k).length = k := List.length_replicate ..
theorem blank_snoc (k : Nat) : blank (k + 1) = blank k ++ [10] := List.replicate_succ' ..
theorem parse_rep (k : Nat) (hk : k + 1 ≤ 65536) : go_flight_Parse (blank (k + 1)) = some (true, true, [], ((k + 1 : Nat) : Int), 0) := by
  rw [parse_law (blank_isB _) (by rw [blank_len]; omega), blank_snoc, trim_snoc]
  have e : cutC 10 (blank k) = empties (k + 1) ++ [] := by
    have := cut_blank k []
    rw [List.append_nil] at this
    rw [this, List.append_nil]
    unfold empties
    rw [List.replicate_succ']; rfl
  rw [e, parse_empties, parseI]
  dsimp only [List.isEmpty_nil, List.map_nil]
  rw [List.append_nil, show (empties (k + 1)).length = k + 1 from List.length_replicate ..]
  rfl
theorem long_loop (m : Nat) (hm : m ≤ 100000) : lp_coupletlaw20_FlightLong_0 (m : Int) 0 false true (List.replicate (α := Int) m 0) = some (false, true, blank m) := by
  unfold lp_coupletlaw20_FlightLong_0
  refine loop_spec (Y := Bool × Bool × List Int) (step := fun x : Int × Int × Bool × Bool × List Int => st_coupletlaw20_FlightLong_0 x.1 x.2.1 x.2.2.1 x.2.2.2.1 x.2.2.2.2)
    (fun _ => (false, true, blank m))
    (fun x => ∃ i : Nat, x = ((m : Int), (i : Int), false, true, blank i ++ List.replicate (α := Int) (m - i) 0) ∧ i ≤ m)
    (fun x => m - x.2.1.toNat) (fun x ⟨i, hx, q1⟩ => ?_) ⟨0, rfl, Nat.zero_le _⟩ (by dsimp only; omega)
  subst hx
  dsimp only
  unfold st_coupletlaw20_FlightLong_0
  have hlen : (blank i ++ List.replicate (α := Int) (m - i) 0).length = m := by rw [List.length_append, blank_len, List.length_replicate]; omega
  rw [hlen]
  by_cases hi : i < m
  · right
    have w1 : IntKind.wrap .i64 ((i : Int) + 1) = ((i + 1 : Nat) : Int) := by rw [w64 (by omega) (by omega)]; rfl
    rw [w1, Int.toNat_natCast, dt (show (i : Int) < (m : Int) by omega), dt (show (0 : Int) ≤ (i : Int) by omega), dt hi]
    have hs : (blank i ++ List.replicate (α := Int) (m - i) 0).set i 10 = blank (i + 1) ++ List.replicate (α := Int) (m - (i + 1)) 0 := by
      rw [List.set_append_right _ _ (by rw [blank_len]; exact Nat.le_refl _), blank_len, Nat.sub_self, show m - i = m - (i + 1) + 1 by omega, List.replicate_succ, List.set_cons_zero, blank_snoc, List.append_assoc]; rfl
    refine ⟨_, rfl, ⟨i + 1, ?_, by omega⟩, by dsimp only; omega, rfl⟩
    rw [hs]
  · left
    rw [df (show ¬ (i : Int) < (m : Int) by omega), cond_false, show i = m by omega, Nat.sub_self]
    show some (Sum.inr (_, _, blank m ++ [])) = _
    rw [List.append_nil]
theorem take_blank (a m : Nat) (h : a ≤ m) : List.take a (List.drop 0 (blank m)) = blank a := by
  rw [List.drop_zero]
  unfold blank
  rw [List.take_replicate, Nat.min_eq_left h]
theorem parse_rep' (a : Nat) (h1 : 1 ≤ a) (h2 : a ≤ 65536) : go_flight_Parse (blank a) = some (true, true, [], (a : Int), 0) := by
  obtain ⟨k, rfl⟩ : ∃ k, a = k + 1 := ⟨a - 1, by omega⟩
  exact parse_rep k h2
theorem long_at (n : Int) (m : Nat) (hm : IntKind.wrap .i64 (65537 + Int.tmod (IntKind.wrap .i64 n) 100) = (m : Int)) (hm1 : 65537 ≤ m) (hm2 : m ≤ 70000) (a : Nat) (ha : a = 65536) : go_coupletlaw20_FlightLong n = some true := by
  unfold go_coupletlaw20_FlightLong
  have h7 : go_flight_Parse (blank m) = some (true, true, [], 0, 3) := by
    unfold go_flight_Parse
    rw [blank_len, dt (show ((m : Nat) : Int) > 65536 by omega), cond_true]
  have h8 := parse_rep' a (by omega) (by omega)
  have e1 : ((a : Int) == 65536) = true := by rw [beq_iff_eq]; omega
  have e2 : List.take 65536 (List.drop 0 (blank m)) = blank a := by rw [← ha]; exact take_blank a m (by omega)
  have c1 : decide ((0 : Int) ≤ (m : Int)) = true := dt (by omega)
  have c2 : decide (m * 1 ≤ 140737488355328) = true := dt (by omega)
  have c3 : decide (m ≤ 4611686018427387904) = true := dt (by omega)
  have c4 : decide ((65536 : Int) ≤ (m : Int)) = true := dt (by omega)
  have c5 : ((((List.length ([] : List PV)) : Nat) : Int) == 0) = true := rfl
  have c6 : ((0 : Int) == 0) = true := rfl
  have c7 : ((3 : Int) == 3) = true := rfl
  simp only [hm, Int.toNat_natCast, List.length_replicate, long_loop m (by omega), Option.bind_some, c1, c2, c3, cond_true, all_isB (blank_isB m), blank_len, h7, c4, e2, all_isB (blank_isB a), h8, c5, c6, c7, e1, awake_law]
theorem true_FlightLong {n : Int} (hn : 0 ≤ n ∧ n < 256) : go_coupletlaw20_FlightLong n = some true := by
  have hm : IntKind.wrap .i64 (65537 + Int.tmod (IntKind.wrap .i64 n) 100) = ((65537 + n % 100).toNat : Int) := by
    rw [w64 (a := n) (by omega) (by omega), Int.tmod_eq_emod_of_nonneg hn.1, w64 (by omega) (by omega)]; omega
  exact long_at n _ hm (by omega) (by omega) _ rfl
end Go.Proofs
end
set_option linter.unusedVariables false
noncomputable section
namespace Go.Proofs
open Go Go.Fx
theorem wf_u8 {n : Int} (h : (Lit.int .u8 n).wf = true) : 0 ≤ n ∧ n < 256 := by
  simp only [Lit.wf, Bool.and_eq_true, decide_eq_true_eq] at h
  have h1 : 0 ≤ n := h.1
  have h2 : n ≤ 255 := h.2
  exact ⟨h1, by omega⟩
theorem law_FlightLong {n : Int} (h : (Lit.int .u8 n).wf = true) : go_coupletlaw20_FlightLong n = some true := true_FlightLong (wf_u8 h)
end Go.Proofs
end
