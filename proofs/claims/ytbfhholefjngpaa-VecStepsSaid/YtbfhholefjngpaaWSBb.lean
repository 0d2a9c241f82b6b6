import Derived.Test.YtbfhholefjngpaaWBitrow
import Derived.Test.YtbfhholefjngpaaWC9
import Derived.Test.YtbfhholefjngpaaWC10
import Derived.Test.YtbfhholefjngpaaWSVpf
import Derived.Test.YtbfhholefjngpaaFxFin
set_option linter.unusedVariables false
namespace Go.Proofs
open Go Go.Fx Go.Mdlaw Go.Rootlaw
noncomputable def sqr (a b : Int) : Nat := (exists_root (a.natAbs * b.natAbs)).choose
theorem sqr_le (a b : Int) : sqr a b * sqr a b ≤ a.natAbs * b.natAbs := (exists_root (a.natAbs * b.natAbs)).choose_spec.1
theorem sqr_lt (a b : Int) : a.natAbs * b.natAbs < (sqr a b + 1) * (sqr a b + 1) := (exists_root (a.natAbs * b.natAbs)).choose_spec.2
theorem times_at {a b : Int} (h1 : 0 ≤ a) (h2 : a < 9223372036854775808) (h3 : 0 ≤ b) (h4 : b < 9223372036854775808) : FunEq Try.prog (fun _ => none) 33 [.int .i64 a, .int .i64 b] (.isl false false .i64 (Bitrow.bits 130 (a.toNat * b.toNat))) := by
  have := fn_Times (fun _ => none) a.toNat b.toNat (by omega) (by omega)
  rw [Int.toNat_of_nonneg h1, Int.toNat_of_nonneg h3] at this
  exact this
open Classical in
noncomputable def lessV (a b : List Int) : Bool := if h : ∃ x y : Nat, x < 2 ^ 130 ∧ y < 2 ^ 130 ∧ a = Bitrow.bits 130 x ∧ b = Bitrow.bits 130 y then decide (h.choose < h.choose_spec.choose) else false
theorem less_aux {x y x' y' : Nat} (h1 : x' < 2 ^ 130) (h2 : y' < 2 ^ 130) (h3 : Bitrow.bits 130 x = Bitrow.bits 130 x') (h4 : Bitrow.bits 130 y = Bitrow.bits 130 y') : FunEq Try.prog (fun _ => none) 34 [rowP x, rowP y] (.bool (decide (x' < y'))) := by
  unfold rowP
  rw [h3, h4]
  exact fn_Less (fun _ => none) _ _ h1 h2
theorem less_at {an ae bn be : Bool} {a b : List Int} (h : ∃ x y : Nat, x < 2 ^ 130 ∧ y < 2 ^ 130 ∧ PV.isl an ae .i64 a = rowP x ∧ PV.isl bn be .i64 b = rowP y) : FunEq Try.prog (fun _ => none) 34 [.isl an ae .i64 a, .isl bn be .i64 b] (.bool (lessV a b)) := by
  obtain ⟨x, y, hx, hy, e1, e2⟩ := h
  simp only [rowP, PV.isl.injEq, true_and] at e1 e2
  obtain ⟨rfl, rfl, rfl⟩ := e1
  obtain ⟨rfl, rfl, rfl⟩ := e2
  have h : ∃ x' y' : Nat, x' < 2 ^ 130 ∧ y' < 2 ^ 130 ∧ Bitrow.bits 130 x = Bitrow.bits 130 x' ∧ Bitrow.bits 130 y = Bitrow.bits 130 y' := ⟨x, y, hx, hy, rfl, rfl⟩
  unfold lessV
  rw [dif_pos h]
  obtain ⟨h1, h2, h3, h4⟩ := h.choose_spec.choose_spec
  exact less_aux h1 h2 h3 h4
end Go.Proofs
set_option linter.unusedVariables false
set_option linter.unusedSimpArgs false
set_option maxRecDepth 100000
namespace Go.Proofs
open Go Go.Fx Go.Mdlaw Go.Rootlaw
open Classical in
noncomputable def go_env_Num_Add (av : Int) (al : Int) (ah : Int) (ab : Bool) (bv : Int) (bl : Int) (bh : Int) (bb : Bool) : Option (Int × Int × Int × Bool) := if i64N (⟨av, al, ah, ab⟩ : Nm) ∧ i64N (⟨bv, bl, bh, bb⟩ : Nm) then some ((nAdd (⟨av, al, ah, ab⟩ : Nm) (⟨bv, bl, bh, bb⟩ : Nm)).v, (nAdd (⟨av, al, ah, ab⟩ : Nm) (⟨bv, bl, bh, bb⟩ : Nm)).lo, (nAdd (⟨av, al, ah, ab⟩ : Nm) (⟨bv, bl, bh, bb⟩ : Nm)).hi, (nAdd (⟨av, al, ah, ab⟩ : Nm) (⟨bv, bl, bh, bb⟩ : Nm)).bad) else none
def em_env_Num_Add (r : (Int × Int × Int × Bool)) : PV := (.agg [(.int .i64 r.1), (.int .i64 r.2.1), (.int .i64 r.2.2.1), (.bool r.2.2.2)])
def as_env_Num_Add : List Shp := [(.agg [(.int .i64), (.int .i64), (.int .i64), .bool]), (.agg [(.int .i64), (.int .i64), (.int .i64), .bool])]
noncomputable def ga_env_Num_Add (vs : List PV) : Option (Int × Int × Int × Bool) := go_env_Num_Add (((tls 0 vs).headD .nilSl).subs.headD .nilSl).num (((tls 0 vs).headD .nilSl).subs.tail.headD .nilSl).num (((tls 0 vs).headD .nilSl).subs.tail.tail.headD .nilSl).num (((tls 0 vs).headD .nilSl).subs.tail.tail.tail.headD .nilSl).tru (((tls 1 vs).headD .nilSl).subs.headD .nilSl).num (((tls 1 vs).headD .nilSl).subs.tail.headD .nilSl).num (((tls 1 vs).headD .nilSl).subs.tail.tail.headD .nilSl).num (((tls 1 vs).headD .nilSl).subs.tail.tail.tail.headD .nilSl).tru
theorem fe_env_Num_Add (av : Int) (al : Int) (ah : Int) (ab : Bool) (bv : Int) (bl : Int) (bh : Int) (bb : Bool) (r : (Int × Int × Int × Bool)) (hr : go_env_Num_Add av al ah ab bv bl bh bb = some r) : FunEq Try.prog GG 43 [(.agg [(.int .i64 av), (.int .i64 al), (.int .i64 ah), (.bool ab)]), (.agg [(.int .i64 bv), (.int .i64 bl), (.int .i64 bh), (.bool bb)])] (em_env_Num_Add r) := by
  unfold go_env_Num_Add at hr
  split at hr
  · rename_i h
    cases hr
    exact fn_Num_Add GG (⟨av, al, ah, ab⟩ : Nm) (⟨bv, bl, bh, bb⟩ : Nm) h.1 h.2
  · cases hr
theorem at_env_Num_Add : FnAt Try.prog GG 43 as_env_Num_Add ga_env_Num_Add em_env_Num_Add := fun vs h r hr => by
  have e : Shp.buildL as_env_Num_Add vs = [(.agg [(.int .i64 (((tls 0 vs).headD .nilSl).subs.headD .nilSl).num), (.int .i64 (((tls 0 vs).headD .nilSl).subs.tail.headD .nilSl).num), (.int .i64 (((tls 0 vs).headD .nilSl).subs.tail.tail.headD .nilSl).num), (.bool (((tls 0 vs).headD .nilSl).subs.tail.tail.tail.headD .nilSl).tru)]), (.agg [(.int .i64 (((tls 1 vs).headD .nilSl).subs.headD .nilSl).num), (.int .i64 (((tls 1 vs).headD .nilSl).subs.tail.headD .nilSl).num), (.int .i64 (((tls 1 vs).headD .nilSl).subs.tail.tail.headD .nilSl).num), (.bool (((tls 1 vs).headD .nilSl).subs.tail.tail.tail.headD .nilSl).tru)])] := by kernel_rfl
  rw [← Shp.buildL_eq _ h, e]
  exact .inl ⟨by decide, fe_env_Num_Add _ _ _ _ _ _ _ _ r hr⟩
open Classical in
noncomputable def go_env_Num_Mul (av : Int) (al : Int) (ah : Int) (ab : Bool) (bv : Int) (bl : Int) (bh : Int) (bb : Bool) : Option (Int × Int × Int × Bool) := if i64N (⟨av, al, ah, ab⟩ : Nm) ∧ i64N (⟨bv, bl, bh, bb⟩ : Nm) then some ((nMul (⟨av, al, ah, ab⟩ : Nm) (⟨bv, bl, bh, bb⟩ : Nm)).v, (nMul (⟨av, al, ah, ab⟩ : Nm) (⟨bv, bl, bh, bb⟩ : Nm)).lo, (nMul (⟨av, al, ah, ab⟩ : Nm) (⟨bv, bl, bh, bb⟩ : Nm)).hi, (nMul (⟨av, al, ah, ab⟩ : Nm) (⟨bv, bl, bh, bb⟩ : Nm)).bad) else none
def em_env_Num_Mul (r : (Int × Int × Int × Bool)) : PV := (.agg [(.int .i64 r.1), (.int .i64 r.2.1), (.int .i64 r.2.2.1), (.bool r.2.2.2)])
def as_env_Num_Mul : List Shp := [(.agg [(.int .i64), (.int .i64), (.int .i64), .bool]), (.agg [(.int .i64), (.int .i64), (.int .i64), .bool])]
noncomputable def ga_env_Num_Mul (vs : List PV) : Option (Int × Int × Int × Bool) := go_env_Num_Mul (((tls 0 vs).headD .nilSl).subs.headD .nilSl).num (((tls 0 vs).headD .nilSl).subs.tail.headD .nilSl).num (((tls 0 vs).headD .nilSl).subs.tail.tail.headD .nilSl).num (((tls 0 vs).headD .nilSl).subs.tail.tail.tail.headD .nilSl).tru (((tls 1 vs).headD .nilSl).subs.headD .nilSl).num (((tls 1 vs).headD .nilSl).subs.tail.headD .nilSl).num (((tls 1 vs).headD .nilSl).subs.tail.tail.headD .nilSl).num (((tls 1 vs).headD .nilSl).subs.tail.tail.tail.headD .nilSl).tru
theorem fe_env_Num_Mul (av : Int) (al : Int) (ah : Int) (ab : Bool) (bv : Int) (bl : Int) (bh : Int) (bb : Bool) (r : (Int × Int × Int × Bool)) (hr : go_env_Num_Mul av al ah ab bv bl bh bb = some r) : FunEq Try.prog GG 44 [(.agg [(.int .i64 av), (.int .i64 al), (.int .i64 ah), (.bool ab)]), (.agg [(.int .i64 bv), (.int .i64 bl), (.int .i64 bh), (.bool bb)])] (em_env_Num_Mul r) := by
  unfold go_env_Num_Mul at hr
  split at hr
  · rename_i h
    cases hr
    exact fn_Num_Mul GG (⟨av, al, ah, ab⟩ : Nm) (⟨bv, bl, bh, bb⟩ : Nm) h.1 h.2
  · cases hr
theorem at_env_Num_Mul : FnAt Try.prog GG 44 as_env_Num_Mul ga_env_Num_Mul em_env_Num_Mul := fun vs h r hr => by
  have e : Shp.buildL as_env_Num_Mul vs = [(.agg [(.int .i64 (((tls 0 vs).headD .nilSl).subs.headD .nilSl).num), (.int .i64 (((tls 0 vs).headD .nilSl).subs.tail.headD .nilSl).num), (.int .i64 (((tls 0 vs).headD .nilSl).subs.tail.tail.headD .nilSl).num), (.bool (((tls 0 vs).headD .nilSl).subs.tail.tail.tail.headD .nilSl).tru)]), (.agg [(.int .i64 (((tls 1 vs).headD .nilSl).subs.headD .nilSl).num), (.int .i64 (((tls 1 vs).headD .nilSl).subs.tail.headD .nilSl).num), (.int .i64 (((tls 1 vs).headD .nilSl).subs.tail.tail.headD .nilSl).num), (.bool (((tls 1 vs).headD .nilSl).subs.tail.tail.tail.headD .nilSl).tru)])] := by kernel_rfl
  rw [← Shp.buildL_eq _ h, e]
  exact .inl ⟨by decide, fe_env_Num_Mul _ _ _ _ _ _ _ _ r hr⟩
open Classical in
noncomputable def go_env_Num_Of (av : Int) (al : Int) (ah : Int) (ab : Bool) (n : Int) : Option (Int × Int × Int × Bool) := if i64 n then some ((nOf n).v, (nOf n).lo, (nOf n).hi, (nOf n).bad) else none
def em_env_Num_Of (r : (Int × Int × Int × Bool)) : PV := (.agg [(.int .i64 r.1), (.int .i64 r.2.1), (.int .i64 r.2.2.1), (.bool r.2.2.2)])
def as_env_Num_Of : List Shp := [(.agg [(.int .i64), (.int .i64), (.int .i64), .bool]), (.int .i64)]
noncomputable def ga_env_Num_Of (vs : List PV) : Option (Int × Int × Int × Bool) := go_env_Num_Of (((tls 0 vs).headD .nilSl).subs.headD .nilSl).num (((tls 0 vs).headD .nilSl).subs.tail.headD .nilSl).num (((tls 0 vs).headD .nilSl).subs.tail.tail.headD .nilSl).num (((tls 0 vs).headD .nilSl).subs.tail.tail.tail.headD .nilSl).tru ((tls 1 vs).headD .nilSl).num
theorem fe_env_Num_Of (av : Int) (al : Int) (ah : Int) (ab : Bool) (n : Int) (r : (Int × Int × Int × Bool)) (hr : go_env_Num_Of av al ah ab n = some r) : FunEq Try.prog GG 37 [(.agg [(.int .i64 av), (.int .i64 al), (.int .i64 ah), (.bool ab)]), (.int .i64 n)] (em_env_Num_Of r) := by
  unfold go_env_Num_Of at hr
  split at hr
  · rename_i h
    cases hr
    exact fn_Num_Of GG (⟨av, al, ah, ab⟩ : Nm) n h
  · cases hr
theorem at_env_Num_Of : FnAt Try.prog GG 37 as_env_Num_Of ga_env_Num_Of em_env_Num_Of := fun vs h r hr => by
  have e : Shp.buildL as_env_Num_Of vs = [(.agg [(.int .i64 (((tls 0 vs).headD .nilSl).subs.headD .nilSl).num), (.int .i64 (((tls 0 vs).headD .nilSl).subs.tail.headD .nilSl).num), (.int .i64 (((tls 0 vs).headD .nilSl).subs.tail.tail.headD .nilSl).num), (.bool (((tls 0 vs).headD .nilSl).subs.tail.tail.tail.headD .nilSl).tru)]), (.int .i64 ((tls 1 vs).headD .nilSl).num)] := by kernel_rfl
  rw [← Shp.buildL_eq _ h, e]
  exact .inl ⟨by decide, fe_env_Num_Of _ _ _ _ _ r hr⟩
open Classical in
noncomputable def go_coupletlaw03_Given (av : Int) (al : Int) (ah : Int) (ab : Bool) : Option (Int × Int × Int × Bool) := some (((⟨av, al, ah, ab⟩ : Nm)).v, ((⟨av, al, ah, ab⟩ : Nm)).lo, ((⟨av, al, ah, ab⟩ : Nm)).hi, ((⟨av, al, ah, ab⟩ : Nm)).bad)
def em_coupletlaw03_Given (r : (Int × Int × Int × Bool)) : PV := (.agg [(.int .i64 r.1), (.int .i64 r.2.1), (.int .i64 r.2.2.1), (.bool r.2.2.2)])
def as_coupletlaw03_Given : List Shp := [(.agg [(.int .i64), (.int .i64), (.int .i64), .bool])]
noncomputable def ga_coupletlaw03_Given (vs : List PV) : Option (Int × Int × Int × Bool) := go_coupletlaw03_Given (((tls 0 vs).headD .nilSl).subs.headD .nilSl).num (((tls 0 vs).headD .nilSl).subs.tail.headD .nilSl).num (((tls 0 vs).headD .nilSl).subs.tail.tail.headD .nilSl).num (((tls 0 vs).headD .nilSl).subs.tail.tail.tail.headD .nilSl).tru
theorem fe_coupletlaw03_Given (av : Int) (al : Int) (ah : Int) (ab : Bool) (r : (Int × Int × Int × Bool)) (hr : go_coupletlaw03_Given av al ah ab = some r) : FunEq Try.prog GG 39 [(.agg [(.int .i64 av), (.int .i64 al), (.int .i64 ah), (.bool ab)])] (em_coupletlaw03_Given r) := by
  unfold go_coupletlaw03_Given at hr
  cases hr
  exact fn_Given GG (⟨av, al, ah, ab⟩ : Nm)
theorem at_coupletlaw03_Given : FnAt Try.prog GG 39 as_coupletlaw03_Given ga_coupletlaw03_Given em_coupletlaw03_Given := fun vs h r hr => by
  have e : Shp.buildL as_coupletlaw03_Given vs = [(.agg [(.int .i64 (((tls 0 vs).headD .nilSl).subs.headD .nilSl).num), (.int .i64 (((tls 0 vs).headD .nilSl).subs.tail.headD .nilSl).num), (.int .i64 (((tls 0 vs).headD .nilSl).subs.tail.tail.headD .nilSl).num), (.bool (((tls 0 vs).headD .nilSl).subs.tail.tail.tail.headD .nilSl).tru)])] := by kernel_rfl
  rw [← Shp.buildL_eq _ h, e]
  exact .inl ⟨by decide, fe_coupletlaw03_Given _ _ _ _ r hr⟩
end Go.Proofs
set_option linter.unusedVariables false
set_option linter.unusedSimpArgs false
set_option maxRecDepth 100000
namespace Go.Proofs
open Go Go.Fx Go.Mdlaw Go.Rootlaw
open Classical in
noncomputable def go_coupletref01_MulDiv (a : Int) (b : Int) (c : Int) (m : Int) : Option (Int × Bool) := some ((md a b c m).1, (md a b c m).2)
def em_coupletref01_MulDiv (r : (Int × Bool)) : PV := (.tup [(.int .i64 r.1), (.bool r.2)])
def as_coupletref01_MulDiv : List Shp := [(.int .i64), (.int .i64), (.int .i64), (.int .i64)]
noncomputable def ga_coupletref01_MulDiv (vs : List PV) : Option (Int × Bool) := go_coupletref01_MulDiv ((tls 0 vs).headD .nilSl).num ((tls 1 vs).headD .nilSl).num ((tls 2 vs).headD .nilSl).num ((tls 3 vs).headD .nilSl).num
theorem fe_coupletref01_MulDiv (a : Int) (b : Int) (c : Int) (m : Int) (r : (Int × Bool)) (hr : go_coupletref01_MulDiv a b c m = some r) : FunEq Try.prog GG 25 [(.int .i64 a), (.int .i64 b), (.int .i64 c), (.int .i64 m)] (em_coupletref01_MulDiv r) := by
  unfold go_coupletref01_MulDiv at hr
  cases hr
  exact fn_ref_MulDiv GG a b c m
theorem at_coupletref01_MulDiv : FnAt Try.prog GG 25 as_coupletref01_MulDiv ga_coupletref01_MulDiv em_coupletref01_MulDiv := fun vs h r hr => by
  have e : Shp.buildL as_coupletref01_MulDiv vs = [(.int .i64 ((tls 0 vs).headD .nilSl).num), (.int .i64 ((tls 1 vs).headD .nilSl).num), (.int .i64 ((tls 2 vs).headD .nilSl).num), (.int .i64 ((tls 3 vs).headD .nilSl).num)] := by kernel_rfl
  rw [← Shp.buildL_eq _ h, e]
  exact .inl ⟨by decide, fe_coupletref01_MulDiv _ _ _ _ r hr⟩
open Classical in
noncomputable def go_coupletref01_Root (a : Int) (b : Int) : Option (Int × Bool) := if okW a ∧ okW b then some (((sqr a b : Nat) : Int), !decide (sqr a b * sqr a b < (a).natAbs * (b).natAbs)) else none
def em_coupletref01_Root (r : (Int × Bool)) : PV := (.tup [(.int .i64 r.1), (.bool r.2)])
def as_coupletref01_Root : List Shp := [(.int .i64), (.int .i64)]
noncomputable def ga_coupletref01_Root (vs : List PV) : Option (Int × Bool) := go_coupletref01_Root ((tls 0 vs).headD .nilSl).num ((tls 1 vs).headD .nilSl).num
theorem fe_coupletref01_Root (a : Int) (b : Int) (r : (Int × Bool)) (hr : go_coupletref01_Root a b = some r) : FunEq Try.prog GG 32 [(.int .i64 a), (.int .i64 b)] (em_coupletref01_Root r) := by
  unfold go_coupletref01_Root at hr
  split at hr
  · rename_i h
    cases hr
    exact fn_ref_Root GG a b (sqr a b) h.1 h.2 (sqr_le a b) (sqr_lt a b)
  · cases hr
theorem at_coupletref01_Root : FnAt Try.prog GG 32 as_coupletref01_Root ga_coupletref01_Root em_coupletref01_Root := fun vs h r hr => by
  have e : Shp.buildL as_coupletref01_Root vs = [(.int .i64 ((tls 0 vs).headD .nilSl).num), (.int .i64 ((tls 1 vs).headD .nilSl).num)] := by kernel_rfl
  rw [← Shp.buildL_eq _ h, e]
  exact .inl ⟨by decide, fe_coupletref01_Root _ _ r hr⟩
open Classical in
noncomputable def go_coupletref01_Times (a : Int) (b : Int) : Option (Bool × Bool × List Int) := if 0 ≤ a ∧ a < 9223372036854775808 ∧ 0 ≤ b ∧ b < 9223372036854775808 then some (false, false, Bitrow.bits 130 ((a).toNat * (b).toNat)) else none
def em_coupletref01_Times (r : (Bool × Bool × List Int)) : PV := (.isl r.1 r.2.1 .i64 r.2.2)
def as_coupletref01_Times : List Shp := [(.int .i64), (.int .i64)]
noncomputable def ga_coupletref01_Times (vs : List PV) : Option (Bool × Bool × List Int) := go_coupletref01_Times ((tls 0 vs).headD .nilSl).num ((tls 1 vs).headD .nilSl).num
theorem fe_coupletref01_Times (a : Int) (b : Int) (r : (Bool × Bool × List Int)) (hr : go_coupletref01_Times a b = some r) : FunEq Try.prog GG 33 [(.int .i64 a), (.int .i64 b)] (em_coupletref01_Times r) := by
  unfold go_coupletref01_Times at hr
  split at hr
  · rename_i h
    cases hr
    exact times_at h.1 h.2.1 h.2.2.1 h.2.2.2
  · cases hr
theorem at_coupletref01_Times : FnAt Try.prog GG 33 as_coupletref01_Times ga_coupletref01_Times em_coupletref01_Times := fun vs h r hr => by
  have e : Shp.buildL as_coupletref01_Times vs = [(.int .i64 ((tls 0 vs).headD .nilSl).num), (.int .i64 ((tls 1 vs).headD .nilSl).num)] := by kernel_rfl
  rw [← Shp.buildL_eq _ h, e]
  exact .inl ⟨by decide, fe_coupletref01_Times _ _ r hr⟩
open Classical in
noncomputable def go_coupletref01_Less (an : Bool) (ae : Bool) (a : List Int) (bn : Bool) (be : Bool) (b : List Int) : Option Bool := if ∃ x y : Nat, x < 2 ^ 130 ∧ y < 2 ^ 130 ∧ PV.isl an ae .i64 a = rowP x ∧ PV.isl bn be .i64 b = rowP y then some (lessV a b) else none
def em_coupletref01_Less (r : Bool) : PV := (.bool r)
def as_coupletref01_Less : List Shp := [(.isl .i64), (.isl .i64)]
noncomputable def ga_coupletref01_Less (vs : List PV) : Option Bool := go_coupletref01_Less ((tls 0 vs).headD .nilSl).nl ((tls 0 vs).headD .nilSl).ex ((tls 0 vs).headD .nilSl).ints ((tls 1 vs).headD .nilSl).nl ((tls 1 vs).headD .nilSl).ex ((tls 1 vs).headD .nilSl).ints
theorem fe_coupletref01_Less (an : Bool) (ae : Bool) (a : List Int) (bn : Bool) (be : Bool) (b : List Int) (r : Bool) (hr : go_coupletref01_Less an ae a bn be b = some r) : FunEq Try.prog GG 34 [(.isl an ae .i64 a), (.isl bn be .i64 b)] (em_coupletref01_Less r) := by
  unfold go_coupletref01_Less at hr
  split at hr
  · rename_i h
    cases hr
    exact less_at h
  · cases hr
theorem at_coupletref01_Less : FnAt Try.prog GG 34 as_coupletref01_Less ga_coupletref01_Less em_coupletref01_Less := fun vs h r hr => by
  have e : Shp.buildL as_coupletref01_Less vs = [(.isl ((tls 0 vs).headD .nilSl).nl ((tls 0 vs).headD .nilSl).ex .i64 ((tls 0 vs).headD .nilSl).ints), (.isl ((tls 1 vs).headD .nilSl).nl ((tls 1 vs).headD .nilSl).ex .i64 ((tls 1 vs).headD .nilSl).ints)] := by kernel_rfl
  rw [← Shp.buildL_eq _ h, e]
  exact .inl ⟨by decide, fe_coupletref01_Less _ _ _ _ _ _ r hr⟩
end Go.Proofs
