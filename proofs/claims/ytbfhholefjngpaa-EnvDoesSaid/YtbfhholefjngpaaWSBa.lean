import Derived.Test.YtbfhholefjngpaaWE5
import Derived.Test.YtbfhholefjngpaaFxFin
set_option linter.unusedVariables false
set_option linter.unusedSimpArgs false
set_option maxRecDepth 100000
namespace Go.Proofs
open Go Go.Fx Go.Mdlaw Go.Rootlaw
def GG : Glob := fun _ => none
open Classical in
noncomputable def go_env_Num_Add (av : Int) (al : Int) (ah : Int) (ab : Bool) (bv : Int) (bl : Int) (bh : Int) (bb : Bool) : Option (Int × Int × Int × Bool) := if i64N (⟨av, al, ah, ab⟩ : Nm) ∧ i64N (⟨bv, bl, bh, bb⟩ : Nm) then some ((nAdd (⟨av, al, ah, ab⟩ : Nm) (⟨bv, bl, bh, bb⟩ : Nm)).v, (nAdd (⟨av, al, ah, ab⟩ : Nm) (⟨bv, bl, bh, bb⟩ : Nm)).lo, (nAdd (⟨av, al, ah, ab⟩ : Nm) (⟨bv, bl, bh, bb⟩ : Nm)).hi, (nAdd (⟨av, al, ah, ab⟩ : Nm) (⟨bv, bl, bh, bb⟩ : Nm)).bad) else none
def em_env_Num_Add (r : (Int × Int × Int × Bool)) : PV := (.agg [(.int .i64 r.1), (.int .i64 r.2.1), (.int .i64 r.2.2.1), (.bool r.2.2.2)])
def as_env_Num_Add : List Shp := [(.agg [(.int .i64), (.int .i64), (.int .i64), .bool]), (.agg [(.int .i64), (.int .i64), (.int .i64), .bool])]
noncomputable def ga_env_Num_Add (vs : List PV) : Option (Int × Int × Int × Bool) := go_env_Num_Add (((tls 0 vs).headD .nilSl).subs.headD .nilSl).num (((tls 0 vs).headD .nilSl).subs.tail.headD .nilSl).num (((tls 0 vs).headD .nilSl).subs.tail.tail.headD .nilSl).num (((tls 0 vs).headD .nilSl).subs.tail.tail.tail.headD .nilSl).tru (((tls 1 vs).headD .nilSl).subs.headD .nilSl).num (((tls 1 vs).headD .nilSl).subs.tail.headD .nilSl).num (((tls 1 vs).headD .nilSl).subs.tail.tail.headD .nilSl).num (((tls 1 vs).headD .nilSl).subs.tail.tail.tail.headD .nilSl).tru
theorem fe_env_Num_Add (av : Int) (al : Int) (ah : Int) (ab : Bool) (bv : Int) (bl : Int) (bh : Int) (bb : Bool) (r : (Int × Int × Int × Bool)) (hr : go_env_Num_Add av al ah ab bv bl bh bb = some r) : FunEq Try.prog GG 43 [(.agg [(.int .i64 av), (.int .i64 al), (.int .i64 ah), (.bool ab)]), (.agg [(.int .i64 bv), (.int .i64 bl), (.int .i64 bh), (.bool bb)])] (em_env_Num_Add r) := by
  unfold go_env_Num_Add at hr
  split at hr
  · rename_i h
    cases hr
    exact fn_Num_Add GG (⟨av, al, ah, ab⟩ : Nm) (⟨bv, bl, bh, bb⟩ : Nm) h.1 h.2
  · cases hr
theorem at_env_Num_Add : FnAt Try.prog GG 43 as_env_Num_Add ga_env_Num_Add em_env_Num_Add := fun vs h r hr => by
  have e : Shp.buildL as_env_Num_Add vs = [(.agg [(.int .i64 (((tls 0 vs).headD .nilSl).subs.headD .nilSl).num), (.int .i64 (((tls 0 vs).headD .nilSl).subs.tail.headD .nilSl).num), (.int .i64 (((tls 0 vs).headD .nilSl).subs.tail.tail.headD .nilSl).num), (.bool (((tls 0 vs).headD .nilSl).subs.tail.tail.tail.headD .nilSl).tru)]), (.agg [(.int .i64 (((tls 1 vs).headD .nilSl).subs.headD .nilSl).num), (.int .i64 (((tls 1 vs).headD .nilSl).subs.tail.headD .nilSl).num), (.int .i64 (((tls 1 vs).headD .nilSl).subs.tail.tail.headD .nilSl).num), (.bool (((tls 1 vs).headD .nilSl).subs.tail.tail.tail.headD .nilSl).tru)])] := by kernel_rfl
  rw [← Shp.buildL_eq _ h, e]
  exact fe_env_Num_Add _ _ _ _ _ _ _ _ r hr

open Classical in
noncomputable def go_env_Num_Sub (av : Int) (al : Int) (ah : Int) (ab : Bool) (bv : Int) (bl : Int) (bh : Int) (bb : Bool) : Option (Int × Int × Int × Bool) := if i64N (⟨av, al, ah, ab⟩ : Nm) ∧ i64N (⟨bv, bl, bh, bb⟩ : Nm) then some ((nSub (⟨av, al, ah, ab⟩ : Nm) (⟨bv, bl, bh, bb⟩ : Nm)).v, (nSub (⟨av, al, ah, ab⟩ : Nm) (⟨bv, bl, bh, bb⟩ : Nm)).lo, (nSub (⟨av, al, ah, ab⟩ : Nm) (⟨bv, bl, bh, bb⟩ : Nm)).hi, (nSub (⟨av, al, ah, ab⟩ : Nm) (⟨bv, bl, bh, bb⟩ : Nm)).bad) else none
def em_env_Num_Sub (r : (Int × Int × Int × Bool)) : PV := (.agg [(.int .i64 r.1), (.int .i64 r.2.1), (.int .i64 r.2.2.1), (.bool r.2.2.2)])
def as_env_Num_Sub : List Shp := [(.agg [(.int .i64), (.int .i64), (.int .i64), .bool]), (.agg [(.int .i64), (.int .i64), (.int .i64), .bool])]
noncomputable def ga_env_Num_Sub (vs : List PV) : Option (Int × Int × Int × Bool) := go_env_Num_Sub (((tls 0 vs).headD .nilSl).subs.headD .nilSl).num (((tls 0 vs).headD .nilSl).subs.tail.headD .nilSl).num (((tls 0 vs).headD .nilSl).subs.tail.tail.headD .nilSl).num (((tls 0 vs).headD .nilSl).subs.tail.tail.tail.headD .nilSl).tru (((tls 1 vs).headD .nilSl).subs.headD .nilSl).num (((tls 1 vs).headD .nilSl).subs.tail.headD .nilSl).num (((tls 1 vs).headD .nilSl).subs.tail.tail.headD .nilSl).num (((tls 1 vs).headD .nilSl).subs.tail.tail.tail.headD .nilSl).tru
theorem fe_env_Num_Sub (av : Int) (al : Int) (ah : Int) (ab : Bool) (bv : Int) (bl : Int) (bh : Int) (bb : Bool) (r : (Int × Int × Int × Bool)) (hr : go_env_Num_Sub av al ah ab bv bl bh bb = some r) : FunEq Try.prog GG 45 [(.agg [(.int .i64 av), (.int .i64 al), (.int .i64 ah), (.bool ab)]), (.agg [(.int .i64 bv), (.int .i64 bl), (.int .i64 bh), (.bool bb)])] (em_env_Num_Sub r) := by
  unfold go_env_Num_Sub at hr
  split at hr
  · rename_i h
    cases hr
    exact fn_Num_Sub GG (⟨av, al, ah, ab⟩ : Nm) (⟨bv, bl, bh, bb⟩ : Nm) h.1 h.2
  · cases hr
theorem at_env_Num_Sub : FnAt Try.prog GG 45 as_env_Num_Sub ga_env_Num_Sub em_env_Num_Sub := fun vs h r hr => by
  have e : Shp.buildL as_env_Num_Sub vs = [(.agg [(.int .i64 (((tls 0 vs).headD .nilSl).subs.headD .nilSl).num), (.int .i64 (((tls 0 vs).headD .nilSl).subs.tail.headD .nilSl).num), (.int .i64 (((tls 0 vs).headD .nilSl).subs.tail.tail.headD .nilSl).num), (.bool (((tls 0 vs).headD .nilSl).subs.tail.tail.tail.headD .nilSl).tru)]), (.agg [(.int .i64 (((tls 1 vs).headD .nilSl).subs.headD .nilSl).num), (.int .i64 (((tls 1 vs).headD .nilSl).subs.tail.headD .nilSl).num), (.int .i64 (((tls 1 vs).headD .nilSl).subs.tail.tail.headD .nilSl).num), (.bool (((tls 1 vs).headD .nilSl).subs.tail.tail.tail.headD .nilSl).tru)])] := by kernel_rfl
  rw [← Shp.buildL_eq _ h, e]
  exact fe_env_Num_Sub _ _ _ _ _ _ _ _ r hr

open Classical in
noncomputable def go_env_Num_Mul (av : Int) (al : Int) (ah : Int) (ab : Bool) (bv : Int) (bl : Int) (bh : Int) (bb : Bool) : Option (Int × Int × Int × Bool) := if i64N (⟨av, al, ah, ab⟩ : Nm) ∧ i64N (⟨bv, bl, bh, bb⟩ : Nm) then some ((nMul (⟨av, al, ah, ab⟩ : Nm) (⟨bv, bl, bh, bb⟩ : Nm)).v, (nMul (⟨av, al, ah, ab⟩ : Nm) (⟨bv, bl, bh, bb⟩ : Nm)).lo, (nMul (⟨av, al, ah, ab⟩ : Nm) (⟨bv, bl, bh, bb⟩ : Nm)).hi, (nMul (⟨av, al, ah, ab⟩ : Nm) (⟨bv, bl, bh, bb⟩ : Nm)).bad) else none
def em_env_Num_Mul (r : (Int × Int × Int × Bool)) : PV := (.agg [(.int .i64 r.1), (.int .i64 r.2.1), (.int .i64 r.2.2.1), (.bool r.2.2.2)])
def as_env_Num_Mul : List Shp := [(.agg [(.int .i64), (.int .i64), (.int .i64), .bool]), (.agg [(.int .i64), (.int .i64), (.int .i64), .bool])]
noncomputable def ga_env_Num_Mul (vs : List PV) : Option (Int × Int × Int × Bool) := go_env_Num_Mul (((tls 0 vs).headD .nilSl).subs.headD .nilSl).num (((tls 0 vs).headD .nilSl).subs.tail.headD .nilSl).num (((tls 0 vs).headD .nilSl).subs.tail.tail.headD .nilSl).num (((tls 0 vs).headD .nilSl).subs.tail.tail.tail.headD .nilSl).tru (((tls 1 vs).headD .nilSl).subs.headD .nilSl).num (((tls 1 vs).headD .nilSl).subs.tail.headD .nilSl).num (((tls 1 vs).headD .nilSl).subs.tail.tail.headD .nilSl).num (((tls 1 vs).headD .nilSl).subs.tail.tail.tail.headD .nilSl).tru
theorem fe_env_Num_Mul (av : Int) (al : Int) (ah : Int) (ab : Bool) (bv : Int) (bl : Int) (bh : Int) (bb : Bool) (r : (Int × Int × Int × Bool)) (hr : go_env_Num_Mul av al ah ab bv bl bh bb = some r) : FunEq Try.prog GG 44 [(.agg [(.int .i64 av), (.int .i64 al), (.int .i64 ah), (.bool ab)]), (.agg [(.int .i64 bv), (.int .i64 bl), (.int .i64 bh), (.bool bb)])] (em_env_Num_Mul r) := by
  unfold go_env_Num_Mul at hr
  split at hr
  · rename_i h
    cases hr
    exact fn_Num_Mul GG (⟨av, al, ah, ab⟩ : Nm) (⟨bv, bl, bh, bb⟩ : Nm) h.1 h.2
  · cases hr
theorem at_env_Num_Mul : FnAt Try.prog GG 44 as_env_Num_Mul ga_env_Num_Mul em_env_Num_Mul := fun vs h r hr => by
  have e : Shp.buildL as_env_Num_Mul vs = [(.agg [(.int .i64 (((tls 0 vs).headD .nilSl).subs.headD .nilSl).num), (.int .i64 (((tls 0 vs).headD .nilSl).subs.tail.headD .nilSl).num), (.int .i64 (((tls 0 vs).headD .nilSl).subs.tail.tail.headD .nilSl).num), (.bool (((tls 0 vs).headD .nilSl).subs.tail.tail.tail.headD .nilSl).tru)]), (.agg [(.int .i64 (((tls 1 vs).headD .nilSl).subs.headD .nilSl).num), (.int .i64 (((tls 1 vs).headD .nilSl).subs.tail.headD .nilSl).num), (.int .i64 (((tls 1 vs).headD .nilSl).subs.tail.tail.headD .nilSl).num), (.bool (((tls 1 vs).headD .nilSl).subs.tail.tail.tail.headD .nilSl).tru)])] := by kernel_rfl
  rw [← Shp.buildL_eq _ h, e]
  exact fe_env_Num_Mul _ _ _ _ _ _ _ _ r hr

open Classical in
noncomputable def go_env_Num_Div (av : Int) (al : Int) (ah : Int) (ab : Bool) (bv : Int) (bl : Int) (bh : Int) (bb : Bool) : Option (Int × Int × Int × Bool) := if i64N (⟨av, al, ah, ab⟩ : Nm) ∧ i64N (⟨bv, bl, bh, bb⟩ : Nm) then some ((nDiv (⟨av, al, ah, ab⟩ : Nm) (⟨bv, bl, bh, bb⟩ : Nm)).v, (nDiv (⟨av, al, ah, ab⟩ : Nm) (⟨bv, bl, bh, bb⟩ : Nm)).lo, (nDiv (⟨av, al, ah, ab⟩ : Nm) (⟨bv, bl, bh, bb⟩ : Nm)).hi, (nDiv (⟨av, al, ah, ab⟩ : Nm) (⟨bv, bl, bh, bb⟩ : Nm)).bad) else none
def em_env_Num_Div (r : (Int × Int × Int × Bool)) : PV := (.agg [(.int .i64 r.1), (.int .i64 r.2.1), (.int .i64 r.2.2.1), (.bool r.2.2.2)])
def as_env_Num_Div : List Shp := [(.agg [(.int .i64), (.int .i64), (.int .i64), .bool]), (.agg [(.int .i64), (.int .i64), (.int .i64), .bool])]
noncomputable def ga_env_Num_Div (vs : List PV) : Option (Int × Int × Int × Bool) := go_env_Num_Div (((tls 0 vs).headD .nilSl).subs.headD .nilSl).num (((tls 0 vs).headD .nilSl).subs.tail.headD .nilSl).num (((tls 0 vs).headD .nilSl).subs.tail.tail.headD .nilSl).num (((tls 0 vs).headD .nilSl).subs.tail.tail.tail.headD .nilSl).tru (((tls 1 vs).headD .nilSl).subs.headD .nilSl).num (((tls 1 vs).headD .nilSl).subs.tail.headD .nilSl).num (((tls 1 vs).headD .nilSl).subs.tail.tail.headD .nilSl).num (((tls 1 vs).headD .nilSl).subs.tail.tail.tail.headD .nilSl).tru
theorem fe_env_Num_Div (av : Int) (al : Int) (ah : Int) (ab : Bool) (bv : Int) (bl : Int) (bh : Int) (bb : Bool) (r : (Int × Int × Int × Bool)) (hr : go_env_Num_Div av al ah ab bv bl bh bb = some r) : FunEq Try.prog GG 49 [(.agg [(.int .i64 av), (.int .i64 al), (.int .i64 ah), (.bool ab)]), (.agg [(.int .i64 bv), (.int .i64 bl), (.int .i64 bh), (.bool bb)])] (em_env_Num_Div r) := by
  unfold go_env_Num_Div at hr
  split at hr
  · rename_i h
    cases hr
    exact fn_Num_Div GG (⟨av, al, ah, ab⟩ : Nm) (⟨bv, bl, bh, bb⟩ : Nm) h.1 h.2
  · cases hr
theorem at_env_Num_Div : FnAt Try.prog GG 49 as_env_Num_Div ga_env_Num_Div em_env_Num_Div := fun vs h r hr => by
  have e : Shp.buildL as_env_Num_Div vs = [(.agg [(.int .i64 (((tls 0 vs).headD .nilSl).subs.headD .nilSl).num), (.int .i64 (((tls 0 vs).headD .nilSl).subs.tail.headD .nilSl).num), (.int .i64 (((tls 0 vs).headD .nilSl).subs.tail.tail.headD .nilSl).num), (.bool (((tls 0 vs).headD .nilSl).subs.tail.tail.tail.headD .nilSl).tru)]), (.agg [(.int .i64 (((tls 1 vs).headD .nilSl).subs.headD .nilSl).num), (.int .i64 (((tls 1 vs).headD .nilSl).subs.tail.headD .nilSl).num), (.int .i64 (((tls 1 vs).headD .nilSl).subs.tail.tail.headD .nilSl).num), (.bool (((tls 1 vs).headD .nilSl).subs.tail.tail.tail.headD .nilSl).tru)])] := by kernel_rfl
  rw [← Shp.buildL_eq _ h, e]
  exact fe_env_Num_Div _ _ _ _ _ _ _ _ r hr

open Classical in
noncomputable def go_env_Num_Root (av : Int) (al : Int) (ah : Int) (ab : Bool) : Option (Int × Int × Int × Bool) := if i64N (⟨av, al, ah, ab⟩ : Nm) then some ((nRoot (⟨av, al, ah, ab⟩ : Nm)).v, (nRoot (⟨av, al, ah, ab⟩ : Nm)).lo, (nRoot (⟨av, al, ah, ab⟩ : Nm)).hi, (nRoot (⟨av, al, ah, ab⟩ : Nm)).bad) else none
def em_env_Num_Root (r : (Int × Int × Int × Bool)) : PV := (.agg [(.int .i64 r.1), (.int .i64 r.2.1), (.int .i64 r.2.2.1), (.bool r.2.2.2)])
def as_env_Num_Root : List Shp := [(.agg [(.int .i64), (.int .i64), (.int .i64), .bool])]
noncomputable def ga_env_Num_Root (vs : List PV) : Option (Int × Int × Int × Bool) := go_env_Num_Root (((tls 0 vs).headD .nilSl).subs.headD .nilSl).num (((tls 0 vs).headD .nilSl).subs.tail.headD .nilSl).num (((tls 0 vs).headD .nilSl).subs.tail.tail.headD .nilSl).num (((tls 0 vs).headD .nilSl).subs.tail.tail.tail.headD .nilSl).tru
theorem fe_env_Num_Root (av : Int) (al : Int) (ah : Int) (ab : Bool) (r : (Int × Int × Int × Bool)) (hr : go_env_Num_Root av al ah ab = some r) : FunEq Try.prog GG 60 [(.agg [(.int .i64 av), (.int .i64 al), (.int .i64 ah), (.bool ab)])] (em_env_Num_Root r) := by
  unfold go_env_Num_Root at hr
  split at hr
  · rename_i h
    cases hr
    exact fn_Num_Root GG (⟨av, al, ah, ab⟩ : Nm) h
  · cases hr
theorem at_env_Num_Root : FnAt Try.prog GG 60 as_env_Num_Root ga_env_Num_Root em_env_Num_Root := fun vs h r hr => by
  have e : Shp.buildL as_env_Num_Root vs = [(.agg [(.int .i64 (((tls 0 vs).headD .nilSl).subs.headD .nilSl).num), (.int .i64 (((tls 0 vs).headD .nilSl).subs.tail.headD .nilSl).num), (.int .i64 (((tls 0 vs).headD .nilSl).subs.tail.tail.headD .nilSl).num), (.bool (((tls 0 vs).headD .nilSl).subs.tail.tail.tail.headD .nilSl).tru)])] := by kernel_rfl
  rw [← Shp.buildL_eq _ h, e]
  exact fe_env_Num_Root _ _ _ _ r hr

open Classical in
noncomputable def go_env_Num_Neg (av : Int) (al : Int) (ah : Int) (ab : Bool) : Option (Int × Int × Int × Bool) := if i64N (⟨av, al, ah, ab⟩ : Nm) then some ((nSub (point 0) (⟨av, al, ah, ab⟩ : Nm)).v, (nSub (point 0) (⟨av, al, ah, ab⟩ : Nm)).lo, (nSub (point 0) (⟨av, al, ah, ab⟩ : Nm)).hi, (nSub (point 0) (⟨av, al, ah, ab⟩ : Nm)).bad) else none
def em_env_Num_Neg (r : (Int × Int × Int × Bool)) : PV := (.agg [(.int .i64 r.1), (.int .i64 r.2.1), (.int .i64 r.2.2.1), (.bool r.2.2.2)])
def as_env_Num_Neg : List Shp := [(.agg [(.int .i64), (.int .i64), (.int .i64), .bool])]
noncomputable def ga_env_Num_Neg (vs : List PV) : Option (Int × Int × Int × Bool) := go_env_Num_Neg (((tls 0 vs).headD .nilSl).subs.headD .nilSl).num (((tls 0 vs).headD .nilSl).subs.tail.headD .nilSl).num (((tls 0 vs).headD .nilSl).subs.tail.tail.headD .nilSl).num (((tls 0 vs).headD .nilSl).subs.tail.tail.tail.headD .nilSl).tru
theorem fe_env_Num_Neg (av : Int) (al : Int) (ah : Int) (ab : Bool) (r : (Int × Int × Int × Bool)) (hr : go_env_Num_Neg av al ah ab = some r) : FunEq Try.prog GG 40 [(.agg [(.int .i64 av), (.int .i64 al), (.int .i64 ah), (.bool ab)])] (em_env_Num_Neg r) := by
  unfold go_env_Num_Neg at hr
  split at hr
  · rename_i h
    cases hr
    exact fn_Num_Neg GG (⟨av, al, ah, ab⟩ : Nm) h
  · cases hr
theorem at_env_Num_Neg : FnAt Try.prog GG 40 as_env_Num_Neg ga_env_Num_Neg em_env_Num_Neg := fun vs h r hr => by
  have e : Shp.buildL as_env_Num_Neg vs = [(.agg [(.int .i64 (((tls 0 vs).headD .nilSl).subs.headD .nilSl).num), (.int .i64 (((tls 0 vs).headD .nilSl).subs.tail.headD .nilSl).num), (.int .i64 (((tls 0 vs).headD .nilSl).subs.tail.tail.headD .nilSl).num), (.bool (((tls 0 vs).headD .nilSl).subs.tail.tail.tail.headD .nilSl).tru)])] := by kernel_rfl
  rw [← Shp.buildL_eq _ h, e]
  exact fe_env_Num_Neg _ _ _ _ r hr

open Classical in
noncomputable def go_env_Num_Of (av : Int) (al : Int) (ah : Int) (ab : Bool) (n : Int) : Option (Int × Int × Int × Bool) := if i64 n then some ((nOf n).v, (nOf n).lo, (nOf n).hi, (nOf n).bad) else none
def em_env_Num_Of (r : (Int × Int × Int × Bool)) : PV := (.agg [(.int .i64 r.1), (.int .i64 r.2.1), (.int .i64 r.2.2.1), (.bool r.2.2.2)])
def as_env_Num_Of : List Shp := [(.agg [(.int .i64), (.int .i64), (.int .i64), .bool]), (.int .i64)]
noncomputable def ga_env_Num_Of (vs : List PV) : Option (Int × Int × Int × Bool) := go_env_Num_Of (((tls 0 vs).headD .nilSl).subs.headD .nilSl).num (((tls 0 vs).headD .nilSl).subs.tail.headD .nilSl).num (((tls 0 vs).headD .nilSl).subs.tail.tail.headD .nilSl).num (((tls 0 vs).headD .nilSl).subs.tail.tail.tail.headD .nilSl).tru ((tls 1 vs).headD .nilSl).num
theorem fe_env_Num_Of (av : Int) (al : Int) (ah : Int) (ab : Bool) (n : Int) (r : (Int × Int × Int × Bool)) (hr : go_env_Num_Of av al ah ab n = some r) : FunEq Try.prog GG 37 [(.agg [(.int .i64 av), (.int .i64 al), (.int .i64 ah), (.bool ab)]), (.int .i64 n)] (em_env_Num_Of r) := by
  unfold go_env_Num_Of at hr
  split at hr
  · rename_i h
    cases hr
    exact fn_Num_Of GG (⟨av, al, ah, ab⟩ : Nm) n h
  · cases hr
theorem at_env_Num_Of : FnAt Try.prog GG 37 as_env_Num_Of ga_env_Num_Of em_env_Num_Of := fun vs h r hr => by
  have e : Shp.buildL as_env_Num_Of vs = [(.agg [(.int .i64 (((tls 0 vs).headD .nilSl).subs.headD .nilSl).num), (.int .i64 (((tls 0 vs).headD .nilSl).subs.tail.headD .nilSl).num), (.int .i64 (((tls 0 vs).headD .nilSl).subs.tail.tail.headD .nilSl).num), (.bool (((tls 0 vs).headD .nilSl).subs.tail.tail.tail.headD .nilSl).tru)]), (.int .i64 ((tls 1 vs).headD .nilSl).num)] := by kernel_rfl
  rw [← Shp.buildL_eq _ h, e]
  exact fe_env_Num_Of _ _ _ _ _ r hr

open Classical in
noncomputable def go_env_Num_Sign (av : Int) (al : Int) (ah : Int) (ab : Bool) : Option Int := some (nSign (⟨av, al, ah, ab⟩ : Nm))
def em_env_Num_Sign (r : Int) : PV := (.int .i64 r)
def as_env_Num_Sign : List Shp := [(.agg [(.int .i64), (.int .i64), (.int .i64), .bool])]
noncomputable def ga_env_Num_Sign (vs : List PV) : Option Int := go_env_Num_Sign (((tls 0 vs).headD .nilSl).subs.headD .nilSl).num (((tls 0 vs).headD .nilSl).subs.tail.headD .nilSl).num (((tls 0 vs).headD .nilSl).subs.tail.tail.headD .nilSl).num (((tls 0 vs).headD .nilSl).subs.tail.tail.tail.headD .nilSl).tru
theorem fe_env_Num_Sign (av : Int) (al : Int) (ah : Int) (ab : Bool) (r : Int) (hr : go_env_Num_Sign av al ah ab = some r) : FunEq Try.prog GG 38 [(.agg [(.int .i64 av), (.int .i64 al), (.int .i64 ah), (.bool ab)])] (em_env_Num_Sign r) := by
  unfold go_env_Num_Sign at hr
  cases hr
  exact fn_Num_Sign GG (⟨av, al, ah, ab⟩ : Nm)
theorem at_env_Num_Sign : FnAt Try.prog GG 38 as_env_Num_Sign ga_env_Num_Sign em_env_Num_Sign := fun vs h r hr => by
  have e : Shp.buildL as_env_Num_Sign vs = [(.agg [(.int .i64 (((tls 0 vs).headD .nilSl).subs.headD .nilSl).num), (.int .i64 (((tls 0 vs).headD .nilSl).subs.tail.headD .nilSl).num), (.int .i64 (((tls 0 vs).headD .nilSl).subs.tail.tail.headD .nilSl).num), (.bool (((tls 0 vs).headD .nilSl).subs.tail.tail.tail.headD .nilSl).tru)])] := by kernel_rfl
  rw [← Shp.buildL_eq _ h, e]
  exact fe_env_Num_Sign _ _ _ _ r hr

open Classical in
noncomputable def go_coupletlaw03_Given (av : Int) (al : Int) (ah : Int) (ab : Bool) : Option (Int × Int × Int × Bool) := some (((⟨av, al, ah, ab⟩ : Nm)).v, ((⟨av, al, ah, ab⟩ : Nm)).lo, ((⟨av, al, ah, ab⟩ : Nm)).hi, ((⟨av, al, ah, ab⟩ : Nm)).bad)
def em_coupletlaw03_Given (r : (Int × Int × Int × Bool)) : PV := (.agg [(.int .i64 r.1), (.int .i64 r.2.1), (.int .i64 r.2.2.1), (.bool r.2.2.2)])
def as_coupletlaw03_Given : List Shp := [(.agg [(.int .i64), (.int .i64), (.int .i64), .bool])]
noncomputable def ga_coupletlaw03_Given (vs : List PV) : Option (Int × Int × Int × Bool) := go_coupletlaw03_Given (((tls 0 vs).headD .nilSl).subs.headD .nilSl).num (((tls 0 vs).headD .nilSl).subs.tail.headD .nilSl).num (((tls 0 vs).headD .nilSl).subs.tail.tail.headD .nilSl).num (((tls 0 vs).headD .nilSl).subs.tail.tail.tail.headD .nilSl).tru
theorem fe_coupletlaw03_Given (av : Int) (al : Int) (ah : Int) (ab : Bool) (r : (Int × Int × Int × Bool)) (hr : go_coupletlaw03_Given av al ah ab = some r) : FunEq Try.prog GG 39 [(.agg [(.int .i64 av), (.int .i64 al), (.int .i64 ah), (.bool ab)])] (em_coupletlaw03_Given r) := by
  unfold go_coupletlaw03_Given at hr
  cases hr
  exact fn_Given GG (⟨av, al, ah, ab⟩ : Nm)
theorem at_coupletlaw03_Given : FnAt Try.prog GG 39 as_coupletlaw03_Given ga_coupletlaw03_Given em_coupletlaw03_Given := fun vs h r hr => by
  have e : Shp.buildL as_coupletlaw03_Given vs = [(.agg [(.int .i64 (((tls 0 vs).headD .nilSl).subs.headD .nilSl).num), (.int .i64 (((tls 0 vs).headD .nilSl).subs.tail.headD .nilSl).num), (.int .i64 (((tls 0 vs).headD .nilSl).subs.tail.tail.headD .nilSl).num), (.bool (((tls 0 vs).headD .nilSl).subs.tail.tail.tail.headD .nilSl).tru)])] := by kernel_rfl
  rw [← Shp.buildL_eq _ h, e]
  exact fe_coupletlaw03_Given _ _ _ _ r hr

open Classical in
noncomputable def go_env_Point (n : Int) : Option (Int × Int × Int × Bool) := some ((point n).v, (point n).lo, (point n).hi, (point n).bad)
def em_env_Point (r : (Int × Int × Int × Bool)) : PV := (.agg [(.int .i64 r.1), (.int .i64 r.2.1), (.int .i64 r.2.2.1), (.bool r.2.2.2)])
def as_env_Point : List Shp := [(.int .i64)]
noncomputable def ga_env_Point (vs : List PV) : Option (Int × Int × Int × Bool) := go_env_Point ((tls 0 vs).headD .nilSl).num
theorem fe_env_Point (n : Int) (r : (Int × Int × Int × Bool)) (hr : go_env_Point n = some r) : FunEq Try.prog GG 35 [(.int .i64 n)] (em_env_Point r) := by
  unfold go_env_Point at hr
  cases hr
  exact fn_Point GG n
theorem at_env_Point : FnAt Try.prog GG 35 as_env_Point ga_env_Point em_env_Point := fun vs h r hr => by
  have e : Shp.buildL as_env_Point vs = [(.int .i64 ((tls 0 vs).headD .nilSl).num)] := by kernel_rfl
  rw [← Shp.buildL_eq _ h, e]
  exact fe_env_Point _ r hr

open Classical in
noncomputable def go_env_Wrong : Option (Int × Int × Int × Bool) := some ((wrong).v, (wrong).lo, (wrong).hi, (wrong).bad)
def em_env_Wrong (r : (Int × Int × Int × Bool)) : PV := (.agg [(.int .i64 r.1), (.int .i64 r.2.1), (.int .i64 r.2.2.1), (.bool r.2.2.2)])
def as_env_Wrong : List Shp := []
noncomputable def ga_env_Wrong (vs : List PV) : Option (Int × Int × Int × Bool) := go_env_Wrong 
theorem fe_env_Wrong (r : (Int × Int × Int × Bool)) (hr : go_env_Wrong  = some r) : FunEq Try.prog GG 36 [] (em_env_Wrong r) := by
  unfold go_env_Wrong at hr
  cases hr
  exact fn_Wrong GG
theorem at_env_Wrong : FnAt Try.prog GG 36 as_env_Wrong ga_env_Wrong em_env_Wrong := fun vs h r hr => by
  have e : Shp.buildL as_env_Wrong vs = [] := by kernel_rfl
  rw [← Shp.buildL_eq _ h, e]
  exact fe_env_Wrong  r hr

open Classical in
noncomputable def go_env_Num_Fine (av : Int) (al : Int) (ah : Int) (ab : Bool) : Option Bool := some (fine (⟨av, al, ah, ab⟩ : Nm))
def em_env_Num_Fine (r : Bool) : PV := (.bool r)
def as_env_Num_Fine : List Shp := [(.agg [(.int .i64), (.int .i64), (.int .i64), .bool])]
noncomputable def ga_env_Num_Fine (vs : List PV) : Option Bool := go_env_Num_Fine (((tls 0 vs).headD .nilSl).subs.headD .nilSl).num (((tls 0 vs).headD .nilSl).subs.tail.headD .nilSl).num (((tls 0 vs).headD .nilSl).subs.tail.tail.headD .nilSl).num (((tls 0 vs).headD .nilSl).subs.tail.tail.tail.headD .nilSl).tru
theorem fe_env_Num_Fine (av : Int) (al : Int) (ah : Int) (ab : Bool) (r : Bool) (hr : go_env_Num_Fine av al ah ab = some r) : FunEq Try.prog GG 47 [(.agg [(.int .i64 av), (.int .i64 al), (.int .i64 ah), (.bool ab)])] (em_env_Num_Fine r) := by
  unfold go_env_Num_Fine at hr
  cases hr
  exact fn_Fine GG (⟨av, al, ah, ab⟩ : Nm)
theorem at_env_Num_Fine : FnAt Try.prog GG 47 as_env_Num_Fine ga_env_Num_Fine em_env_Num_Fine := fun vs h r hr => by
  have e : Shp.buildL as_env_Num_Fine vs = [(.agg [(.int .i64 (((tls 0 vs).headD .nilSl).subs.headD .nilSl).num), (.int .i64 (((tls 0 vs).headD .nilSl).subs.tail.headD .nilSl).num), (.int .i64 (((tls 0 vs).headD .nilSl).subs.tail.tail.headD .nilSl).num), (.bool (((tls 0 vs).headD .nilSl).subs.tail.tail.tail.headD .nilSl).tru)])] := by kernel_rfl
  rw [← Shp.buildL_eq _ h, e]
  exact fe_env_Num_Fine _ _ _ _ r hr

open Classical in
noncomputable def go_env_Meet (av : Int) (al : Int) (ah : Int) (ab : Bool) (bv : Int) (bl : Int) (bh : Int) (bb : Bool) : Option Bool := some (meet (⟨av, al, ah, ab⟩ : Nm) (⟨bv, bl, bh, bb⟩ : Nm))
def em_env_Meet (r : Bool) : PV := (.bool r)
def as_env_Meet : List Shp := [(.agg [(.int .i64), (.int .i64), (.int .i64), .bool]), (.agg [(.int .i64), (.int .i64), (.int .i64), .bool])]
noncomputable def ga_env_Meet (vs : List PV) : Option Bool := go_env_Meet (((tls 0 vs).headD .nilSl).subs.headD .nilSl).num (((tls 0 vs).headD .nilSl).subs.tail.headD .nilSl).num (((tls 0 vs).headD .nilSl).subs.tail.tail.headD .nilSl).num (((tls 0 vs).headD .nilSl).subs.tail.tail.tail.headD .nilSl).tru (((tls 1 vs).headD .nilSl).subs.headD .nilSl).num (((tls 1 vs).headD .nilSl).subs.tail.headD .nilSl).num (((tls 1 vs).headD .nilSl).subs.tail.tail.headD .nilSl).num (((tls 1 vs).headD .nilSl).subs.tail.tail.tail.headD .nilSl).tru
theorem fe_env_Meet (av : Int) (al : Int) (ah : Int) (ab : Bool) (bv : Int) (bl : Int) (bh : Int) (bb : Bool) (r : Bool) (hr : go_env_Meet av al ah ab bv bl bh bb = some r) : FunEq Try.prog GG 48 [(.agg [(.int .i64 av), (.int .i64 al), (.int .i64 ah), (.bool ab)]), (.agg [(.int .i64 bv), (.int .i64 bl), (.int .i64 bh), (.bool bb)])] (em_env_Meet r) := by
  unfold go_env_Meet at hr
  cases hr
  exact fn_Meet GG (⟨av, al, ah, ab⟩ : Nm) (⟨bv, bl, bh, bb⟩ : Nm)
theorem at_env_Meet : FnAt Try.prog GG 48 as_env_Meet ga_env_Meet em_env_Meet := fun vs h r hr => by
  have e : Shp.buildL as_env_Meet vs = [(.agg [(.int .i64 (((tls 0 vs).headD .nilSl).subs.headD .nilSl).num), (.int .i64 (((tls 0 vs).headD .nilSl).subs.tail.headD .nilSl).num), (.int .i64 (((tls 0 vs).headD .nilSl).subs.tail.tail.headD .nilSl).num), (.bool (((tls 0 vs).headD .nilSl).subs.tail.tail.tail.headD .nilSl).tru)]), (.agg [(.int .i64 (((tls 1 vs).headD .nilSl).subs.headD .nilSl).num), (.int .i64 (((tls 1 vs).headD .nilSl).subs.tail.headD .nilSl).num), (.int .i64 (((tls 1 vs).headD .nilSl).subs.tail.tail.headD .nilSl).num), (.bool (((tls 1 vs).headD .nilSl).subs.tail.tail.tail.headD .nilSl).tru)])] := by kernel_rfl
  rw [← Shp.buildL_eq _ h, e]
  exact fe_env_Meet _ _ _ _ _ _ _ _ r hr

open Classical in
noncomputable def go_env_Encloses (av : Int) (al : Int) (ah : Int) (ab : Bool) (n : Int) (d : Int) : Option Bool := if i64N (⟨av, al, ah, ab⟩ : Nm) ∧ i64 n ∧ i64 d then some (enc (⟨av, al, ah, ab⟩ : Nm) n d) else none
def em_env_Encloses (r : Bool) : PV := (.bool r)
def as_env_Encloses : List Shp := [(.agg [(.int .i64), (.int .i64), (.int .i64), .bool]), (.int .i64), (.int .i64)]
noncomputable def ga_env_Encloses (vs : List PV) : Option Bool := go_env_Encloses (((tls 0 vs).headD .nilSl).subs.headD .nilSl).num (((tls 0 vs).headD .nilSl).subs.tail.headD .nilSl).num (((tls 0 vs).headD .nilSl).subs.tail.tail.headD .nilSl).num (((tls 0 vs).headD .nilSl).subs.tail.tail.tail.headD .nilSl).tru ((tls 1 vs).headD .nilSl).num ((tls 2 vs).headD .nilSl).num
theorem fe_env_Encloses (av : Int) (al : Int) (ah : Int) (ab : Bool) (n : Int) (d : Int) (r : Bool) (hr : go_env_Encloses av al ah ab n d = some r) : FunEq Try.prog GG 46 [(.agg [(.int .i64 av), (.int .i64 al), (.int .i64 ah), (.bool ab)]), (.int .i64 n), (.int .i64 d)] (em_env_Encloses r) := by
  unfold go_env_Encloses at hr
  split at hr
  · rename_i h
    cases hr
    exact fn_Encloses GG (⟨av, al, ah, ab⟩ : Nm) n d h.1 h.2.1 h.2.2
  · cases hr
theorem at_env_Encloses : FnAt Try.prog GG 46 as_env_Encloses ga_env_Encloses em_env_Encloses := fun vs h r hr => by
  have e : Shp.buildL as_env_Encloses vs = [(.agg [(.int .i64 (((tls 0 vs).headD .nilSl).subs.headD .nilSl).num), (.int .i64 (((tls 0 vs).headD .nilSl).subs.tail.headD .nilSl).num), (.int .i64 (((tls 0 vs).headD .nilSl).subs.tail.tail.headD .nilSl).num), (.bool (((tls 0 vs).headD .nilSl).subs.tail.tail.tail.headD .nilSl).tru)]), (.int .i64 ((tls 1 vs).headD .nilSl).num), (.int .i64 ((tls 2 vs).headD .nilSl).num)] := by kernel_rfl
  rw [← Shp.buildL_eq _ h, e]
  exact fe_env_Encloses _ _ _ _ _ _ r hr

open Classical in
noncomputable def go_coupletlaw03_awake : Option Bool := some (true)
def em_coupletlaw03_awake (r : Bool) : PV := (.bool r)
def as_coupletlaw03_awake : List Shp := []
noncomputable def ga_coupletlaw03_awake (vs : List PV) : Option Bool := go_coupletlaw03_awake 
theorem fe_coupletlaw03_awake (r : Bool) (hr : go_coupletlaw03_awake  = some r) : FunEq Try.prog GG 42 [] (em_coupletlaw03_awake r) := by
  unfold go_coupletlaw03_awake at hr
  cases hr
  exact fn_awake3 GG
theorem at_coupletlaw03_awake : FnAt Try.prog GG 42 as_coupletlaw03_awake ga_coupletlaw03_awake em_coupletlaw03_awake := fun vs h r hr => by
  have e : Shp.buildL as_coupletlaw03_awake vs = [] := by kernel_rfl
  rw [← Shp.buildL_eq _ h, e]
  exact fe_coupletlaw03_awake  r hr
end Go.Proofs
