/-
  Fx, part 16: shapes of values and of states: what is in them, and that they are built of it again.
-/
import Derived.Test.YtlfffpkfipdboaaDoorFxEv
set_option linter.unusedSimpArgs false
set_option linter.unusedVariables false
namespace Go.Fx
def tls {α : Type} : Nat → List α → List α
  | 0, l => l
  | n + 1, l => (tls n l).tail
def PV.num : PV → Int
  | .int _ n => n
  | _ => 0
def PV.tru : PV → Bool
  | .bool b => b
  | _ => false
def PV.chars : PV → List Int
  | .str l => l
  | _ => []
def PV.ints : PV → List Int
  | .isl _ _ _ l => l
  | .iref _ l _ => l
  | _ => []
def PV.nl : PV → Bool
  | .isl b _ _ _ => b
  | .sl b _ _ _ => b
  | _ => false
def PV.ex : PV → Bool
  | .isl _ b _ _ => b
  | .sl _ b _ _ => b
  | _ => false
def PV.elts : PV → List PV
  | .sl _ _ _ es => es
  | .elt _ es _ _ => es
  | _ => []
def PV.idx : PV → Nat
  | .iref _ _ i => i
  | .elt _ _ i _ => i
  | _ => 0
def PV.subs : PV → List PV
  | .agg cs => cs
  | .tup cs => cs
  | .fn _ cs => cs
  | .ref _ cs => cs
  | _ => []
/-- The shape of a persistent value. -/
inductive Shp where
  | int (k : IntKind)
  | bool
  | str
  | isl (k : IntKind)
  | sl (w : Nat)
  | iref (k : IntKind)
  | elt (w o : Nat)
  | ref (off : Nat) (cs : List Shp)
  | fn (f : FuncId) (cs : List Shp)
  | nilSl | nilFn | nilIface | nilPtr | nilMap
  | agg (cs : List Shp)
  | tup (cs : List Shp)
  | raw
mutual
def Shp.build : Shp → PV → PV
  | .int k, y => .int k y.num
  | .bool, y => .bool y.tru
  | .str, y => .str y.chars
  | .isl k, y => .isl y.nl y.ex k y.ints
  | .sl w, y => .sl y.nl y.ex w y.elts
  | .iref k, y => .iref k y.ints y.idx
  | .elt w o, y => .elt w y.elts y.idx o
  | .ref off cs, y => .ref off (Shp.buildL cs y.subs)
  | .fn f cs, y => .fn f (Shp.buildL cs y.subs)
  | .nilSl, _ => .nilSl
  | .nilFn, _ => .nilFn
  | .nilIface, _ => .nilIface
  | .nilPtr, _ => .nilPtr
  | .nilMap, _ => .nilMap
  | .agg cs, y => .agg (Shp.buildL cs y.subs)
  | .tup cs, y => .tup (Shp.buildL cs y.subs)
  | .raw, y => y
def Shp.buildL : List Shp → List PV → List PV
  | [], _ => []
  | s :: ss, ys => s.build (ys.headD .nilSl) :: Shp.buildL ss ys.tail
end
mutual
def Shp.ok : Shp → PV → Bool
  | .int k, .int k' _ => decide (k' = k)
  | .bool, .bool _ => true
  | .str, .str _ => true
  | .isl k, .isl _ _ k' _ => decide (k' = k)
  | .sl w, .sl _ _ w' _ => w' == w
  | .iref k, .iref k' _ _ => decide (k' = k)
  | .elt w o, .elt w' _ _ o' => w' == w && o' == o
  | .ref off cs, .ref off' ys => off' == off && Shp.okL cs ys
  | .fn f cs, .fn f' ys => f' == f && Shp.okL cs ys
  | .nilSl, .nilSl => true
  | .nilFn, .nilFn => true
  | .nilIface, .nilIface => true
  | .nilPtr, .nilPtr => true
  | .nilMap, .nilMap => true
  | .agg cs, .agg ys => Shp.okL cs ys
  | .tup cs, .tup ys => Shp.okL cs ys
  | .raw, _ => true
  | _, _ => false
def Shp.okL : List Shp → List PV → Bool
  | [], [] => true
  | s :: ss, y :: ys => s.ok y && Shp.okL ss ys
  | _, _ => false
end
mutual
theorem Shp.build_eq : ∀ (s : Shp) {y : PV}, s.ok y = true → s.build y = y
  | .int k, y, h => by cases y <;> simp [Shp.ok] at h; subst h; rfl
  | .bool, y, h => by cases y <;> simp [Shp.ok] at h; rfl
  | .str, y, h => by cases y <;> simp [Shp.ok] at h; rfl
  | .isl k, y, h => by cases y <;> simp [Shp.ok] at h; subst h; rfl
  | .sl w, y, h => by cases y <;> simp [Shp.ok] at h; subst h; rfl
  | .iref k, y, h => by cases y <;> simp [Shp.ok] at h; subst h; rfl
  | .elt w o, y, h => by
    cases y <;> simp [Shp.ok] at h
    obtain ⟨rfl, rfl⟩ := h; rfl
  | .ref off cs, y, h => by
    cases y <;> simp only [Shp.ok, Bool.and_eq_true, beq_iff_eq] at h <;> first | contradiction | skip
    obtain ⟨rfl, h⟩ := h
    simp only [Shp.build, PV.subs, Shp.buildL_eq cs h]
  | .fn f cs, y, h => by
    cases y <;> simp only [Shp.ok, Bool.and_eq_true, beq_iff_eq] at h <;> first | contradiction | skip
    obtain ⟨rfl, h⟩ := h
    simp only [Shp.build, PV.subs, Shp.buildL_eq cs h]
  | .nilSl, y, h => by cases y <;> simp [Shp.ok] at h; rfl
  | .nilFn, y, h => by cases y <;> simp [Shp.ok] at h; rfl
  | .nilIface, y, h => by cases y <;> simp [Shp.ok] at h; rfl
  | .nilPtr, y, h => by cases y <;> simp [Shp.ok] at h; rfl
  | .nilMap, y, h => by cases y <;> simp [Shp.ok] at h; rfl
  | .agg cs, y, h => by
    cases y <;> simp only [Shp.ok] at h <;> first | contradiction | skip
    simp only [Shp.build, PV.subs, Shp.buildL_eq cs h]
  | .tup cs, y, h => by
    cases y <;> simp only [Shp.ok] at h <;> first | contradiction | skip
    simp only [Shp.build, PV.subs, Shp.buildL_eq cs h]
  | .raw, y, h => rfl
theorem Shp.buildL_eq : ∀ (ss : List Shp) {ys : List PV}, Shp.okL ss ys = true → Shp.buildL ss ys = ys
  | [], ys, h => by cases ys <;> simp [Shp.okL] at h; rfl
  | s :: ss, ys, h => by
    cases ys with
    | nil => simp [Shp.okL] at h
    | cons y ys =>
      simp only [Shp.okL, Bool.and_eq_true] at h
      simp only [Shp.buildL, List.headD_cons, List.tail_cons, Shp.build_eq s h.1, Shp.buildL_eq ss h.2]
end
/-! ### States -/
inductive SSh where
  | p (s : Shp)
  | row (id : Nat)
  | ptr (id off : Nat)
  | rptr (id w o : Nat)
  | mp (id : Nat)
  | agg (cs : List SSh)
  | tup (cs : List SSh)
  | fn (f : FuncId) (cs : List SSh)
  | any
def SV.pv : SV → PV
  | .p y => y
  | _ => .nilSl
def SV.idx : SV → Nat
  | .rptr _ _ i _ => i
  | _ => 0
def SV.subs : SV → List SV
  | .agg cs => cs
  | .tup cs => cs
  | .fn _ cs => cs
  | _ => []
mutual
def SSh.build : SSh → SV → SV
  | .p s, x => .p (s.build x.pv)
  | .row id, _ => .row id
  | .ptr id off, _ => .ptr id off
  | .rptr id w o, x => .rptr id w x.idx o
  | .mp id, _ => .mp id
  | .agg cs, x => .agg (SSh.buildL cs x.subs)
  | .tup cs, x => .tup (SSh.buildL cs x.subs)
  | .fn f cs, x => .fn f (SSh.buildL cs x.subs)
  | .any, _ => .any
def SSh.buildL : List SSh → List SV → List SV
  | [], _ => []
  | s :: ss, ys => s.build (ys.headD .any) :: SSh.buildL ss ys.tail
end
mutual
def SSh.ok : SSh → SV → Bool
  | .p s, .p y => s.ok y
  | .row id, .row id' => id' == id
  | .ptr id off, .ptr id' off' => id' == id && off' == off
  | .rptr id w o, .rptr id' w' _ o' => id' == id && (w' == w && o' == o)
  | .mp id, .mp id' => id' == id
  | .agg cs, .agg ys => SSh.okL cs ys
  | .tup cs, .tup ys => SSh.okL cs ys
  | .fn f cs, .fn f' ys => f' == f && SSh.okL cs ys
  | .any, .any => true
  | _, _ => false
def SSh.okL : List SSh → List SV → Bool
  | [], [] => true
  | s :: ss, y :: ys => s.ok y && SSh.okL ss ys
  | _, _ => false
end
mutual
theorem SSh.build_eq : ∀ (s : SSh) {y : SV}, s.ok y = true → s.build y = y
  | .p s, y, h => by
    cases y <;> simp only [SSh.ok] at h <;> first | contradiction | skip
    simp only [SSh.build, SV.pv, Shp.build_eq s h]
  | .row id, y, h => by cases y <;> simp [SSh.ok] at h; subst h; rfl
  | .ptr id off, y, h => by
    cases y <;> simp [SSh.ok] at h
    obtain ⟨rfl, rfl⟩ := h; rfl
  | .rptr id w o, y, h => by
    cases y <;> simp [SSh.ok] at h
    obtain ⟨rfl, rfl, rfl⟩ := h; rfl
  | .mp id, y, h => by cases y <;> simp [SSh.ok] at h; subst h; rfl
  | .agg cs, y, h => by
    cases y <;> simp only [SSh.ok] at h <;> first | contradiction | skip
    simp only [SSh.build, SV.subs, SSh.buildL_eq cs h]
  | .tup cs, y, h => by
    cases y <;> simp only [SSh.ok] at h <;> first | contradiction | skip
    simp only [SSh.build, SV.subs, SSh.buildL_eq cs h]
  | .fn f cs, y, h => by
    cases y <;> simp only [SSh.ok, Bool.and_eq_true, beq_iff_eq] at h <;> first | contradiction | skip
    obtain ⟨rfl, h⟩ := h
    simp only [SSh.build, SV.subs, SSh.buildL_eq cs h]
  | .any, y, h => by cases y <;> simp [SSh.ok] at h; rfl
theorem SSh.buildL_eq : ∀ (ss : List SSh) {ys : List SV}, SSh.okL ss ys = true → SSh.buildL ss ys = ys
  | [], ys, h => by cases ys <;> simp [SSh.okL] at h; rfl
  | s :: ss, ys, h => by
    cases ys with
    | nil => simp [SSh.okL] at h
    | cons y ys =>
      simp only [SSh.okL, Bool.and_eq_true] at h
      simp only [SSh.buildL, List.headD_cons, List.tail_cons, SSh.build_eq s h.1, SSh.buildL_eq ss h.2]
end
inductive OSh where
  | box (ty : TypeId) (cs : List SSh)
  | irow (ty : TypeId) (k : IntKind)
  | row (ty : TypeId) (w : Nat)
  | fro (s : Shp)
  | iter
  | gone
def OB.subs : OB → List SV
  | .box _ cs => cs
  | _ => []
def OB.pvD : OB → PV
  | .irow _ k nil ex l => .isl nil ex k l
  | .row _ w nil ex es => .sl nil ex w es
  | .fro x => x
  | .iter s pos => .iref .u8 s pos
  | _ => .nilSl
def OSh.build : OSh → OB → OB
  | .box ty cs, x => .box ty (SSh.buildL cs x.subs)
  | .irow ty k, x => .irow ty k x.pvD.nl x.pvD.ex x.pvD.ints
  | .row ty w, x => .row ty w x.pvD.nl x.pvD.ex x.pvD.elts
  | .fro s, x => .fro (s.build x.pvD)
  | .iter, x => .iter x.pvD.ints x.pvD.idx
  | .gone, _ => .gone
def OSh.ok : OSh → OB → Bool
  | .box ty cs, .box ty' ys => ty' == ty && SSh.okL cs ys
  | .irow ty k, .irow ty' k' _ _ _ => ty' == ty && decide (k' = k)
  | .row ty w, .row ty' w' _ _ _ => ty' == ty && w' == w
  | .fro s, .fro y => s.ok y
  | .iter, .iter _ _ => true
  | .gone, .gone => true
  | _, _ => false
theorem OSh.build_eq : ∀ (s : OSh) {y : OB}, s.ok y = true → s.build y = y
  | .box ty cs, y, h => by
    cases y <;> simp only [OSh.ok, Bool.and_eq_true, beq_iff_eq] at h <;> first | contradiction | skip
    obtain ⟨rfl, h⟩ := h
    simp only [OSh.build, OB.subs, SSh.buildL_eq cs h]
  | .irow ty k, y, h => by
    cases y <;> simp [OSh.ok] at h
    obtain ⟨rfl, rfl⟩ := h; rfl
  | .row ty w, y, h => by
    cases y <;> simp [OSh.ok] at h
    obtain ⟨rfl, rfl⟩ := h; rfl
  | .fro s, y, h => by
    cases y <;> simp only [OSh.ok] at h <;> first | contradiction | skip
    simp only [OSh.build, OB.pvD, Shp.build_eq s h]
  | .iter, y, h => by
    cases y <;> simp [OSh.ok] at h
    rfl
  | .gone, y, h => by cases y <;> simp [OSh.ok] at h; rfl
def OSh.buildL : List OSh → List OB → List OB
  | [], _ => []
  | s :: ss, ys => s.build (ys.headD .gone) :: OSh.buildL ss ys.tail
def OSh.okL : List OSh → List OB → Bool
  | [], [] => true
  | s :: ss, y :: ys => s.ok y && OSh.okL ss ys
  | _, _ => false
theorem OSh.buildL_eq : ∀ (ss : List OSh) {ys : List OB}, OSh.okL ss ys = true → OSh.buildL ss ys = ys
  | [], ys, h => by cases ys <;> simp [OSh.okL] at h; rfl
  | s :: ss, ys, h => by
    cases ys with
    | nil => simp [OSh.okL] at h
    | cons y ys =>
      simp only [OSh.okL, Bool.and_eq_true] at h
      simp only [OSh.buildL, List.headD_cons, List.tail_cons, OSh.build_eq s h.1, OSh.buildL_eq ss h.2]
/-- The slots' shapes: these, and the others unknown. -/
def slotSh : Nat → Nat → List (Nat × SSh) → List SSh
  | 0, _, _ => []
  | n + 1, k, [] => .any :: slotSh n (k + 1) []
  | n + 1, k, (i, x) :: r => match i == k with
    | true => x :: slotSh n (k + 1) r
    | false => .any :: slotSh n (k + 1) ((i, x) :: r)
/-- The shape of a state. -/
structure StSh where
  n : Nat
  ts : List (Nat × SSh)
  own : List OSh
def StSh.build (s : StSh) (S : St) : St := ⟨SSh.buildL (slotSh s.n 0 s.ts) S.t, OSh.buildL s.own S.own⟩
def StSh.ok (s : StSh) (S : St) : Bool := SSh.okL (slotSh s.n 0 s.ts) S.t && OSh.okL s.own S.own
theorem StSh.build_eq (s : StSh) {S : St} (h : s.ok S = true) : s.build S = S := by
  simp only [StSh.ok, Bool.and_eq_true] at h
  simp only [StSh.build, SSh.buildL_eq _ h.1, OSh.buildL_eq _ h.2]
end Go.Fx
