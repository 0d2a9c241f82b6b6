/-
  Fx, part 3: the code that is walked, in a plain form (IR), made of the model's code by a program; and what a walk over it asks (vc).
-/
import Derived.Test.YtlfffpkfipdboaaDoorFxSat
namespace Go.Fx
inductive Opd where
  | tmp (t : Nat)
  | c (x : PV)
  | glob (g : Nat)
  | func (f : FuncId)
  | unk
  deriving Inhabited
/-- What kind a plain cell is of. -/
inductive CK where
  | int (k : IntKind)
  | bool
  | str
/-- More operations: each is told by what it makes of the values and of the own things (fxT). -/
inductive FX where
  | mkR (elem : TypeId) (w bytes : Nat) (z : List PV) (x : Opd)
  | slcX (w : Nat) (x : Opd) (lo hi mx : Option Opd)
  | rngS (x : Opd)
  | nextS (x : Opd)
  | callM (f : FuncId) (args : List Opd)
  deriving Inhabited
inductive Ins where
  | mv (x : Opd)
  | pick (c a b : Opd)
  | alloc (ty : TypeId) (z : List PV)
  | box (ty : TypeId) (x : Opd)
  | ld (agg : Bool) (n : Nat) (a : Opd)
  | st (n : Nat) (a x : Opd)
  | bin (op : BinOp) (x y : Opd)
  | binB (neg : Bool) (x y : Opd)
  | binS (op : BinOp) (x y : Opd)
  | eqNil (neg : Bool) (x y : Opd)
  | eqAgg (neg : Bool) (ks : List CK) (x y : Opd)
  | eqNilF (neg : Bool) (x y : Opd)
  | un (op : UnOp) (x : Opd)
  | cvtI (k : IntKind) (x : Opd)
  | cvtBS (x : Opd)
  | cvtSS (x : Opd)
  | cvtRS (x : Opd)
  | insS (m k v : Opd)
  | lookS (z : PV) (m k : Opd)
  | mkS (elem : TypeId) (k : IntKind) (bytes : Nat) (x : Opd)
  | eqNilI (neg : Bool) (x : Opd)
  | cvtSB (elem : TypeId) (x : Opd)
  | mkFn (f : FuncId) (caps : List Opd)
  | build (z : List PV) (parts : List (Nat × Nat × Opd))
  | bsl (elem : TypeId) (ik : Option IntKind) (w : Nat) (parts : List Opd)
  | fldA (off : Nat) (x : Opd)
  | fld (agg : Bool) (off n : Nat) (x : Opd)
  | ixA (w : Nat) (x i : Opd)
  | ixArr (w len : Nat) (x i : Opd)
  | ixV (agg : Bool) (w len : Nat) (x i : Opd)
  | ixS (x i : Opd)
  | slc (w : Nat) (x : Opd) (lo hi mx : Option Opd)
  | slcS (x : Opd) (lo hi : Option Opd)
  | len (x : Opd)
  | lenS (x : Opd)
  | lenC (n : Nat)
  | app (elem : TypeId) (ik : Option IntKind) (w bytes : Nat) (x y : Opd)
  | ext (x : Opd) (i : Nat)
  | call (f : Opd) (args : List Opd)
  | callR (f : FuncId) (elem : TypeId) (a : Opd) (args : List Opd)
  | callN (f : FuncId) (elem : TypeId) (args : List Opd)
  | mkMap
  | ins (m k v : Opd)
  | look (z : PV) (m k : Opd)
  | maxs (args : List Opd)
  | mins (args : List Opd)
  | mkSl (elem : TypeId) (ik : Option IntKind) (w bytes : Nat) (z : List PV) (l c : Opd)
  | nilchk (x : Opd)
  | mkI (t : TypeId) (x : Opd)
  | callI (f : FuncId) (t : TypeId) (x : Opd) (args : List Opd)
  | fx (o : FX)
  | bad
  deriving Inhabited
structure IOp where
  dst : Option Nat
  io : Ins
  guard : Option (Nat × Bool)
  deriving Inhabited
/-- The orders of a region whose order is open: an operation that may come ahead of all others, or each of those that are ready. -/
inductive OT where
  | done
  | one (i : Nat) (t : OT)
  | alt (i : Nat) (t r : OT)
  | no
  deriving Inhabited
inductive IR where
  | skip
  | ops (draw : Bool) (l : List IOp)
  | any (t : OT) (l : List IOp)
  | seq (a b : IR)
  | cond (c : Opd) (thn els : IR)
  | block (id : Nat) (body : IR)
  | loop (live : List Nat) (body : IR)
  | rangeF (f : Opd) (params : List Nat) (assign body : IR)
  | exit (id : Nat)
  | scope (l : Nat) (body : IR)
  | label (l : Nat)
  | goto (l : Nat)
  | ret
  | bad
  deriving Inhabited
def PV.cells : PV → List PV
  | .agg cs => cs
  | .tup l => [.tup l]
  | .int k n => [.int k n]
  | .bool b => [.bool b]
  | .str l => [.str l]
  | .isl a b c d => [.isl a b c d]
  | .sl a b c d => [.sl a b c d]
  | .iref a b c => [.iref a b c]
  | .elt a b c d => [.elt a b c d]
  | .ref a b => [.ref a b]
  | .fn a b => [.fn a b]
  | .nilSl => [.nilSl]
  | .nilFn => [.nilFn]
  | .nilIface => [.nilIface]
  | .nilPtr => [.nilPtr]
  | .nilMap => [.nilMap]
  | .ifc a b => [.ifc a b]
def SV.cells : SV → List SV
  | .agg cs => cs
  | .p x => x.cells.map .p
  | .row a => [.row a]
  | .ptr a b => [.ptr a b]
  | .rptr a b c d => [.rptr a b c d]
  | .mp a => [.mp a]
  | .tup a => [.tup a]
  | .fn a b => [.fn a b]
  | .cnd a b => [.cnd a b]
  | .any => [.any]
/-- One cell's value: neither a struct nor a tuple, nor unknown. -/
def PV.scal : PV → Bool
  | .agg _ | .tup _ => false
  | .int .. | .bool _ | .str _ | .isl .. | .sl .. | .iref .. | .elt .. | .ref .. | .fn .. | .nilSl | .nilFn | .nilIface | .nilPtr | .nilMap | .ifc .. => true
def SV.scal : SV → Bool
  | .p x => x.scal
  | .agg _ | .tup _ | .cnd .. | .any => false
  | .row _ | .ptr .. | .rptr .. | .mp _ | .fn .. => true
/-- An own thing that was made persistent is seen as such. -/
def SV.res (own : List OB) : SV → SV
  | .row id => match own.getD id .gone with
    | .fro x => .p x
    | _ => .row id
  | .ptr id off => match own.getD id .gone with
    | .fro (.ref 0 cs) => .p (.ref off cs)
    | _ => .ptr id off
  | .p x => .p x
  | .rptr a b c d => .rptr a b c d
  | .mp a => .mp a
  | .agg a => .agg a
  | .tup a => .tup a
  | .fn a b => .fn a b
  | .cnd a b => .cnd a b
  | .any => .any
def SV.strip : SV → SV
  | .cnd _ x => x
  | .p x => .p x
  | .row a => .row a
  | .ptr a b => .ptr a b
  | .rptr a b c d => .rptr a b c d
  | .mp a => .mp a
  | .agg a => .agg a
  | .tup a => .tup a
  | .fn a b => .fn a b
  | .any => .any
def SV.sure : SV → Prop
  | .cnd b _ => b = true
  | .p _ | .row _ | .ptr .. | .rptr .. | .mp _ | .agg _ | .tup _ | .fn .. | .any => True
/-- An own entry as a persistent value (it may go on as it is, where nobody keeps it). -/
def OB.pv : OB → Option PV
  | .irow _ k nil ex l => some (.isl nil ex k l)
  | .row _ w nil ex es => some (.sl nil ex w es)
  | .fro x => some x
  | _ => none
mutual
/-- A value all of whose own things are persistent by now, as a persistent one. -/
def SV.pvS (own : List OB) : SV → Option PV
  | .p x => some x
  | .row id => match own.getD id .gone with
    | .fro x => some x
    | _ => none
  | .ptr id off => match own.getD id .gone with
    | .fro (.ref 0 cs) => some (.ref off cs)
    | _ => none
  | .agg cs => (SV.pvSL own cs).map .agg
  | .tup cs => (SV.pvSL own cs).map .tup
  | .fn f cs => (SV.pvSL own cs).map (.fn f)
  | _ => none
def SV.pvSL (own : List OB) : List SV → Option (List PV)
  | [] => some []
  | x :: xs => match x.pvS own, SV.pvSL own xs with
    | some y, some ys => some (y :: ys)
    | _, _ => none
end
/-- What an own row, or a persistent slice, holds now. -/
def SV.see (own : List OB) : SV → Option PV
  | .p x => some x
  | .row id => (own.getD id .gone).pv
  | _ => none
/-- The own things that a value names. -/
def SV.ids0 : SV → List Nat
  | .row id => [id]
  | .p _ | .ptr .. | .rptr .. | .mp _ | .agg _ | .tup _ | .fn .. | .cnd .. | .any => []
def boxIds : OB → List Nat
  | .box _ cs => cs.flatMap SV.ids0
  | .irow .. | .row .. | .fro _ | .map _ | .iter .. | .gone => []
def SV.ids1 (own : List OB) : SV → List Nat
  | .ptr id _ => boxIds (own.getD id .gone) ++ [id]
  | .row id => [id]
  | .p _ | .rptr .. | .mp _ | .agg _ | .tup _ | .fn .. | .cnd .. | .any => []
def SV.ids (own : List OB) : SV → List Nat
  | .agg cs => cs.flatMap SV.ids0
  | .tup cs => cs.flatMap SV.ids0
  | .fn _ cs => cs.flatMap (SV.ids1 own)
  | .ptr id _ => boxIds (own.getD id .gone) ++ [id]
  | .row id => [id]
  | .p _ | .rptr .. | .mp _ | .cnd .. | .any => []
/-- One own thing is made persistent. -/
def fz1 (own : List OB) (id : Nat) : List OB :=
  match own.getD id .gone with
  | .irow _ k nil ex l => own.set id (.fro (.isl nil ex k l))
  | .row _ w nil ex es => own.set id (.fro (.sl nil ex w es))
  | .box _ cs => match SV.pvSL own cs with
    | some ys => own.set id (.fro (.ref 0 ys))
    | none => own
  | _ => own
def fzL (own : List OB) (ids : List Nat) : List OB := ids.foldl fz1 own
mutual
/-- A value that leads to no memory. -/
def PV.flat : PV → Bool
  | .int .. | .bool _ | .str _ | .nilSl | .nilFn | .nilIface | .nilPtr | .nilMap => true
  | .agg cs => PV.flatL cs
  | .tup cs => PV.flatL cs
  | .fn _ cs => PV.flatL cs
  | _ => false
def PV.flatL : List PV → Bool
  | [] => true
  | x :: xs => x.flat && PV.flatL xs
end
/-! ### The pure operations: what they ask, and what they answer -/
def bAnd (k : IntKind) (a b : Int) : Int := (BitVec.ofInt k.bits a &&& BitVec.ofInt k.bits b).toNat
def bOr (k : IntKind) (a b : Int) : Int := (BitVec.ofInt k.bits a ||| BitVec.ofInt k.bits b).toNat
def bXor (k : IntKind) (a b : Int) : Int := (BitVec.ofInt k.bits a ^^^ BitVec.ofInt k.bits b).toNat
def bAndNot (k : IntKind) (a b : Int) : Int := (BitVec.ofInt k.bits a &&& ~~~BitVec.ofInt k.bits b).toNat
def binV (op : BinOp) (k : IntKind) (a b : Int) : Prop × PV :=
  match op with
  | .add => (True, .int k (k.wrap (a + b)))
  | .sub => (True, .int k (k.wrap (a - b)))
  | .mul => (True, .int k (k.wrap (a * b)))
  | .quo => (b ≠ 0, .int k (k.wrap (a.tdiv b)))
  | .rem => (b ≠ 0, .int k (a.tmod b))
  | .and => (True, .int k (k.wrap (bAnd k a b)))
  | .or => (True, .int k (k.wrap (bOr k a b)))
  | .xor => (True, .int k (k.wrap (bXor k a b)))
  | .andNot => (True, .int k (k.wrap (bAndNot k a b)))
  | .eql => (True, .bool (a == b))
  | .neq => (True, .bool (a != b))
  | .lss => (True, .bool (a < b))
  | .leq => (True, .bool (a ≤ b))
  | .gtr => (True, .bool (a > b))
  | .geq => (True, .bool (a ≥ b))
  | _ => (False, .nilSl)
def shV (op : BinOp) (k : IntKind) (a b : Int) : Prop × PV :=
  match op with
  | .shl => (0 ≤ b, .int k (k.wrap (a * 2 ^ (min b.toNat k.bits))))
  | _ => (0 ≤ b, .int k (a / 2 ^ (min b.toNat k.bits)))
def strV (op : BinOp) (a b : List Int) : Prop × PV :=
  match op with
  | .add => (a.length + b.length ≤ 4611686018427387904, .str (a ++ b))
  | .eql => (True, .bool (a == b))
  | .neq => (True, .bool (!(a == b)))
  | _ => (False, .nilSl)
def PV.isNil : PV → Option Bool
  | .isl nil _ _ _ => some nil
  | .sl nil _ _ _ => some nil
  | .nilSl | .nilFn | .nilIface | .nilPtr | .nilMap => some true
  | .fn .. | .iref .. | .elt .. | .ref .. => some false
  | _ => none
def OB.isNil : OB → Option Bool
  | .irow _ _ nil _ _ => some nil
  | .row _ _ nil _ _ => some nil
  | _ => none
def SV.isNil (own : List OB) : SV → Option Bool
  | .p x => x.isNil
  | .row id => (own.getD id .gone).isNil
  | .fn .. | .ptr .. => some false
  | _ => none
/-- Of a slice: whether it is nil. -/
def PV.isSl : PV → Option Bool
  | .isl nil _ _ _ => some nil
  | .sl nil _ _ _ => some nil
  | .nilSl => some true
  | _ => none
def SV.isSl (own : List OB) : SV → Option Bool
  | .p x => x.isSl
  | .row id => (own.getD id .gone).isNil
  | _ => none
/-- Whether two structs of plain cells are the same. -/
def eqCells : List CK → List PV → List PV → Option Bool
  | [], [], [] => some true
  | .int k :: ks, .int k1 a :: xs, .int k2 b :: ys => if k1 = k ∧ k2 = k then (eqCells ks xs ys).map fun r => a == b && r else none
  | .bool :: ks, .bool a :: xs, .bool b :: ys => (eqCells ks xs ys).map fun r => a == b && r
  | .str :: ks, .str a :: xs, .str b :: ys => (eqCells ks xs ys).map fun r => a == b && r
  | _, _, _ => none
/-- Of a function's value: whether it is nil. -/
def SV.fnNil : SV → Option Bool
  | .p .nilFn => some true
  | .p (.fn ..) => some false
  | .fn .. => some false
  | _ => none
def PV.ld (agg : Bool) (n : Nat) : PV → Prop × PV
  | .iref k l i => (agg = false ∧ i < l.length, .int k (l.getD i 0))
  | .elt w es i o => (i < es.length ∧ o + n ≤ w, if agg then .agg (((es.getD i .nilSl).cells.drop o).take n) else (es.getD i .nilSl).cells.getD o .nilSl)
  | .ref off cs => (off + n ≤ cs.length, if agg then .agg ((cs.drop off).take n) else cs.getD off .nilSl)
  | _ => (False, .nilSl)
def allP : List SV → Option (List PV)
  | [] => some []
  | .p x :: r => (allP r).map (x :: ·)
  | _ :: _ => none
/-- A struct of these cells. -/
def aggS (cs : List SV) : SV := match allP cs with
  | some xs => .p (.agg xs)
  | none => .agg cs
def SV.ld (own : List OB) (agg : Bool) (n : Nat) : SV → Prop × SV
  | .p x => ((x.ld agg n).1, .p (x.ld agg n).2)
  | .ptr id off => match own.getD id .gone with
    | .box _ cs => (off + n ≤ cs.length, if agg then aggS ((cs.drop off).take n) else cs.getD off .any)
    | _ => (False, .any)
  | .rptr id w i o => match own.getD id .gone with
    | .irow _ k _ _ l => (agg = false ∧ w = 1 ∧ o = 0 ∧ i < l.length, .p (.int k (l.getD i 0)))
    | .row _ w' _ _ es => (w = w' ∧ i < es.length ∧ o + n ≤ w, .p (if agg then .agg (((es.getD i .nilSl).cells.drop o).take n) else (es.getD i .nilSl).cells.getD o .nilSl))
    | _ => (False, .any)
  | _ => (False, .any)
def SV.mix (t : Bool) : SV → SV → SV
  | .p (.bool x), .p (.bool y) => .p (.bool (bif t then x else y))
  | x, y => bif t then x else y
def SV.num : SV → Option Int
  | .p (.int _ n) => some n
  | _ => none
/-- A slice expression's bounds, as numbers: low, high, the top. -/
def bnds (len : Nat) (lo hi mx : Option (Option Int)) : Option (Int × Int × Option Int) :=
  match lo, hi, mx with
  | none, none, none => some (0, len, none)
  | some (some l), none, none => some (l, len, none)
  | none, some (some h), none => some (0, h, none)
  | some (some l), some (some h), none => some (l, h, none)
  | none, some (some h), some (some m) => some (0, h, some m)
  | some (some l), some (some h), some (some m) => some (l, h, some m)
  | _, _, _ => none
def slcOk (len : Nat) : Option (Int × Int × Option Int) → Prop
  | some (l, h, none) => 0 ≤ l ∧ l ≤ h ∧ h ≤ len
  | some (l, h, some m) => 0 ≤ l ∧ l ≤ h ∧ h ≤ m ∧ m ≤ len
  | none => False
def slcEx (ex : Bool) (hi : Bool) : Option (Int × Int × Option Int) → Bool
  | some (_, h, some m) => h == m
  | some (_, _, none) => if hi then false else ex
  | none => false
def cutL {α : Type} (l : List α) : Option (Int × Int × Option Int) → List α
  | some (a, b, _) => (l.drop a.toNat).take (b - a).toNat
  | none => []
def maxL : List SV → Option (IntKind × Int)
  | [.p (.int k a)] => some (k, a)
  | .p (.int k a) :: xs => (maxL xs).map fun r => (k, max a r.2)
  | _ => none
def minL : List SV → Option (IntKind × Int)
  | [.p (.int k a)] => some (k, a)
  | .p (.int k a) :: xs => (minL xs).map fun r => (k, min a r.2)
  | _ => none
def spliceL {α : Type} (cs : List α) (off : Nat) (xs : List α) : List α := cs.take off ++ xs ++ cs.drop (off + xs.length)
/-- The cells of a value laid over others. -/
def fillL (cs : List SV) : List (Nat × Nat × SV) → Option (List SV)
  | [] => some cs
  | (off, n, x) :: ps => if x.cells.length = n ∧ off + n ≤ cs.length ∧ x.cells.all (·.scal) = true then fillL (spliceL cs off x.cells) ps else none
/-- What a pure operation asks, and what it answers. -/
def pev (own : List OB) (e : Opd → SV) : Ins → Prop × SV
  | .mv x => (True, e x)
  | .ld agg n a => (e a).ld own agg n
  | .bin op x y => match e x, e y with
    | .p (.int k a), .p (.int k' b) => match op with
      | .shl | .shr => ((shV op k a b).1, .p (shV op k a b).2)
      | _ => (k = k' ∧ (binV op k a b).1, .p (binV op k a b).2)
    | _, _ => (False, .any)
  | .binB neg x y => match e x, e y with
    | .p (.bool a), .p (.bool b) => (True, .p (.bool (if neg then !(a == b) else a == b)))
    | _, _ => (False, .any)
  | .binS op x y => match e x, e y with
    | .p (.str a), .p (.str b) => ((strV op a b).1, .p (strV op a b).2)
    | _, _ => (False, .any)
  | .eqNil neg x y => match (e x).isSl own, (e y).isSl own with
    | some a, some b => (a = true ∨ b = true, .p (.bool (if neg then !(a == b) else a == b)))
    | _, _ => (False, .any)
  | .eqAgg neg ks x y => match (e x).pvS own, (e y).pvS own with
    | some (.agg a), some (.agg b) => match eqCells ks a b with
      | some r => (True, .p (.bool (if neg then !r else r)))
      | none => (False, .any)
    | _, _ => (False, .any)
  | .eqNilF neg x y => match (e x).fnNil, e y with
    | some a, .p .nilFn => (True, .p (.bool (if neg then !a else a)))
    | _, _ => (False, .any)
  | .build z ps => match fillL (z.map .p) (ps.map fun q => (q.1, q.2.1, e q.2.2)) with
    | some cs => (True, aggS cs)
    | none => (False, .any)
  | .un op x => match op, e x with
    | .neg, .p (.int k a) => (True, .p (.int k (k.wrap (0 - a))))
    | .not, .p (.bool b) => (True, .p (.bool !b))
    | .xor, .p (.int k a) => (True, .p (binV .xor k (if k.signed then -1 else k.max) a).2)
    | _, _ => (False, .any)
  | .cvtI k x => match e x with
    | .p (.int _ a) => (True, .p (.int k (k.wrap a)))
    | _ => (False, .any)
  | .cvtBS x => match (e x).see own with
    | some (.isl _ _ .u8 l) => (∀ n ∈ l, 0 ≤ n ∧ n < 256, .p (.str l))
    | _ => (False, .any)
  | .mkFn f caps => match caps with
    | [] => (True, .p (.fn f []))
    | _ => (True, .fn f (caps.map e))
  | .fldA off x => match e x with
    | .ptr id o => (True, .ptr id (o + off))
    | .p (.ref o cs) => (True, .p (.ref (o + off) cs))
    | .p (.elt w es i o) => (True, .p (.elt w es i (o + off)))
    | .rptr id w i o => (True, .rptr id w i (o + off))
    | _ => (False, .any)
  | .fld agg off n x => match e x with
    | .agg cs => (off + n ≤ cs.length, if agg then .agg ((cs.drop off).take n) else cs.getD off .any)
    | .p (.agg cs) => (off + n ≤ cs.length, .p (if agg then .agg ((cs.drop off).take n) else cs.getD off .nilSl))
    | _ => (False, .any)
  | .ixA w x i => match e x, e i with
    | .p (.isl _ _ k l), .p (.int _ n) => (w = 1 ∧ 0 ≤ n ∧ n < l.length, .p (.iref k l n.toNat))
    | .p (.sl _ _ w' es), .p (.int _ n) => (w = w' ∧ 0 ≤ n ∧ n < es.length, .p (.elt w es n.toNat 0))
    | .row id, .p (.int _ n) => match own.getD id .gone with
      | .irow _ _ _ _ l => (w = 1 ∧ 0 ≤ n ∧ n < l.length, .rptr id 1 n.toNat 0)
      | .row _ w' _ _ es => (w = w' ∧ 0 ≤ n ∧ n < es.length, .rptr id w n.toNat 0)
      | _ => (False, .any)
    | _, _ => (False, .any)
  | .ixArr w len x i => match e x, e i with
    | .p (.iref k l j), .p (.int _ n) => (w = 1 ∧ 0 ≤ n ∧ n < len, .p (.iref k l (j + n.toNat)))
    | .p (.ref o cs), .p (.int _ n) => (0 ≤ n ∧ n < len, .p (.ref (o + n.toNat * w) cs))
    | .ptr id o, .p (.int _ n) => (0 ≤ n ∧ n < len, .ptr id (o + n.toNat * w))
    | _, _ => (False, .any)
  | .ixV agg w len x i => match e x, e i with
    | .agg cs, .p (.int _ n) => (0 ≤ n ∧ n < len ∧ len * w = cs.length, if agg then .agg ((cs.drop (n.toNat * w)).take w) else cs.getD n.toNat .any)
    | .p (.agg cs), .p (.int _ n) => (0 ≤ n ∧ n < len ∧ len * w = cs.length, .p (if agg then .agg ((cs.drop (n.toNat * w)).take w) else cs.getD n.toNat .nilSl))
    | _, _ => (False, .any)
  | .ixS x i => match e x, e i with
    | .p (.str l), .p (.int _ n) => (0 ≤ n ∧ n < l.length, .p (.int .u8 (l.getD n.toNat 0)))
    | _, _ => (False, .any)
  | .slc w x lo hi mx => match e x with
    | .p (.isl nil ex k l) =>
      (w = 1 ∧ slcOk l.length (bnds l.length (lo.map fun o => (e o).num) (hi.map fun o => (e o).num) (mx.map fun o => (e o).num)),
        .p (.isl nil (slcEx ex hi.isSome (bnds l.length (lo.map fun o => (e o).num) (hi.map fun o => (e o).num) (mx.map fun o => (e o).num))) k
          (cutL l (bnds l.length (lo.map fun o => (e o).num) (hi.map fun o => (e o).num) (mx.map fun o => (e o).num)))))
    | .p (.sl nil ex w' es) =>
      (w = w' ∧ slcOk es.length (bnds es.length (lo.map fun o => (e o).num) (hi.map fun o => (e o).num) (mx.map fun o => (e o).num)),
        .p (.sl nil (slcEx ex hi.isSome (bnds es.length (lo.map fun o => (e o).num) (hi.map fun o => (e o).num) (mx.map fun o => (e o).num))) w'
          (cutL es (bnds es.length (lo.map fun o => (e o).num) (hi.map fun o => (e o).num) (mx.map fun o => (e o).num)))))
    | _ => (False, .any)
  | .slcS x lo hi => match e x with
    | .p (.str l) =>
      (slcOk l.length (bnds l.length (lo.map fun o => (e o).num) (hi.map fun o => (e o).num) none),
        .p (.str (cutL l (bnds l.length (lo.map fun o => (e o).num) (hi.map fun o => (e o).num) none))))
    | _ => (False, .any)
  | .len x => match e x with
    | .p (.isl _ _ _ l) => (True, .p (.int .i64 l.length))
    | .p (.sl _ _ _ es) => (True, .p (.int .i64 es.length))
    | .p .nilSl => (True, .p (.int .i64 0))
    | .row id => match own.getD id .gone with
      | .irow _ _ _ _ l => (True, .p (.int .i64 l.length))
      | .row _ _ _ _ es => (True, .p (.int .i64 es.length))
      | _ => (False, .any)
    | _ => (False, .any)
  | .lenS x => match e x with
    | .p (.str l) => (True, .p (.int .i64 l.length))
    | _ => (False, .any)
  | .cvtSS x => match e x with
    | .p (.str l) => (True, .p (.str l))
    | _ => (False, .any)
  | .cvtRS x => match e x with
    | .p (.int _ n) => (True, .p (.str (signB n)))
    | _ => (False, .any)
  | .eqNilI neg x => match e x with
    | .p .nilIface => (True, .p (.bool (!neg)))
    | .p (.ifc _ _) => (True, .p (.bool neg))
    | _ => (False, .any)
  | .lenC n => (True, .p (.int .i64 n))
  | .ext x i => match e x with
    | .p (.tup vs) => (i < vs.length, .p (vs.getD i .nilSl))
    | .tup vs => (i < vs.length, vs.getD i .any)
    | _ => (False, .any)
  | .maxs args => match maxL (args.map e) with
    | some (k, n) => (True, .p (.int k n))
    | none => (False, .any)
  | .mins args => match minL (args.map e) with
    | some (k, n) => (True, .p (.int k n))
    | none => (False, .any)
  | .nilchk x => match (e x).isNil own with
    | some false => (True, e x)
    | _ => (False, .any)
  | .mkI t x => match e x with
    | .p y => (True, .p (.ifc t y))
    | _ => (False, .any)
  | _ => (False, .any)
def Ins.calm : Ins → Bool
  | .pick .. | .alloc .. | .box .. | .st .. | .bsl .. | .app .. | .call .. | .callR .. | .callN .. | .callI .. | .mkMap | .ins .. | .look .. | .insS .. | .lookS .. | .mkSl .. | .mkS .. | .cvtSB .. | .fx _ | .bad => false
  | .mv _ | .ld .. | .bin .. | .binB .. | .binS .. | .eqNil .. | .eqAgg .. | .eqNilF .. | .build .. | .un .. | .cvtI .. | .cvtBS _ | .cvtSS _ | .cvtRS _ | .eqNilI .. | .mkFn .. | .fldA .. | .fld .. | .ixA .. | .ixArr .. | .ixV .. | .ixS .. | .slc .. | .slcS .. | .len _ | .lenS _ | .lenC _ | .ext .. | .maxs _ | .mins _ | .nilchk _ | .mkI .. => true
/-- Whether it puts just one thing behind the own ones. -/
def FX.kind : FX → Nat
  | .mkR .. | .rngS _ | .callM .. => 1
  | .slcX .. | .nextS _ => 2
def FX.opds : FX → List Opd
  | .mkR _ _ _ _ x => [x]
  | .slcX _ x lo hi mx => x :: (lo.toList ++ hi.toList ++ mx.toList)
  | .rngS x => [x]
  | .nextS x => [x]
  | .callM _ as => as
def Ins.opds : Ins → List Opd
  | .fx o => o.opds
  | .mv x | .mkS _ _ _ x | .box _ x | .ld _ _ x | .un _ x | .cvtI _ x | .cvtBS x | .cvtSS x | .cvtRS x | .eqNilI _ x | .cvtSB _ x | .fldA _ x | .fld _ _ _ x | .len x | .lenS x | .ext x _ | .nilchk x | .mkI _ x => [x]
  | .pick c _ _ => [c]
  | .st _ a x | .bin _ a x | .binB _ a x | .binS _ a x | .eqNil _ a x | .eqAgg _ _ a x | .eqNilF _ a x | .ixA _ a x | .ixArr _ _ a x | .ixV _ _ _ a x | .ixS a x | .app _ _ _ _ a x | .mkSl _ _ _ _ _ a x | .look _ a x => [a, x]
  | .mkFn _ caps => caps
  | .build _ ps => ps.map (·.2.2)
  | .bsl _ _ _ ps => ps
  | .slc _ x lo hi mx => x :: (lo.toList ++ hi.toList ++ mx.toList)
  | .slcS x lo hi => x :: (lo.toList ++ hi.toList)
  | .call f as => f :: as
  | .callR _ _ a as => a :: as
  | .callN _ _ as => as
  | .callI _ _ a as => a :: as
  | .ins m k v => [m, k, v]
  | .insS m k v => [m, k, v]
  | .lookS _ m k => [m, k]
  | .maxs as | .mins as => as
  | .alloc .. | .lenC _ | .mkMap | .bad => []
end Go.Fx
