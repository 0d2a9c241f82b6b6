/-
  Fx, part 4: what a walk over the plain form asks (vc).
-/
import Derived.Test.YtlfffpkfipdboaaDoorFxIR
namespace Go.Fx
def calleeOk (P : Program) (f : FuncId) : Bool :=
  match P.funcs[f]? with
  | some fn => !(fn.name == "runtime.NumGoroutine") && fn.body.isSome
  | none => false
structure St where
  t : List SV
  own : List OB
abbrev Glob := Nat → Option PV
/-- The package's tables lie in the persistent part. -/
def tabOk (h : Heap) (g : Nat) : PV → Prop
  | .iref _ l _ => ∃ c ty fz, h g = some (.cells c ty fz) ∧ c.size = l.length
  | _ => True
theorem tabOk_mono {h h' : Heap} (hh : h ≤ h') {g : Nat} : ∀ {x : PV}, tabOk h g x → tabOk h' g x := fun {x} e => by
  cases x with
  | iref k l i => obtain ⟨c, ty, fz, h1, h2⟩ := e; exact ⟨c, ty, fz, hh _ _ h1, h2⟩
  | _ => trivial
def GlobOk (G : Glob) (h : Heap) : Prop := ∀ (g : Nat) x, G g = some x → x.rel h (.pointer (some ⟨g, 0, none⟩)) ∧ tabOk h g x
/-- **A function that only computes: at these arguments it returns this.** -/
def FunEq (P : Program) (G : Glob) (f : FuncId) (args : List PV) (r : PV) : Prop :=
  calleeOk P f = true ∧ ∀ (w : World) (h : Heap) (vs : List Value), h ≤ full w → GlobOk G h → PV.relL h args vs →
    Calls P f vs.toArray w fun e w' => ∃ v, e = .returned v ∧ r.rel (grow h w w') v ∧ w.heap.size ≤ w'.heap.size ∧ (∀ b : Nat, b < w.heap.size → w'.heap[b]? = w.heap[b]?) ∧ Out w w'
/-- **A function that is handed a row of the caller's own, and gives it back, or a new one for it.** -/
def FunRow (P : Program) (G : Glob) (f : FuncId) (ty : TypeId) (k : IntKind) (nil ex : Bool) (l : List Int) (args : List PV) (nil' : Bool) (l' : List Int) : Prop :=
  calleeOk P f = true ∧ ∀ (w : World) (h : Heap) (v : Value) (vs : List Value), h ≤ full w → GlobOk G h → (OB.irow ty k nil ex l).sat [] h w v → v.oneCell' = true → (∀ b, (OB.irow ty k nil ex l).fp v = some b → h b = none) → PV.relL h args vs →
    Calls P f (v :: vs).toArray w fun e w' => ∃ v', e = .returned v' ∧ (OB.irow ty k nil' false l').sat [] h w' v' ∧ v'.oneCell' = true ∧ (∀ b, (OB.irow ty k nil' false l').fp v' = some b → (OB.irow ty k nil ex l).fp v = some b ∨ w.heap.size ≤ b) ∧
      w.heap.size ≤ w'.heap.size ∧ (∀ b : Nat, b < w.heap.size → (OB.irow ty k nil ex l).fp v ≠ some b → w'.heap[b]? = w.heap[b]?) ∧ Out w w'
/-- **A function that gives back a new row, which is the caller's own, and plain values beside it.** -/
def FunNew (P : Program) (G : Glob) (f : FuncId) (ty : TypeId) (k : IntKind) (args : List PV) (nil' : Bool) (l' : List Int) (rest : List PV) : Prop :=
  calleeOk P f = true ∧ ∀ (w : World) (h : Heap) (vs : List Value), h ≤ full w → GlobOk G h → PV.relL h args vs →
    Calls P f vs.toArray w fun e w' => ∃ u us, e = .returned (.tuple (u :: us).toArray) ∧ (OB.irow ty k nil' false l').sat [] h w' u ∧ u.oneCell' = true ∧ (∀ b, (OB.irow ty k nil' false l').fp u = some b → w.heap.size ≤ b) ∧ PV.relL h rest us ∧
      w.heap.size ≤ w'.heap.size ∧ (∀ b : Nat, b < w.heap.size → w'.heap[b]? = w.heap[b]?) ∧ Out w w'
/-- **A function that gives back a new map, which is the caller's own.** -/
def FunMap (P : Program) (G : Glob) (f : FuncId) (args : List PV) (es : List (PV × SV)) : Prop :=
  calleeOk P f = true ∧ ∀ (w : World) (h : Heap) (vs : List Value), h ≤ full w → GlobOk G h → PV.relL h args vs →
    Calls P f vs.toArray w fun e w' => ∃ u, e = .returned u ∧ (OB.map es).sat [] h w' u ∧ u.oneCell' = true ∧ (∀ b, (OB.map es).fp u = some b → w.heap.size ≤ b) ∧
      w.heap.size ≤ w'.heap.size ∧ (∀ b : Nat, b < w.heap.size → w'.heap[b]? = w.heap[b]?) ∧ Out w w'
/-! ### The contracts by numbers -/
/-- A contract of a function that is handed a row: under the function's number and a million; the row, the type of its elements, the other arguments. -/
def FunRowT (P : Program) (G : Glob) (g : FuncId) (as : List PV) (r : PV) : Prop :=
  (1000000 ≤ g ∧ g < 2000000) ∧ match as, r with
    | .isl nil ex k l :: .ref ty [] :: xs, .isl nil' _ k' l' => k' = k ∧ FunRow P G (g - 1000000) ty k nil ex l xs nil' l'
    | _, _ => False
/-- A contract of a function that gives back a new row: under its number and two millions; the type of the row's elements, the arguments. -/
def FunNewT (P : Program) (G : Glob) (g : FuncId) (as : List PV) (r : PV) : Prop :=
  2000000 ≤ g ∧ match as, r with
    | .ref ty [] :: xs, .tup (.isl nil' _ k l' :: rest) => FunNew P G (g - 2000000) ty k xs nil' l' rest
    | _, _ => False
/-- A map's entries, as a value. -/
def mapOf : List PV → Option (List (PV × SV))
  | [] => some []
  | .tup [k, v] :: r => (mapOf r).map ((k, .p v) :: ·)
  | _ => none
/-- Other contracts: under the function's number and three millions and more; the first argument tells which. -/
def FunMoreT (P : Program) (G : Glob) (g : FuncId) (as : List PV) (r : PV) : Prop :=
  3000000 ≤ g ∧ match as with
    | .nilMap :: xs => match r with
      | .agg l => ∃ es, mapOf l = some es ∧ FunMap P G (g - 3000000) xs es
      | _ => False
    | _ => False
def FunX (P : Program) (G : Glob) (g : FuncId) (as : List PV) (r : PV) : Prop := (g < 1000000 ∧ FunEq P G g as r) ∨ FunRowT P G g as r ∨ FunNewT P G g as r ∨ FunMoreT P G g as r
/-! ### What an operation makes of things, as a tree -/
inductive FT where
  | no
  | ok (x : SV) (own : List OB)
  | chk (b : Bool) (t : FT)
  | br (b : Bool) (t f : FT)
  | call (g : FuncId) (as : List PV) (k : PV → FT)
def FT.holds (P : Program) (G : Glob) (K : SV → List OB → Prop) : FT → Prop
  | .no => False
  | .ok x own => K x own
  | .chk b t => b = true ∧ t.holds P G K
  | .br b t f => (b = true → t.holds P G K) ∧ (b = false → f.holds P G K)
  | .call g as k => ∃ r, FunX P G g as r ∧ (k r).holds P G K
theorem FT.holds_mono {P : Program} {G : Glob} {K K' : SV → List OB → Prop} (hk : ∀ y own', K y own' → K' y own') : ∀ {t : FT}, t.holds P G K → t.holds P G K' := by
  intro t
  induction t with
  | no => exact id
  | ok x own => exact hk _ _
  | chk b t ih => exact fun h => ⟨h.1, ih h.2⟩
  | br b t f iht ihf => exact fun h => ⟨fun e => iht (h.1 e), fun e => ihf (h.2 e)⟩
  | call g as k ih => exact fun ⟨r, h1, h2⟩ => ⟨r, h1, ih r h2⟩
theorem FT.holds_take {P : Program} {G : Glob} {K : SV → List OB → Prop} : ∀ {t : FT}, t.holds P G K → ∃ x o2, K x o2 ∧ t.holds P G fun y own' => y = x ∧ own' = o2 := by
  intro t
  induction t with
  | no => exact fun h => h.elim
  | ok x own => exact fun h => ⟨x, own, h, rfl, rfl⟩
  | chk b t ih => exact fun h => (by obtain ⟨x, o, h1, h2⟩ := ih h.2; exact ⟨x, o, h1, h.1, h2⟩)
  | br b t f iht ihf =>
    intro h
    cases b with
    | true => obtain ⟨x, o, h1, h2⟩ := iht (h.1 rfl); exact ⟨x, o, h1, fun _ => h2, fun e => by cases e⟩
    | false => obtain ⟨x, o, h1, h2⟩ := ihf (h.2 rfl); exact ⟨x, o, h1, (fun e => by cases e), fun _ => h2⟩
  | call g as k ih => exact fun ⟨r, h1, h2⟩ => (by obtain ⟨x, o, h3, h4⟩ := ih r h2; exact ⟨x, o, h3, r, h1, h4⟩)
/-- What holds of the own things at all ends. -/
def FT.all (p : List OB → Prop) : FT → Prop
  | .no => True
  | .ok _ own => p own
  | .chk _ t => t.all p
  | .br _ t f => t.all p ∧ f.all p
  | .call _ _ k => ∀ r, (k r).all p
/-- An element of these cells. -/
def mkE : List PV → PV
  | [c] => c
  | cs => .agg cs
/-- A slice expression's bounds, checked. -/
def bndT (len : Nat) (B : Option (Int × Int × Option Int)) (K : Int → Int → Option Int → FT) : FT :=
  match B with
  | some (l, h, none) => .chk (decide (0 ≤ l)) (.chk (decide (l ≤ h)) (.chk (decide (h ≤ len)) (K l h none)))
  | some (l, h, some m) => .chk (decide (0 ≤ l)) (.chk (decide (l ≤ h)) (.chk (decide (h ≤ m)) (.chk (decide (m ≤ len)) (K l h (some m)))))
  | none => .no
def slcEx1 (ex : Bool) (hi : Bool) (h : Int) : Option Int → Bool
  | some m => h == m
  | none => if hi then false else ex
def slcPT (w : Nat) (x : PV) (lo hi mx : Option (Option Int)) (K : PV → FT) : FT :=
  match x with
  | .isl nil ex k l => .chk (w == 1) (bndT l.length (bnds l.length lo hi mx) fun a b m => K (.isl nil (slcEx1 ex hi.isSome b m) k ((l.drop a.toNat).take (b - a).toNat)))
  | .sl nil ex w' es => .chk (w == w') (bndT es.length (bnds es.length lo hi mx) fun a b m => K (.sl nil (slcEx1 ex hi.isSome b m) w' ((es.drop a.toNat).take (b - a).toNat)))
  | _ => .no
/-- What these operations make of things. -/
def fxT (own : List OB) (e : Opd → SV) : FX → FT
  | .mkR elem w bytes z x => match e x with
    | .p (.int _ n) => .chk (decide (0 ≤ n)) (.chk (decide (n.toNat * bytes ≤ 140737488355328)) (.chk (decide (n.toNat ≤ 4611686018427387904)) (.ok (.row own.length) (own ++ [.row elem w false true (List.replicate n.toNat (mkE z))]))))
    | _ => .no
  | .slcX w x lo hi mx => match e x with
    | .p y => slcPT w y (lo.map fun o => (e o).num) (hi.map fun o => (e o).num) (mx.map fun o => (e o).num) fun z => .ok (.p z) own
    | .row id => match (fzL own [id]).getD id .gone with
      | .fro y => slcPT w y (lo.map fun o => (e o).num) (hi.map fun o => (e o).num) (mx.map fun o => (e o).num) fun z => .ok (.p z) (fzL own [id])
      | _ => .no
    | _ => .no
  | .rngS x => match e x with
    | .p (.str s) => .ok (.ptr own.length 0) (own ++ [.iter s 0])
    | _ => .no
  | .nextS x => match e x with
    | .ptr id 0 => match own.getD id .gone with
      | .iter s pos => .br (decide (pos < s.length)) (.ok (.p (.tup [.bool true, .int .i64 pos, .int .i32 (runeAt s pos)])) (own.set id (.iter s (pos + runeLen s pos)))) (.ok (.p (.tup [.bool false])) own)
      | _ => .no
    | _ => .no
  | .callM f as => match SV.pvSL own (as.map e) with
    | some xs => .call (f + 3000000) (.nilMap :: xs) fun r => match r with
      | .agg l => match mapOf l with
        | some es => .ok (.mp own.length) (own ++ [.map es])
        | none => .no
      | _ => .no
    | none => .no
def evS (G : Glob) (S : St) : Opd → SV
  | .tmp i => (S.t.getD i .any).res S.own
  | .c x => .p x
  | .glob g => match G g with
    | some x => .p x
    | none => .any
  | .func f => .p (.fn f [])
  | .unk => .any
def St.put (S : St) (d : Option Nat) (x : SV) (own : List OB) : St :=
  ⟨match d with
    | some i => S.t.set i x
    | none => S.t, own⟩
def sureL (e : Opd → SV) : List Opd → Prop
  | [] => True
  | [x] => (e x).sure
  | x :: xs => (e x).sure ∧ sureL e xs
def intsOf (k : IntKind) : List PV → Option (List Int)
  | [] => some []
  | .int k' n :: xs => if k' = k then (intsOf k xs).map (n :: ·) else none
  | _ => none
def lookE (z : PV) (k : PV) : List (PV × SV) → SV
  | [] => .p z
  | (k', v) :: r => match k, k' with
    | .int _ a, .int _ b => bif a == b then v else lookE z k r
    | .str a, .str b => bif a == b then v else lookE z k r
    | _, _ => .any
/-- Elements behind an own row, or behind a persistent one that is full. -/
def appI (own : List OB) (elem : TypeId) (k : IntKind) (bytes : Nat) (x : SV) (m : List Int) (K : SV → List OB → Prop) : Prop :=
  match x with
  | .row id => match own.getD id .gone with
    | .irow ty k1 nil _ l => ty = elem ∧ k1 = k ∧ (l.length + m.length) * bytes ≤ 140737488355328 ∧ l.length + m.length ≤ 4611686018427387904 ∧
        K (.row own.length) (own.set id .gone ++ [.irow elem k (nil && m.isEmpty) false (l ++ m)])
    | _ => False
  | .p (.isl nil ex k1 l) => k1 = k ∧ ex = true ∧ (l.length + m.length) * bytes ≤ 140737488355328 ∧ l.length + m.length ≤ 4611686018427387904 ∧
      match nil with
      | true => K (.row own.length) (own ++ [.irow elem k m.isEmpty false m])
      | false => match m with
        | [] => K (.p (.isl false true k1 l)) own
        | n :: m => K (.row own.length) (own ++ [.irow elem k false false (l ++ n :: m)])
  | _ => False
def appS (own : List OB) (elem : TypeId) (w bytes : Nat) (x : SV) (m : List PV) (K : SV → List OB → Prop) : Prop :=
  match x with
  | .row id => match own.getD id .gone with
    | .row ty w1 nil _ l => ty = elem ∧ w1 = w ∧ (l.length + m.length) * bytes ≤ 140737488355328 ∧ l.length + m.length ≤ 4611686018427387904 ∧ (∀ y ∈ m, y.cells.all (·.scal) = true) ∧
        K (.row own.length) (own.set id .gone ++ [.row elem w (nil && m.isEmpty) false (l ++ m)])
    | _ => False
  | .p (.sl nil ex w1 l) => w1 = w ∧ ex = true ∧ (l.length + m.length) * bytes ≤ 140737488355328 ∧ l.length + m.length ≤ 4611686018427387904 ∧ (∀ y ∈ m, y.cells.all (·.scal) = true) ∧
      match nil with
      | true => K (.row own.length) (own ++ [.row elem w m.isEmpty false m])
      | false => match m with
        | [] => K (.p (.sl false true w1 l)) own
        | n :: m => K (.row own.length) (own ++ [.row elem w false false (l ++ n :: m)])
  | _ => False
/-- A key that is none of these. -/
def keyNew (k : PV) : List (PV × SV) → Prop
  | [] => True
  | (k', _) :: r => match k, k' with
    | .int q a, .int q' b => q = q' ∧ a ≠ b ∧ keyNew k r
    | .str a, .str b => a ≠ b ∧ keyNew k r
    | _, _ => False
/-- What is found under a key. -/
def lookK (k : PV) : List (PV × SV) → (SV → Prop) → Prop → Prop
  | [], _, Z => Z
  | (k', v) :: r, F, Z => match k, k' with
    | .int q a, .int q' b => q = q' ∧ (a = b → F v) ∧ (a ≠ b → lookK k r F Z)
    | _, _ => False
/-- What is found under a text. -/
def lookSK (s : List Int) : List (PV × SV) → (SV → Prop) → Prop → Prop
  | [], _, Z => Z
  | (k', v) :: r, F, Z => match k' with
    | .str b => (s = b → F v) ∧ (s ≠ b → lookSK s r F Z)
    | _ => False
/-- An operation that makes or writes something of the function's own. -/
def eff (own : List OB) (e : Opd → SV) (io : Ins) (K : SV → List OB → Prop) : Prop :=
  match io with
  | .alloc ty z => K (.ptr own.length 0) (own ++ [.box ty (z.map .p)])
  | .box ty x => (e x).cells.all (·.scal) = true ∧ K (.ptr own.length 0) (own ++ [.box ty (e x).cells])
  | .st n a x => match e a with
    | .ptr id off => match own.getD id .gone with
      | .box ty cs => (e x).cells.length = n ∧ off + n ≤ cs.length ∧ (e x).cells.all (·.scal) = true ∧ K .any (own.set id (.box ty (spliceL cs off (e x).cells)))
      | _ => False
    | .rptr id wd i off => match own.getD id .gone, e x with
      | .irow ty k nil ex l, .p (.int k' n') => n = 1 ∧ wd = 1 ∧ off = 0 ∧ k' = k ∧ i < l.length ∧ K .any (own.set id (.irow ty k nil ex (l.set i n')))
      | .row ty w' nil ex es, .p y => wd = w' ∧ n = w' ∧ off = 0 ∧ y.cells.length = n ∧ y.cells.all (·.scal) = true ∧ i < es.length ∧ K .any (own.set id (.row ty w' nil ex (es.set i y)))
      | _, _ => False
    | _ => False
  | .bsl elem ik w ps =>
    let own' := fzL own ((ps.map e).flatMap (SV.ids own))
    match SV.pvSL own' (ps.map e) with
    | some xs => match ik with
      | some k => match intsOf k xs with
        | some l => K (.row own'.length) (own' ++ [.irow elem k false true l])
        | none => False
      | none => xs.all (fun x => x.cells.length == w && x.cells.all (·.scal)) = true ∧ K (.row own'.length) (own' ++ [.row elem w false true xs])
    | none => False
  | .app elem ik w bytes x y => match ik with
    | some k => match (e y).see own with
      | some (.isl _ _ k2 m) => k2 = k ∧ appI own elem k bytes (e x) m K
      | _ => False
    | none => match (e y).see own with
      | some (.sl _ _ w2 m) => w2 = w ∧ appS own elem w bytes (e x) m K
      | _ => False
  | .mkS elem k bytes x => match e x with
    | .p (.int _ n) => 0 ≤ n ∧ n.toNat * bytes ≤ 140737488355328 ∧ n.toNat ≤ 4611686018427387904 ∧ K (.row own.length) (own ++ [.irow elem k false true (List.replicate n.toNat 0)])
    | _ => False
  | .mkMap => K (.mp own.length) (own ++ [.map []])
  | .cvtSB _ x => match e x with
    | .row id => match own.getD id .gone with
      | .irow _ k nil ex l => nil = false ∧ K (.p (.isl false ex k l)) (own.set id (.fro (.isl false ex k l)))
      | _ => False
    | _ => False
  | .ins m k v => match e m, e k with
    | .mp id, .p k => match own.getD id .gone with
      | .map es => keyNew k es ∧ (match k with
        | .int .. => True
        | _ => False) ∧ K .any (own.set id (.map (es ++ [(k, e v)])))
      | _ => False
    | _, _ => False
  | .insS m k v => match e m, e k with
    | .mp id, .p (.str s) => match own.getD id .gone with
      | .map es => keyNew (.str s) es ∧ K .any (own.set id (.map (es ++ [(.str s, e v)])))
      | _ => False
    | _, _ => False
  | .lookS z m k => match e m, e k with
    | .mp id, .p (.str s) => match own.getD id .gone with
      | .map es => lookSK s es (fun x => K (.tup [x, .p (.bool true)]) own) (K (.tup [.p z, .p (.bool false)]) own)
      | _ => False
    | _, _ => False
  | .look z m k => match e m, e k with
    | .mp id, .p k => match own.getD id .gone with
      | .map es => (match k with
        | .int .. => True
        | _ => False) ∧ lookK k es (fun x => K x own) (K (.p z) own)
      | _ => False
    | _, _ => False
  | _ => False
/-- A call of a function that only computes. 'act': whether it is made at all. -/
def callVC (P : Program) (G : Glob) (act : Bool) (own : List OB) (e : Opd → SV) (f : Opd) (args : List Opd) (K : SV → List OB → Prop) : Prop :=
  let own' := fzL own ((f :: args).flatMap fun x => SV.ids own (e x))
  match (e f).pvS own', SV.pvSL own' (args.map e) with
  | some (.fn g caps), some as => ∃ r, (act = true → FunEq P G g (as ++ caps) r) ∧ K (.p r) (if r.flat then own else own')
  | _, _ => False
/-- A call that is handed a row of one's own (or nil), and gives it back. -/
def rowVC (P : Program) (G : Glob) (own : List OB) (e : Opd → SV) (f : FuncId) (elem : TypeId) (a : Opd) (args : List Opd) (K : SV → List OB → Prop) : Prop :=
  match e a with
  | .row id => match own.getD id .gone, SV.pvSL own (args.map e) with
    | .irow ty k nil ex l, some xs => ty = elem ∧ ∃ nil' l', FunRow P G f elem k nil ex l xs nil' l' ∧ K (.row own.length) (own.set id .gone ++ [.irow elem k nil' false l'])
    | _, _ => False
  | .p (.isl nil _ k _) => match SV.pvSL own (args.map e) with
    | some xs => nil = true ∧ ∃ nil' l', FunRow P G f elem k true true [] xs nil' l' ∧ K (.row own.length) (own ++ [.irow elem k nil' false l'])
    | none => False
  | _ => False
/-- A call that gives a new row of one's own. -/
def newVC (P : Program) (G : Glob) (own : List OB) (e : Opd → SV) (f : FuncId) (elem : TypeId) (args : List Opd) (K : SV → List OB → Prop) : Prop :=
  let own' := fzL own (args.flatMap fun x => SV.ids own (e x))
  match SV.pvSL own' (args.map e) with
  | some xs => ∃ k nil' l' rest, PV.flatL rest = true ∧ FunNew P G f elem k xs nil' l' rest ∧ K (.tup (.row own'.length :: rest.map .p)) (own' ++ [.irow elem k nil' false l'])
  | none => False
/-- A method that is called through an interface value of a known type. -/
def invVC (P : Program) (G : Glob) (own : List OB) (e : Opd → SV) (f : FuncId) (t : TypeId) (a : Opd) (args : List Opd) (K : SV → List OB → Prop) : Prop :=
  match e a, SV.pvSL own (args.map e) with
  | .p (.ifc t' x), some xs => t' = t ∧ ∃ r, FunEq P G f (x :: xs) r ∧ K (.p r) own
  | _, _ => False
def vcRun (P : Program) (G : Glob) (own : List OB) (raw : Opd → SV) (io : Ins) (K : SV → List OB → Prop) : Prop :=
  sureL raw io.opds ∧
  match io with
  | .pick c a b => match (raw c).strip with
    | .p (.bool t) => (t = true → (raw a).sure) ∧ (t = false → (raw b).sure) ∧ K (SV.mix t (raw a).strip (raw b).strip) own
    | _ => False
  | .call f args => callVC P G true own (fun x => (raw x).strip) f args K
  | .callR f t a args => rowVC P G own (fun x => (raw x).strip) f t a args K
  | .callN f t args => newVC P G own (fun x => (raw x).strip) f t args K
  | .callI f t a args => invVC P G own (fun x => (raw x).strip) f t a args K
  | .fx o => (fxT own (fun x => (raw x).strip) o).holds P G K
  | io => if io.calm then (pev own (fun x => (raw x).strip) io).1 ∧ K (pev own (fun x => (raw x).strip) io).2 own else eff own (fun x => (raw x).strip) io K
def vcGuard (P : Program) (G : Glob) (act : Bool) (own : List OB) (raw : Opd → SV) (io : Ins) (K : SV → List OB → Prop) : Prop :=
  match io with
  | .pick c a b => match (raw c).strip with
    | .p (.bool t) => (act = true → (raw c).sure ∧ (t = true → (raw a).sure) ∧ (t = false → (raw b).sure)) ∧ K (.cnd act (SV.mix t (raw a).strip (raw b).strip)) own
    | _ => False
  | .call f args => (act = true → sureL raw (f :: args)) ∧ callVC P G act own (fun x => (raw x).strip) f args (fun x own' => K (.cnd act x) own')
  | io => if io.calm then (act = true → sureL raw io.opds ∧ (pev own (fun x => (raw x).strip) io).1) ∧ K (.cnd act (pev own (fun x => (raw x).strip) io).2) own
    else (act = true → sureL raw io.opds ∧ eff own (fun x => (raw x).strip) io K) ∧ (act = false → K .any own)
/-- One operation: what it asks, and what becomes of it. -/
def vcVal (P : Program) (G : Glob) (S : St) (o : IOp) (K : SV → List OB → Prop) : Prop :=
  match o.guard with
  | none => vcRun P G S.own (evS G S) o.io K
  | some (g, want) => match S.t.getD g .any with
    | .p (.bool t) => vcGuard P G (t == want) S.own (evS G S) o.io K
    | .cnd t' (.p (.bool t)) => vcGuard P G (t' && (t == want)) S.own (evS G S) o.io K
    | _ => False
def vcOp (P : Program) (G : Glob) (S : St) (o : IOp) (K : St → Prop) : Prop := vcVal P G S o fun x own => K (S.put o.dst x own)
def vcOps (P : Program) (G : Glob) : List IOp → St → (St → Prop) → Prop
  | [], S, K => K S
  | o :: l, S, K => vcOp P G S o fun S' => vcOps P G l S' K
/-- What an operation may do to the own things: nothing; put one behind them; whatever it likes. -/
def Ins.kind : Ins → Nat
  | .alloc .. | .box .. | .bsl .. | .mkS .. => 1
  | .st .. | .app .. | .callR .. | .callN .. | .mkMap | .ins .. | .mkSl .. | .cvtSB .. | .look .. | .insS .. | .lookS .. => 2
  | .fx o => o.kind
  | .bad | .mv _ | .pick .. | .ld .. | .bin .. | .binB .. | .binS .. | .eqNil .. | .eqAgg .. | .eqNilF .. | .un .. | .cvtI .. | .cvtBS _ | .cvtSS _ | .cvtRS _ | .eqNilI .. | .mkFn .. | .build .. | .fldA .. | .fld .. | .ixA .. | .ixArr .. | .ixV .. | .ixS .. | .slc .. | .slcS .. | .len _ | .lenS _ | .lenC _ | .ext .. | .call .. | .mkI .. | .callI .. | .maxs _ | .mins _ | .nilchk _ => 0
def OB.isFro : OB → Bool
  | .fro _ => true
  | .box .. | .irow .. | .row .. | .map _ | .iter .. | .gone => false
def growsP : List OB → List OB → Prop
  | [], [] => True
  | [], [ob] => ob.isFro = false
  | x :: a, y :: b => x = y ∧ growsP a b
  | _, _ => False
def okOwn : Nat → List OB → List OB → Prop
  | 0, a, b => b = a
  | 1, a, b => growsP a b
  | _, _, _ => True
/-- A call whose arguments lead to no own thing. -/
def noIds (own : List OB) (e : Opd → SV) : Ins → Prop
  | .call f args => ((f :: args).flatMap fun y => SV.ids own (e y)) = []
  | _ => True
/-- Operations whose order is open. 'ap': one of them puts something behind the own things. -/
def vcDraw (P : Program) (G : Glob) (ap : Bool) : List IOp → St → (St → Prop) → Prop
  | [], S, K => K S
  | o :: l, S, K => (ap = true → noIds S.own (fun y => (evS G S y).strip) o.io) ∧ vcVal P G S o fun x own => okOwn o.io.kind S.own own ∧ vcDraw P G ap l (S.put o.dst x own) K
def IOp.apps (l : List IOp) : Bool := l.any fun o => o.io.kind == 1
def forgetL (live : List Nat) : Nat → List SV → List SV
  | _, [] => []
  | i, x :: xs => (if live.contains i then x else .any) :: forgetL live (i + 1) xs
/-- What is not read any more is forgotten. -/
def posOf (id : Nat) : List Nat → Nat → Option Nat
  | [], _ => none
  | x :: xs, k => if x = id then some k else posOf id xs (k + 1)
mutual
/-- Own things under new numbers: only these go on. -/
def SV.ren (own : List OB) (ids : List Nat) : SV → SV
  | .p x => .p x
  | .row id => match own.getD id .gone with
    | .fro x => .p x
    | _ => match posOf id ids 0 with
      | some j => .row j
      | none => .any
  | .ptr id off => match own.getD id .gone with
    | .fro (.ref 0 cs) => .p (.ref off cs)
    | _ => match posOf id ids 0 with
      | some j => .ptr j off
      | none => .any
  | .rptr id w i o => match posOf id ids 0 with
    | some j => .rptr j w i o
    | none => .any
  | .mp id => match posOf id ids 0 with
    | some j => .mp j
    | none => .any
  | .agg cs => .agg (SV.renL own ids cs)
  | .tup cs => .tup (SV.renL own ids cs)
  | .fn f cs => .fn f (SV.renL own ids cs)
  | .cnd b x => .cnd b (SV.ren own ids x)
  | .any => .any
def SV.renL (own : List OB) (ids : List Nat) : List SV → List SV
  | [] => []
  | x :: xs => SV.ren own ids x :: SV.renL own ids xs
end
def renE (own : List OB) (ids : List Nat) : List (PV × SV) → List (PV × SV)
  | [] => []
  | (k, x) :: r => (k, x.ren own ids) :: renE own ids r
def OB.ren (own : List OB) (ids : List Nat) : OB → OB
  | .box ty cs => .box ty (SV.renL own ids cs)
  | .irow a b c d e => .irow a b c d e
  | .row a b c d e => .row a b c d e
  | .fro x => .fro x
  | .map es => .map (renE own ids es)
  | .iter s p => .iter s p
  | .gone => .gone
def renO (own : List OB) (ids : List Nat) : List Nat → List OB
  | [] => []
  | i :: r => (own.getD i .gone).ren own ids :: renO own ids r
def St.forget (S : St) (live ids : List Nat) : St := ⟨SV.renL S.own ids (forgetL live 0 S.t), renO S.own ids ids⟩
/-- What a walk over the code asks: Kn where it goes on behind it, Ke where it leaves by a jump. -/
def vc (P : Program) (G : Glob) : IR → St → (St → Prop) → (Exit → St → Prop) → Prop
  | .skip, S, Kn, _ => Kn S
  | .ops d l, S, Kn, _ => bif d then vcDraw P G (IOp.apps l) l S Kn else vcOps P G l S Kn
  | .seq a b, S, Kn, Ke => vc P G a S (fun S' => vc P G b S' Kn Ke) Ke
  | .cond c a b, S, Kn, Ke => match evS G S c with
    | .p (.bool t) => (t = true → vc P G a S Kn Ke) ∧ (t = false → vc P G b S Kn Ke)
    | _ => False
  | .block id b, S, Kn, Ke => vc P G b S Kn (fun e S' => match e with
    | .exit id' => if id' = id then Kn S' else Ke (.exit id') S'
    | e => Ke e S')
  | .loop live b, S, _, Ke => ∃ (I : Nat → St → Prop) (X : Exit → St → Prop), (∀ e S, X e S → Ke e S ∨ ∃ lv ids, ids.Nodup ∧ Ke e (S.forget lv ids)) ∧
      (∃ n ids, ids.Nodup ∧ I n (S.forget live ids)) ∧ ∀ n S', I n S' → vc P G b S' (fun S'' => ∃ m ids, ids.Nodup ∧ m < n ∧ I m (S''.forget live ids)) X
  | .exit id, S, _, Ke => Ke (.exit id) S
  | .label _, S, Kn, _ => Kn S
  | .goto l, S, _, Ke => Ke (.goto l) S
  | .ret, S, _, Ke => Ke .ret S
  | _, _, _, _ => False
end Go.Fx
