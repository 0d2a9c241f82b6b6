/-
  Fx, part 5: the plain form is made of the model's code by a program (comp), which answers only what fits (Comp).
-/
import Derived.Test.YtlfffpkfipdboaaDoorFxVc
namespace Go.Fx
def constPV (P : Program) (t : TypeId) : Value → Option PV
  | .int k n => some (.int k n)
  | .bool b => some (.bool b)
  | .string s => some (.str (s.data.toList.map fun b => (b.toNat : Int)))
  | .slice none 0 0 => match P.underlying t with
    | some (.slice e) => match P.underlying e with
      | some (.int k) => some (.isl true true k [])
      | _ => some (.sl true true (P.cellsOf e) [])
    | _ => some .nilSl
  | .nilFunc => some .nilFn
  | .nilIface => some .nilIface
  | .pointer none => some .nilPtr
  | .map none => some .nilMap
  | _ => none
theorem relNilI (h : Heap) (k : IntKind) : (PV.isl true true k []).rel h (.slice none 0 0) :=
  ⟨none, 0, rfl, Nat.le_refl _, fun _ => rfl, by simp, fun _ => rfl, fun _ e => by cases e⟩
theorem relNilS (h : Heap) (w : Nat) : (PV.sl true true w []).rel h (.slice none 0 0) :=
  ⟨none, 0, rfl, Nat.le_refl _, fun _ => rfl, by simp, fun _ => rfl, [], rfl, fun _ e => by cases e⟩
theorem constPV_rel (P : Program) (t : TypeId) (h : Heap) (v : Value) (x : PV) (e : constPV P t v = some x) : x.rel h v := by
  unfold constPV at e
  split at e
  case h_4 =>
    split at e
    · split at e
      · cases e; exact relNilI h _
      · cases e; exact relNilS h _
    · cases e; rfl
  case h_3 s => cases e; exact ⟨s, rfl, rfl⟩
  case h_9 => cases e
  all_goals (cases e; rfl)
def flatTys (P : Program) : Nat → TypeId → List TypeId
  | 0, t => [t]
  | n + 1, t => match P.underlying t with
    | some (.struct fs) => fs.toList.flatMap fun f => flatTys P n f.type
    | some (.array m e) => (List.replicate m (flatTys P n e)).flatten
    | _ => [t]
def constL (P : Program) : List TypeId → List Value → Option (List PV)
  | ts, v :: vs => match constPV P (ts.headD 0) v, constL P ts.tail vs with
    | some x, some xs => some (x :: xs)
    | _, _ => none
  | _, [] => some []
theorem constL_rel (P : Program) (h : Heap) : ∀ (ts : List TypeId) (vs : List Value) (xs : List PV), constL P ts vs = some xs → PV.relL h xs vs
  | ts, v :: vs, xs, e => by
    simp only [constL] at e
    split at e
    · rename_i x xs' h1 h2
      cases e
      exact ⟨v, vs, rfl, constPV_rel P _ h v x h1, constL_rel P h _ vs xs' h2⟩
    · cases e
  | _, [], xs, e => by simp only [constL] at e; cases e; rfl
def opd (P : Program) (t : TypeId) : Operand → Opd
  | .tmp i => .tmp i
  | .const v => match constPV P t v with
    | some x => .c x
    | none => .unk
  | .global g => .glob g
  | .func f => .func f
inductive OpdOk : Operand → Opd → Prop where
  | tmp (i) : OpdOk (.tmp i) (.tmp i)
  | const (v : Value) (x : PV) (h : ∀ h, x.rel h v) : OpdOk (.const v) (.c x)
  | glob (g) : OpdOk (.global g) (.glob g)
  | func (f) : OpdOk (.func f) (.func f)
  | unk (x) : OpdOk x .unk
theorem opd_ok (P : Program) (t : TypeId) (x : Operand) : OpdOk x (opd P t x) := by
  cases x
  · exact .tmp _
  · simp only [opd]
    split
    · rename_i e
      exact .const _ _ fun h => constPV_rel P t h _ _ e
    · exact .unk _
  · exact .glob _
  · exact .func _
inductive OpdsOk : List Operand → List Opd → Prop where
  | nil : OpdsOk [] []
  | cons {x y xs ys} : OpdOk x y → OpdsOk xs ys → OpdsOk (x :: xs) (y :: ys)
theorem opds_ok (P : Program) : ∀ (ts : List TypeId) (xs : List Operand), OpdsOk xs ((xs.zipIdx).map fun q => opd P (ts.getD q.2 0) q.1) := by
  intro ts xs
  suffices ∀ (xs : List Operand) (k : Nat), OpdsOk xs ((xs.zipIdx k).map fun q => opd P (ts.getD q.2 0) q.1) from this xs 0
  intro xs
  induction xs with
  | nil => intro k; exact .nil
  | cons x xs ih => intro k; exact .cons (opd_ok P _ x) (ih (k + 1))
inductive OptOk : Option Operand → Option Opd → Prop where
  | none : OptOk none none
  | some {x y} : OpdOk x y → OptOk (some x) (some y)
theorem opt_ok (P : Program) (t : TypeId) (x : Option Operand) : OptOk x (x.map (opd P t)) := by
  cases x
  · exact .none
  · exact .some (opd_ok P t _)
def isAggT (P : Program) (t : TypeId) : Bool :=
  match P.underlying t with
  | some (.struct _) | some (.array ..) => true
  | _ => false
/-- All cells of a type that is compared cell by cell are numbers, bools or strings, and nothing is passed over. -/
def plainT (P : Program) : Nat → TypeId → Bool
  | 0, _ => false
  | _ + 1, t => match P.underlying t with
    | some (.int _) | some .bool | some .string => P.cellsOf t == 1
    | _ => false
/-- Where the parts of a struct, or of an array, lie. -/
def BuildAt (P : Program) (t : TypeId) (place : Nat → Option (Nat × Nat)) : Prop :=
  (∃ fs : Array Field, P.underlying t = some (.struct fs) ∧ (∀ f ∈ fs.toList, (P.info? f.type).isSome = true) ∧ place = fun i => (fs.map fun f => (f.offset, P.cellsOf f.type))[i]?) ∨
  (∃ n e, P.underlying t = some (.array n e) ∧ (P.info? e).isSome = true ∧ place = fun i => some (i * P.cellsOf e, P.cellsOf e))
def placeOf (P : Program) (t : TypeId) : Option (Nat → Option (Nat × Nat)) :=
  match P.underlying t with
  | some (.struct fs) => if fs.toList.all (fun f => (P.info? f.type).isSome) then some (fun i => (fs.map fun f => (f.offset, P.cellsOf f.type))[i]?) else none
  | some (.array _ e) => if (P.info? e).isSome then some (fun i => some (i * P.cellsOf e, P.cellsOf e)) else none
  | _ => none
theorem placeOf_ok {P : Program} {t : TypeId} {place : Nat → Option (Nat × Nat)} (h : placeOf P t = some place) : BuildAt P t place := by
  unfold placeOf at h
  split at h
  · split at h
    · rename_i fs hu ha
      cases h
      exact .inl ⟨fs, hu, fun f hf => List.all_eq_true.1 ha f hf, rfl⟩
    · cases h
  · split at h
    · rename_i n e hu ha
      cases h
      exact .inr ⟨n, e, hu, ha, rfl⟩
    · cases h
  · cases h
def partTy (P : Program) (t : TypeId) (i : Nat) : TypeId :=
  match P.underlying t with
  | some (.struct fs) => match fs[i]? with
    | some f => f.type
    | none => 0
  | some (.array _ e) => e
  | _ => 0
inductive Parts (place : Nat → Option (Nat × Nat)) : List (Nat × Operand) → List (Nat × Nat × Opd) → Prop where
  | nil : Parts place [] []
  | cons {i x off n y ps qs} : place i = some (off, n) → OpdOk x y → Parts place ps qs → Parts place ((i, x) :: ps) ((off, n, y) :: qs)
def partsL (P : Program) (t : TypeId) (place : Nat → Option (Nat × Nat)) : List (Nat × Operand) → Option (List (Nat × Nat × Opd))
  | [] => some []
  | (i, x) :: r => match place i, partsL P t place r with
    | some (off, n), some r' => some ((off, n, opd P (partTy P t i) x) :: r')
    | _, _ => none
theorem partsL_ok {P : Program} {t : TypeId} {place : Nat → Option (Nat × Nat)} : ∀ {ps : List (Nat × Operand)} {qs}, partsL P t place ps = some qs → Parts place ps qs
  | [], qs, h => by simp only [partsL] at h; cases h; exact .nil
  | (i, x) :: r, qs, h => by
    simp only [partsL] at h
    split at h
    · rename_i h1 h2
      cases h
      exact .cons h1 (opd_ok ..) (partsL_ok h2)
    · cases h
/-- A type of one cell: a number, a bool, a string. -/
def CKOk (P : Program) (t : TypeId) : CK → Prop
  | .int k => P.underlying t = some (.int k)
  | .bool => P.underlying t = some .bool
  | .str => P.underlying t = some .string
def PlainC (P : Program) (t : TypeId) (c : CK) : Prop := P.cellsOf t = 1 ∧ isAggT P t = false ∧ (∃ d, P.underlying t = some d) ∧ CKOk P t c
def plainC (P : Program) (t : TypeId) : Option CK :=
  match P.underlying t with
  | some (.int k) => if P.cellsOf t = 1 then some (.int k) else none
  | some .bool => if P.cellsOf t = 1 then some .bool else none
  | some .string => if P.cellsOf t = 1 then some .str else none
  | _ => none
theorem plainC_ok {P : Program} {t : TypeId} {c : CK} (h : plainC P t = some c) : PlainC P t c := by
  unfold plainC at h
  split at h
  · rename_i k hu
    split at h
    · cases h; exact ⟨‹_›, by simp [isAggT, hu], ⟨_, hu⟩, hu⟩
    · cases h
  · rename_i hu
    split at h
    · cases h; exact ⟨‹_›, by simp [isAggT, hu], ⟨_, hu⟩, hu⟩
    · cases h
  · rename_i hu
    split at h
    · cases h; exact ⟨‹_›, by simp [isAggT, hu], ⟨_, hu⟩, hu⟩
    · cases h
  · cases h
inductive PlainFs (P : Program) : Nat → List Field → List CK → Prop where
  | nil {k} : PlainFs P k [] []
  | cons {k f fs c cs} : f.name ≠ "_" → f.offset = k → PlainC P f.type c → PlainFs P (k + 1) fs cs → PlainFs P k (f :: fs) (c :: cs)
/-- A struct, or an array, of such cells, one behind the other. -/
def PlainAgg (P : Program) (t : TypeId) (ks : List CK) : Prop :=
  P.eqGuardType P.depth t = false ∧
  ((∃ fs : Array Field, P.underlying t = some (.struct fs) ∧ P.stoodInHeld t = false ∧ PlainFs P 0 fs.toList ks) ∨
   (∃ n e i c, P.underlying t = some (.array n e) ∧ P.info? e = some i ∧ PlainC P e c ∧ ks = List.replicate n c))
def plainFs (P : Program) : Nat → List Field → Option (List CK)
  | _, [] => some []
  | j, f :: fs => if f.name ≠ "_" ∧ f.offset = j then match plainC P f.type, plainFs P (j + 1) fs with
    | some c, some cs => some (c :: cs)
    | _, _ => none
    else none
theorem plainFs_ok {P : Program} : ∀ (fs : List Field) (k : Nat) {ks : List CK}, plainFs P k fs = some ks → PlainFs P k fs ks
  | [], k, ks, h => by simp only [plainFs] at h; cases h; exact .nil
  | f :: fs, k, ks, h => by
    simp only [plainFs] at h
    split at h
    · rename_i hc
      split at h
      · rename_i h1 h2
        cases h
        exact .cons hc.1 hc.2 (plainC_ok h1) (plainFs_ok fs (k + 1) h2)
      · cases h
    · cases h
def plainAgg (P : Program) (t : TypeId) : Option (List CK) :=
  if P.eqGuardType P.depth t then none else
  match P.underlying t with
  | some (.struct fs) => if P.stoodInHeld t then none else plainFs P 0 fs.toList
  | some (.array n e) => match P.info? e with
    | some _ => (plainC P e).map fun c => List.replicate n c
    | none => none
  | _ => none
theorem plainAgg_ok {P : Program} {t : TypeId} {ks : List CK} (h : plainAgg P t = some ks) : PlainAgg P t ks := by
  unfold plainAgg at h
  split at h
  · cases h
  · rename_i hg
    refine ⟨by simpa using hg, ?_⟩
    split at h
    · rename_i fs hu
      split at h
      · cases h
      · rename_i hs
        exact .inl ⟨fs, hu, by simpa using hs, plainFs_ok _ _ h⟩
    · rename_i n' e hu
      split at h
      · rename_i i hi
        rw [Option.map_eq_some_iff] at h
        obtain ⟨c, h1, rfl⟩ := h
        exact .inr ⟨n', e, i, c, hu, hi, plainC_ok h1, rfl⟩
      · cases h
    · cases h
inductive Comp (P : Program) : Op → Ins → Prop where
  | move {x y} : OpdOk x y → Comp P (.move x) (.mv y)
  | assign {x y} : OpdOk x y → Comp P (.assign x) (.mv y)
  | pick {c a b c' a' b'} : OpdOk c c' → OpdOk a a' → OpdOk b b' → Comp P (.pick c a b) (.pick c' a' b')
  | alloc {t z i} : P.info? t = some i → i.zero = some z → (zs : List PV) → (∀ h, PV.relL h zs z.cells.toList) → Comp P (.alloc t) (.alloc t zs)
  | box {t x y} : OpdOk x y → Comp P (.box t x) (.box t y)
  | mkS {t x y e i k} : P.underlying t = some (.slice e) → P.info? e = some i → i.zero = some (.int k 0) → i.size = 1 → OpdOk x y → Comp P (.makeSlice t x x) (.mkS e k i.bytes y)
  | load {t x y i d} : P.underlying t = some d → P.info? t = some i → (isAggT P t = false → P.cellsOf t = 1) → OpdOk x y → Comp P (.load t x) (.ld (isAggT P t) (P.cellsOf t) y)
  | store {t a x a' x' i} : P.info? t = some i → OpdOk a a' → OpdOk x x' → Comp P (.store t a x) (.st (P.cellsOf t) a' x')
  | bin {op t x y yt x' y' k} : P.underlying t = some (.int k) → OpdOk x x' → OpdOk y y' → Comp P (.binOp op t x y yt) (.bin op x' y')
  | binB {t x y yt x' y'} : P.underlying t = some .bool → OpdOk x x' → OpdOk y y' → (neg : Bool) → Comp P (.binOp (if neg then .neq else .eql) t x y yt) (.binB neg x' y')
  | binS {op t x y yt x' y'} : P.underlying t = some .string → OpdOk x x' → OpdOk y y' → Comp P (.binOp op t x y yt) (.binS op x' y')
  | eqNil {t x y yt x' y' e} : P.underlying t = some (.slice e) → OpdOk x x' → OpdOk y y' → (neg : Bool) → Comp P (.binOp (if neg then .neq else .eql) t x y yt) (.eqNil neg x' y')
  | un {op t x x'} : OpdOk x x' → Comp P (.unOp op t x) (.un op x')
  | cvtI {s d x x' k ds} : P.underlying d = some (.int k) → P.underlying s = some ds → OpdOk x x' → Comp P (.convert s d x) (.cvtI k x')
  | mkFn {f caps caps'} : OpdsOk caps.toList caps' → Comp P (.makeFunc (.func f) #[] caps) (.mkFn f caps')
  | bsl {t n parts e i ps} : P.underlying t = some (.slice e) → P.info? e = some i → n = parts.size → (parts.toList.map (·.1) = List.range n) → OpdsOk (parts.toList.map (·.2)) ps →
      n * P.cellsOf e ≤ 2 ^ 24 → 0 < P.cellsOf e → (z : Value) → i.zero = some z → z.cells.size = P.cellsOf e →
      (ik : Option IntKind) → (∀ k, ik = some k → P.underlying e = some (.int k) ∧ P.cellsOf e = 1) → Comp P (.buildSlice t n parts) (.bsl e ik (P.cellsOf e) ps)
  | fldA {s x x' j fs f i} : P.underlying s = some (.struct fs) → fs[j]? = some f → P.info? f.type = some i → P.cellsOf f.type ≠ 0 → OpdOk x x' → Comp P (.fieldAddr s x j) (.fldA f.offset x')
  | ixA {t x i x' i' e d} : P.underlying t = some (.slice e) → P.info? e = some d → OpdOk x x' → OpdOk i i' → Comp P (.indexAddr t x i) (.ixA (P.cellsOf e) x' i')
  | ext {x x' i} : OpdOk x x' → Comp P (.extract x i) (.ext x' i)
  | len {ats x x' e t} : ats[0]? = some t → P.underlying t = some (.slice e) → OpdOk x x' → Comp P (.call { callee := .builtin .len, args := #[x], argTypes := ats }) (.len x')
  | lenS {ats x x' t} : ats[0]? = some t → P.underlying t = some .string → OpdOk x x' → Comp P (.call { callee := .builtin .len, args := #[x], argTypes := ats }) (.lenS x')
  | maxs {args args' ats} : OpdsOk args.toList args' → Comp P (.call { callee := .builtin .max, args, argTypes := ats }) (.maxs args')
  | mins {args args' ats} : OpdsOk args.toList args' → Comp P (.call { callee := .builtin .min, args, argTypes := ats }) (.mins args')
  | build {t parts i z place ps} : P.info? t = some i → i.zero = some z → (zs : List PV) → (∀ h, PV.relL h zs z.cells.toList) → BuildAt P t place → Parts place parts.toList ps → Comp P (.build t parts) (.build zs ps)
  | fld {s x x' j fs f d i} : P.underlying s = some (.struct fs) → fs[j]? = some f → P.underlying f.type = some d → P.info? f.type = some i → (isAggT P f.type = false → P.cellsOf f.type = 1) → OpdOk x x' →
      Comp P (.field s x j) (.fld (isAggT P f.type) f.offset (P.cellsOf f.type) x')
  | ixV {t x x' i i' n e d di} : P.underlying t = some (.array n e) → P.underlying e = some d → P.info? e = some di → (isAggT P e = false → P.cellsOf e = 1) → OpdOk x x' → OpdOk i i' →
      Comp P (.index t x i) (.ixV (isAggT P e) (P.cellsOf e) n x' i')
  | ixS {t x x' i i'} : P.underlying t = some .string → OpdOk x x' → OpdOk i i' → Comp P (.index t x i) (.ixS x' i')
  | ixArr {t x i x' i' n e d} : P.underlying t = some (.array n e) → P.info? e = some d → OpdOk x x' → OpdOk i i' → Comp P (.indexAddr t x i) (.ixArr (P.cellsOf e) n x' i')
  | slc {t x x' lo lo' hi hi' mx mx' e d} : P.underlying t = some (.slice e) → P.info? e = some d → OpdOk x x' → OptOk lo lo' → OptOk hi hi' → OptOk mx mx' → Comp P (.slice t x lo hi mx) (.slc (P.cellsOf e) x' lo' hi' mx')
  | slcS {t x x' lo lo' hi hi'} : P.underlying t = some .string → OpdOk x x' → OptOk lo lo' → OptOk hi hi' → Comp P (.slice t x lo hi none) (.slcS x' lo' hi')
  | eqAgg {t x y yt x' y' n} : PlainAgg P t n → OpdOk x x' → OpdOk y y' → (neg : Bool) → Comp P (.binOp (if neg then .neq else .eql) t x y yt) (.eqAgg neg n x' y')
  | eqNilF {t x y yt x' y' a b c} : P.underlying t = some (.func a b c) → OpdOk x x' → OpdOk y y' → (neg : Bool) → Comp P (.binOp (if neg then .neq else .eql) t x y yt) (.eqNilF neg x' y')
  | cvtBS {s d x x' e} : P.underlying s = some (.slice e) → P.underlying e = some (.int .u8) → P.underlying d = some .string → OpdOk x x' → Comp P (.convert s d x) (.cvtBS x')
  | cvtSB {t e x x'} : P.underlying t = some (.slice e) → P.underlying e = some (.int .u8) → OpdOk x x' → Comp P (.convert t t x) (.cvtSB e x')
  | eqNilI {t x yt x' ms} : P.underlying t = some (.interface ms) → OpdOk x x' → (neg : Bool) → Comp P (.binOp (if neg then .neq else .eql) t x (.const .nilIface) yt) (.eqNilI neg x')
  | cvtRS {s d x x' k} : P.underlying s = some (.int k) → P.underlying d = some .string → OpdOk x x' → Comp P (.convert s d x) (.cvtRS x')
  | cvtSS {s d x x'} : P.underlying s = some .string → P.underlying d = some .string → OpdOk x x' → Comp P (.convert s d x) (.cvtSS x')
  | app {t x y x' y' e i z} : P.underlying t = some (.slice e) → P.info? e = some i → i.zero = some z → z.cells.size = P.cellsOf e → 0 < P.cellsOf e → (ik : Option IntKind) → (∀ k, ik = some k → P.underlying e = some (.int k) ∧ P.cellsOf e = 1) →
      OpdOk x x' → OpdOk y y' → Comp P (.call { callee := .builtin .append, args := #[x, y], argTypes := #[t, t] }) (.app e ik (P.cellsOf e) i.bytes x' y')
  | mkMap {t} : Comp P (.makeMap t none) .mkMap
  | insm {t m k v m' k' v' kt elem q} : P.underlying t = some (.map kt elem) → P.underlying kt = some (.int q) → OpdOk m m' → OpdOk k k' → OpdOk v v' → Comp P (.insert t m k v) (.ins m' k' v')
  | inss {t m k v m' k' v' kt elem} : P.underlying t = some (.map kt elem) → P.underlying kt = some .string → OpdOk m m' → OpdOk k k' → OpdOk v v' → Comp P (.insert t m k v) (.insS m' k' v')
  | looks {t m k m' k' kt elem i z x} : P.underlying t = some (.map kt elem) → P.underlying kt = some .string → P.info? elem = some i → i.zero = some z → (∀ h, x.rel h z) → OpdOk m m' → OpdOk k k' → Comp P (.lookup t m k true) (.lookS x m' k')
  | lookm {t m k m' k' kt elem q i z x} : P.underlying t = some (.map kt elem) → P.underlying kt = some (.int q) → P.info? elem = some i → i.zero = some z → (∀ h, x.rel h z) → OpdOk m m' → OpdOk k k' → Comp P (.lookup t m k false) (.look x m' k')
  | panic {x} : Comp P (.panic x) .bad
  | mkI {t x} : Comp P (.makeInterface t x) .bad
  | mkI2 {t x x' d} : P.underlying t = some d → (∀ q, d ≠ .interface q) → OpdOk x x' → Comp P (.makeInterface t x) (.mkI t x')
  | mkR {t x y e i z} : P.underlying t = some (.slice e) → P.info? e = some i → i.zero = some z → z.cells.size = P.cellsOf e → 0 < P.cellsOf e → (zs : List PV) → (∀ h, PV.relL h zs z.cells.toList) → zs.all (·.scal) = true → OpdOk x y →
      Comp P (.makeSlice t x x) (.fx (.mkR e (P.cellsOf e) i.bytes zs y))
  | slcX {t x x' lo lo' hi hi' mx mx' e d} : P.underlying t = some (.slice e) → P.info? e = some d → OpdOk x x' → OptOk lo lo' → OptOk hi hi' → OptOk mx mx' → Comp P (.slice t x lo hi mx) (.fx (.slcX (P.cellsOf e) x' lo' hi' mx'))
  | rngS {t x x'} : P.underlying t = some .string → OpdOk x x' → Comp P (.range t x) (.fx (.rngS x'))
  | nextS {x x'} : OpdOk x x' → Comp P (.next x true) (.fx (.nextS x'))
  | callM {f g args args' ats} : OpdOk f (.func g) → OpdsOk args.toList args' → Comp P (.call { callee := .value f, args, argTypes := ats }) (.fx (.callM g args'))
  | callI {q name g t i m a' args args' ats} : P.info? t = some i → i.methods.find? (·.name == name) = some m → m.path = #[] → m.func = some (g, false) → (∃ d, P.underlying t = some d ∧ ∀ e, d ≠ .pointer e) → OpdOk q a' → OpdsOk args.toList args' →
      Comp P (.call { callee := .invoke q name, args, argTypes := ats }) (.callI g t a' args')
  | callR {f g t args a' args' ats} : OpdOk f (.func g) → OpdsOk args.toList (a' :: args') → Comp P (.call { callee := .value f, args, argTypes := ats }) (.callR g t a' args')
  | callN {f g t args args' ats} : OpdOk f (.func g) → OpdsOk args.toList args' → Comp P (.call { callee := .value f, args, argTypes := ats }) (.callN g t args')
  | call {f f' args args' ats} : OpdOk f f' → OpdsOk args.toList args' → Comp P (.call { callee := .value f, args, argTypes := ats }) (.call f' args')
def negOf : BinOp → Option Bool
  | .eql => some false
  | .neq => some true
  | _ => none
theorem negOf_ok {op : BinOp} {b : Bool} (h : negOf op = some b) : op = if b then .neq else .eql := by
  cases op <;> simp [negOf] at h <;> subst h <;> rfl
def compBin (P : Program) (op : BinOp) (t : TypeId) (x y : Operand) : Option Ins :=
  match P.underlying t with
  | some (.int _) => some (.bin op (opd P t x) (opd P t y))
  | some .bool => (negOf op).map fun b => .binB b (opd P t x) (opd P t y)
  | some .string => some (.binS op (opd P t x) (opd P t y))
  | some (.slice _) => (negOf op).map fun b => .eqNil b (opd P t x) (opd P t y)
  | some (.func ..) => (negOf op).map fun b => .eqNilF b (opd P t x) (opd P t y)
  | some (.interface _) => match y with
    | .const .nilIface => (negOf op).map fun b => .eqNilI b (opd P t x)
    | _ => none
  | _ => (plainAgg P t).bind fun n => (negOf op).map fun b => .eqAgg b n (opd P t x) (opd P t y)
theorem compBin_ok {P : Program} {op : BinOp} {t yt : TypeId} {x y : Operand} {io : Ins} (h : compBin P op t x y = some io) : Comp P (.binOp op t x y yt) io := by
  unfold compBin at h
  split at h
  · cases h; exact .bin ‹_› (opd_ok ..) (opd_ok ..)
  · rw [Option.map_eq_some_iff] at h
    obtain ⟨b, h1, rfl⟩ := h
    rw [negOf_ok h1]; exact .binB ‹_› (opd_ok ..) (opd_ok ..) b
  · cases h; exact .binS ‹_› (opd_ok ..) (opd_ok ..)
  · rw [Option.map_eq_some_iff] at h
    obtain ⟨b, h1, rfl⟩ := h
    rw [negOf_ok h1]; exact .eqNil ‹_› (opd_ok ..) (opd_ok ..) b
  · rw [Option.map_eq_some_iff] at h
    obtain ⟨b, h1, rfl⟩ := h
    rw [negOf_ok h1]; exact .eqNilF ‹_› (opd_ok ..) (opd_ok ..) b
  · split at h
    · rw [Option.map_eq_some_iff] at h
      obtain ⟨b, h1, rfl⟩ := h
      rw [negOf_ok h1]; exact .eqNilI ‹_› (opd_ok ..) b
    · cases h
  · rw [Option.bind_eq_some_iff] at h
    obtain ⟨n, h0, h⟩ := h
    rw [Option.map_eq_some_iff] at h
    obtain ⟨b, h1, rfl⟩ := h
    rw [negOf_ok h1]; exact .eqAgg (plainAgg_ok h0) (opd_ok ..) (opd_ok ..) b
def compMk (P : Program) (t : TypeId) (x y : Operand) : Option Ins :=
  match x, y with
  | .tmp i, .tmp j => if i = j then match P.underlying t with
      | some (.slice e) => match P.info? e with
        | some q => match q.zero with
          | some (.int k 0) => if q.size = 1 then some (.mkS e k q.bytes (opd P t (.tmp i))) else none
          | some z => match constL P (flatTys P 8 e) z.cells.toList with
            | some zs => if z.cells.size = P.cellsOf e ∧ 0 < P.cellsOf e ∧ zs.all (·.scal) = true then some (.fx (.mkR e (P.cellsOf e) q.bytes zs (opd P t (.tmp i)))) else none
            | none => none
          | none => none
        | none => none
      | _ => none else none
  | _, _ => none
theorem compMk_ok {P : Program} {t : TypeId} {x y : Operand} {io : Ins} (h : compMk P t x y = some io) : Comp P (.makeSlice t x y) io := by
  unfold compMk at h
  split at h
  · split at h
    · rename_i e0
      subst e0
      split at h
      · split at h
        · split at h
          · split at h
            · cases h; exact .mkS ‹_› ‹_› ‹_› ‹_› (opd_ok ..)
            · cases h
          · split at h
            · rename_i e2
              split at h
              · rename_i hc
                cases h
                exact .mkR ‹_› ‹_› ‹_› hc.1 hc.2.1 _ (fun h => constL_rel P h _ _ _ e2) hc.2.2 (opd_ok ..)
              · cases h
            · cases h
          · cases h
        · cases h
      · cases h
    · cases h
  · cases h
def compCvt (P : Program) (s d : TypeId) (x : Operand) : Option Ins :=
  match P.underlying d with
  | some (.int k) => (P.underlying s).map fun _ => .cvtI k (opd P s x)
  | some .string => match P.underlying s with
    | some .string => some (.cvtSS (opd P s x))
    | some (.int _) => some (.cvtRS (opd P s x))
    | some (.slice e) => match P.underlying e with
      | some (.int .u8) => some (.cvtBS (opd P s x))
      | _ => none
    | _ => none
  | some (.slice e) => if s = d then match P.underlying e with
      | some (.int .u8) => some (.cvtSB e (opd P s x))
      | _ => none else none
  | _ => none
theorem compCvt_ok {P : Program} {s d : TypeId} {x : Operand} {io : Ins} (h : compCvt P s d x = some io) : Comp P (.convert s d x) io := by
  unfold compCvt at h
  split at h
  · rw [Option.map_eq_some_iff] at h
    obtain ⟨ds, h1, rfl⟩ := h
    exact .cvtI ‹_› h1 (opd_ok ..)
  · split at h
    · cases h; exact .cvtSS ‹_› ‹_› (opd_ok ..)
    · cases h; exact .cvtRS ‹_› ‹_› (opd_ok ..)
    · split at h
      · cases h; exact .cvtBS ‹_› ‹_› ‹_› (opd_ok ..)
      · cases h
    · cases h
  · split at h
    · rename_i hsd
      subst hsd
      split at h
      · cases h; exact .cvtSB ‹_› ‹_› (opd_ok ..)
      · cases h
    · cases h
  · cases h
def compApp (P : Program) (args : List Operand) (ats : List TypeId) : Option Ins :=
  match args, ats with
  | [x, y], [t, t'] => if t = t' then match P.underlying t with
    | some (.slice e) => match P.info? e with
      | some i => match i.zero with
        | some z =>
          if z.cells.size = P.cellsOf e ∧ 0 < P.cellsOf e then some (.app e (match P.underlying e with
            | some (.int k) => if P.cellsOf e = 1 then some k else none
            | _ => none) (P.cellsOf e) i.bytes (opd P t x) (opd P t y)) else none
        | none => none
      | none => none
    | _ => none else none
  | _, _ => none
theorem compApp_ok {P : Program} {args : Array Operand} {ats : Array TypeId} {io : Ins} (h : compApp P args.toList ats.toList = some io) : Comp P (.call { callee := .builtin .append, args, argTypes := ats }) io := by
  unfold compApp at h
  split at h
  · rename_i x y t t' e1 e2
    obtain rfl : args = #[x, y] := Array.ext' e1
    obtain rfl : ats = #[t, t'] := Array.ext' e2
    split at h
    · rename_i ht
      subst ht
      split at h
      · split at h
        · split at h
          · split at h
            · rename_i hc
              cases h
              refine .app ‹_› ‹_› ‹_› hc.1 hc.2 _ (fun k hk => ?_) (opd_ok ..) (opd_ok ..)
              split at hk
              · split at hk
                · cases hk; exact ⟨‹_›, ‹_›⟩
                · cases hk
              · cases hk
            · cases h
          · cases h
        · cases h
      · cases h
    · cases h
  · cases h
def compIns (P : Program) (t : TypeId) (m k v : Operand) : Option Ins :=
  match P.underlying t with
  | some (.map kt elem) => match P.underlying kt with
    | some (.int _) => some (.ins (opd P t m) (opd P kt k) (opd P elem v))
    | some .string => some (.insS (opd P t m) (opd P kt k) (opd P elem v))
    | _ => none
  | _ => none
theorem compIns_ok {P : Program} {t : TypeId} {m k v : Operand} {io : Ins} (h : compIns P t m k v = some io) : Comp P (.insert t m k v) io := by
  unfold compIns at h
  split at h
  · split at h
    · cases h; exact .insm ‹_› ‹_› (opd_ok ..) (opd_ok ..) (opd_ok ..)
    · cases h; exact .inss ‹_› ‹_› (opd_ok ..) (opd_ok ..) (opd_ok ..)
    · cases h
  · cases h
def compLook (P : Program) (t : TypeId) (m k : Operand) : Option Ins :=
  match P.underlying t with
  | some (.map kt elem) => match P.underlying kt with
    | some (.int _) => match P.info? elem with
      | some i => match i.zero with
        | some z => match constPV P elem z with
          | some x => some (.look x (opd P t m) (opd P kt k))
          | none => none
        | none => none
      | none => none
    | _ => none
  | _ => none
theorem compLook_ok {P : Program} {t : TypeId} {m k : Operand} {io : Ins} (h : compLook P t m k = some io) : Comp P (.lookup t m k false) io := by
  unfold compLook at h
  split at h
  · split at h
    · split at h
      · split at h
        · split at h
          · rename_i e
            cases h
            exact .lookm ‹_› ‹_› ‹_› ‹_› (fun h => constPV_rel P _ h _ _ e) (opd_ok ..) (opd_ok ..)
          · cases h
        · cases h
      · cases h
    · cases h
  · cases h
def compLookS (P : Program) (t : TypeId) (m k : Operand) : Option Ins :=
  match P.underlying t with
  | some (.map kt elem) => match P.underlying kt with
    | some .string => match P.info? elem with
      | some i => match i.zero with
        | some z => match constPV P elem z with
          | some x => some (.lookS x (opd P t m) (opd P kt k))
          | none => none
        | none => none
      | none => none
    | _ => none
  | _ => none
theorem compLookS_ok {P : Program} {t : TypeId} {m k : Operand} {io : Ins} (h : compLookS P t m k = some io) : Comp P (.lookup t m k true) io := by
  unfold compLookS at h
  split at h
  · split at h
    · split at h
      · split at h
        · split at h
          · rename_i e
            cases h
            exact .looks ‹_› ‹_› ‹_› ‹_› (fun h => constPV_rel P _ h _ _ e) (opd_ok ..) (opd_ok ..)
          · cases h
        · cases h
      · cases h
    · cases h
  · cases h
/-- Functions that are handed a row of the caller's own (by their types): the type of its elements. -/
def rowFn (P : Program) (g : FuncId) : Option TypeId :=
  match P.funcs[g]? with
  | some fn => match fn.params.toList, fn.resultTypes.toList with
    | t :: u :: _, [r] => if t == r then match P.underlying t, P.underlying u with
      | some (.slice e), some (.int _) => match P.underlying e with
        | some (.int .u8) => some e
        | some (.int _) => if fn.name == "slices.Grow[[]int,int]" then some e else none
        | _ => none
      | _, _ => none else none
    | _, _ => none
  | none => none
/-- Functions that give back a new row, and plain values beside it (by their types): the type of its elements. -/
def flatTy (P : Program) (t : TypeId) : Bool := match P.underlying t with
  | some (.int _) | some .bool => true
  | _ => false
def newFn (P : Program) (g : FuncId) : Option TypeId :=
  match P.funcs[g]? with
  | some fn => match fn.resultTypes.toList with
    | r :: x :: xs => if (x :: xs).all (flatTy P) then match P.underlying r with
      | some (.slice e) => match P.underlying e with
        | some (.int _) => some e
        | _ => none
      | _ => none else none
    | _ => none
  | none => none
/-- Functions that give back a new map (by their types). -/
def mapFn (P : Program) (g : FuncId) : Bool :=
  match P.funcs[g]? with
  | some fn => match fn.resultTypes.toList with
    | [r] => match P.underlying r with
      | some (.map ..) => true
      | _ => false
    | _ => false
  | none => false
def compCall (P : Program) : Opd → List Opd → Option Ins
  | .func g, [] => if mapFn P g then some (.fx (.callM g [])) else some (.call (.func g) [])
  | .func g, a :: as => match rowFn P g with
    | some t => some (.callR g t a as)
    | none => match newFn P g with
      | some t => some (.callN g t (a :: as))
      | none => some (.call (.func g) (a :: as))
  | f, as => some (.call f as)
theorem compCall_ok {P : Program} {f : Operand} {f' : Opd} {args : Array Operand} {args' : List Opd} {ats : Array TypeId} {io : Ins} (h : compCall P f' args' = some io) (hf : OpdOk f f') (ha : OpdsOk args.toList args') :
    Comp P (.call { callee := .value f, args, argTypes := ats }) io := by
  unfold compCall at h
  split at h
  · split at h
    · cases h; exact .callM hf ha
    · cases h; exact .call hf ha
  · split at h
    · cases h; exact .callR hf ha
    · split at h
      · cases h; exact .callN hf ha
      · cases h; exact .call hf ha
  · cases h; exact .call hf ha
def comp (P : Program) (ty : TypeId) : Op → Option Ins
  | .move x => some (.mv (opd P ty x))
  | .assign x => some (.mv (opd P ty x))
  | .pick c a b => some (.pick (opd P ty c) (opd P ty a) (opd P ty b))
  | .alloc t => match P.info? t with
    | some i => match i.zero with
      | some z => match constL P (flatTys P 8 t) z.cells.toList with
        | some zs => some (.alloc t zs)
        | none => none
      | none => none
    | none => none
  | .box t x => some (.box t (opd P t x))
  | .makeSlice t x y => compMk P t x y
  | .load t x => match P.underlying t, P.info? t with
    | some _, some _ => if isAggT P t || P.cellsOf t == 1 then some (.ld (isAggT P t) (P.cellsOf t) (opd P 0 x)) else none
    | _, _ => none
  | .store t a x => match P.info? t with
    | some _ => some (.st (P.cellsOf t) (opd P 0 a) (opd P t x))
    | none => none
  | .binOp op t x y _ => compBin P op t x y
  | .unOp op _ x => some (.un op (opd P ty x))
  | .convert s d x => compCvt P s d x
  | .makeFunc fn first caps => match fn with
    | .func f => if first.size = 0 then some (.mkFn f ((caps.toList.zipIdx).map fun q => opd P (([] : List TypeId).getD q.2 0) q.1)) else none
    | _ => none
  | .buildSlice t n parts => match P.underlying t with
    | some (.slice e) => match P.info? e with
      | some i => match i.zero with
        | some z =>
          let ik : Option IntKind := match P.underlying e with
            | some (.int k) => if P.cellsOf e = 1 then some k else none
            | _ => none
          if n = parts.size ∧ parts.toList.map (·.1) = List.range n ∧ n * P.cellsOf e ≤ 2 ^ 24 ∧ 0 < P.cellsOf e ∧ z.cells.size = P.cellsOf e then
            some (.bsl e ik (P.cellsOf e) (((parts.toList.map (·.2)).zipIdx).map fun q => opd P (([] : List TypeId).getD q.2 e) q.1))
          else none
        | none => none
      | none => none
    | _ => none
  | .fieldAddr s x j => match P.underlying s with
    | some (.struct fs) => match fs[j]? with
      | some f => match P.info? f.type with
        | some _ => if P.cellsOf f.type ≠ 0 then some (.fldA f.offset (opd P 0 x)) else none
        | none => none
      | none => none
    | _ => none
  | .indexAddr t x i => match P.underlying t with
    | some (.slice e) => match P.info? e with
      | some _ => some (.ixA (P.cellsOf e) (opd P t x) (opd P 0 i))
      | none => none
    | some (.array n e) => match P.info? e with
      | some _ => some (.ixArr (P.cellsOf e) n (opd P 0 x) (opd P 0 i))
      | none => none
    | _ => none
  | .build t parts => match P.info? t, placeOf P t with
    | some i, some place => match i.zero with
      | some z => match constL P (flatTys P 8 t) z.cells.toList, partsL P t place parts.toList with
        | some zs, some ps => some (.build zs ps)
        | _, _ => none
      | none => none
    | _, _ => none
  | .field s x j => match P.underlying s with
    | some (.struct fs) => match fs[j]? with
      | some f => match P.underlying f.type, P.info? f.type with
        | some _, some _ => if isAggT P f.type || P.cellsOf f.type == 1 then some (.fld (isAggT P f.type) f.offset (P.cellsOf f.type) (opd P s x)) else none
        | _, _ => none
      | none => none
    | _ => none
  | .index t x i => match P.underlying t with
    | some (.array n e) => match P.underlying e, P.info? e with
      | some _, some _ => if isAggT P e || P.cellsOf e == 1 then some (.ixV (isAggT P e) (P.cellsOf e) n (opd P t x) (opd P 0 i)) else none
      | _, _ => none
    | some .string => some (.ixS (opd P t x) (opd P 0 i))
    | _ => none
  | .slice t x lo hi mx => match P.underlying t with
    | some (.slice e) => match P.info? e with
      | some _ => some (.slc (P.cellsOf e) (opd P t x) (lo.map (opd P 0)) (hi.map (opd P 0)) (mx.map (opd P 0)))
      | none => none
    | some .string => match mx with
      | none => some (.slcS (opd P t x) (lo.map (opd P 0)) (hi.map (opd P 0)))
      | some _ => none
    | _ => none
  | .range t x => match P.underlying t with
    | some .string => some (.fx (.rngS (opd P t x)))
    | _ => none
  | .next x b => if b then some (.fx (.nextS (opd P 0 x))) else none
  | .makeMap _ none => some .mkMap
  | .insert t m k v => compIns P t m k v
  | .lookup t m k false => compLook P t m k
  | .lookup t m k true => compLookS P t m k
  | .panic _ => some .bad
  | .makeInterface _ _ => some .bad
  | .extract x i => some (.ext (opd P 0 x) i)
  | .call c => match c.callee with
    | .builtin .len => match c.args.toList, c.argTypes[0]? with
      | [x], some t => match P.underlying t with
        | some (.slice _) => some (.len (opd P t x))
        | some .string => some (.lenS (opd P t x))
        | _ => none
      | _, _ => none
    | .builtin .append => compApp P c.args.toList c.argTypes.toList
    | .builtin .max => some (.maxs ((c.args.toList.zipIdx).map fun q => opd P (c.argTypes.toList.getD q.2 0) q.1))
    | .builtin .min => some (.mins ((c.args.toList.zipIdx).map fun q => opd P (c.argTypes.toList.getD q.2 0) q.1))
    | .value f => compCall P (opd P 0 f) ((c.args.toList.zipIdx).map fun q => opd P (c.argTypes.toList.getD q.2 0) q.1)
    | _ => none
  | _ => none
theorem opds_okD (P : Program) (d : TypeId) : ∀ (ts : List TypeId) (xs : List Operand), OpdsOk xs ((xs.zipIdx).map fun q => opd P (ts.getD q.2 d) q.1) := by
  intro ts xs
  suffices ∀ (xs : List Operand) (k : Nat), OpdsOk xs ((xs.zipIdx k).map fun q => opd P (ts.getD q.2 d) q.1) from this xs 0
  intro xs
  induction xs with
  | nil => intro k; exact .nil
  | cons x xs ih => intro k; exact .cons (opd_ok P _ x) (ih (k + 1))
theorem comp_ok {P : Program} {ty : TypeId} {op : Op} {io : Ins} (h : comp P ty op = some io) : Comp P op io := by
  cases op <;> simp only [comp] at h
  case move x => cases h; exact .move (opd_ok ..)
  case assign x => cases h; exact .assign (opd_ok ..)
  case pick c a b => cases h; exact .pick (opd_ok ..) (opd_ok ..) (opd_ok ..)
  case alloc t =>
    split at h
    · split at h
      · split at h
        · rename_i e
          cases h; exact .alloc ‹_› ‹_› _ fun h => constL_rel P h _ _ _ e
        · cases h
      · cases h
    · cases h
  case box t x => cases h; exact .box (opd_ok ..)
  case makeSlice t x y => exact compMk_ok h
  case load t x =>
    split at h
    · split at h
      · rename_i hc
        cases h
        exact .load ‹_› ‹_› (fun e => by simpa [e] using hc) (opd_ok ..)
      · cases h
    · cases h
  case store t a x =>
    split at h
    · cases h; exact .store ‹_› (opd_ok ..) (opd_ok ..)
    · cases h
  case binOp op t x y yt => exact compBin_ok h
  case unOp op t x => cases h; exact .un (opd_ok ..)
  case convert s d x => exact compCvt_ok h
  case makeFunc fn first caps =>
    split at h
    · split at h
      · rename_i hs
        cases h
        obtain rfl : first = #[] := Array.eq_empty_of_size_eq_zero hs
        exact .mkFn (opds_okD P 0 [] _)
      · cases h
    · cases h
  case buildSlice t n parts =>
    split at h
    · split at h
      · split at h
        · split at h
          · rename_i hc
            cases h
            obtain ⟨h1, h2, h3, h4, h5⟩ := hc
            refine .bsl ‹_› ‹_› h1 h2 (opds_okD P _ [] _) h3 h4 _ ‹_› h5 _ fun k hk => ?_
            split at hk
            · split at hk
              · cases hk; exact ⟨‹_›, ‹_›⟩
              · cases hk
            · cases hk
          · cases h
        · cases h
      · cases h
    · cases h
  case fieldAddr s x j =>
    split at h
    · split at h
      · split at h
        · split at h
          · cases h; exact .fldA ‹_› ‹_› ‹_› ‹_› (opd_ok ..)
          · cases h
        · cases h
      · cases h
    · cases h
  case indexAddr t x i =>
    split at h
    · split at h
      · cases h; exact .ixA ‹_› ‹_› (opd_ok ..) (opd_ok ..)
      · cases h
    · split at h
      · cases h; exact .ixArr ‹_› ‹_› (opd_ok ..) (opd_ok ..)
      · cases h
    · cases h
  case build t parts =>
    split at h
    · split at h
      · split at h
        · rename_i e1 e2
          cases h
          exact .build ‹_› ‹_› _ (fun h => constL_rel P h _ _ _ e1) (placeOf_ok ‹_›) (partsL_ok e2)
        · cases h
      · cases h
    · cases h
  case field s x j =>
    split at h
    · split at h
      · split at h
        · split at h
          · rename_i hc
            cases h
            exact .fld ‹_› ‹_› ‹_› ‹_› (fun e => by simpa [e] using hc) (opd_ok ..)
          · cases h
        · cases h
      · cases h
    · cases h
  case index t x i =>
    split at h
    · split at h
      · split at h
        · rename_i hc
          cases h
          exact .ixV ‹_› ‹_› ‹_› (fun e => by simpa [e] using hc) (opd_ok ..) (opd_ok ..)
        · cases h
      · cases h
    · cases h; exact .ixS ‹_› (opd_ok ..) (opd_ok ..)
    · cases h
  case slice t x lo hi mx =>
    split at h
    · split at h
      · cases h; exact .slc ‹_› ‹_› (opd_ok ..) (opt_ok ..) (opt_ok ..) (opt_ok ..)
      · cases h
    · split at h
      · cases h; exact .slcS ‹_› (opd_ok ..) (opt_ok ..) (opt_ok ..)
      · cases h
    · cases h
  case range t x =>
    split at h
    · cases h; exact .rngS ‹_› (opd_ok ..)
    · cases h
  case next x b =>
    split at h
    · rename_i hb
      cases h
      subst hb
      exact .nextS (opd_ok ..)
    · cases h
  case panic x => cases h; exact .panic
  case makeMap t r =>
    cases r with
    | none => simp only at h; cases h; exact .mkMap
    | some r => simp only at h; cases h
  case insert t m k v => exact compIns_ok h
  case lookup t m k ok =>
    cases ok with
    | false => exact compLook_ok h
    | true => exact compLookS_ok h
  case makeInterface t x => cases h; exact .mkI
  case extract x i => cases h; exact .ext (opd_ok ..)
  case call c =>
    obtain ⟨callee, args, argTypes⟩ := c
    dsimp only at h
    split at h
    · split at h
      · split at h
        · cases h
          rename_i x t hx _ _ _ _
          obtain rfl : args = #[x] := by
            apply Array.ext'
            exact hx
          exact .len ‹_› ‹_› (opd_ok ..)
        · cases h
          rename_i x t hx _ _ _
          obtain rfl : args = #[x] := by
            apply Array.ext'
            exact hx
          exact .lenS ‹_› ‹_› (opd_ok ..)
        · cases h
      · cases h
    · exact compApp_ok h
    · cases h; exact .maxs (opds_okD P 0 _ _)
    · cases h; exact .mins (opds_okD P 0 _ _)
    · exact compCall_ok h (opd_ok ..) (opds_okD P 0 _ _)
    · cases h
  all_goals cases h
end Go.Fx
