/-
  Fx, part 1: values that persist (PV), symbolic values (SV), a function's own blocks (OB), and what they mean in a world.
-/
import Derived.RangeFuncIn
import Derived.RangeFuncRecord
import Derived.RangeFuncSeq
import Derived.RangeFuncLeaves
import Derived.Laws.Sem
namespace Go.Fx
/-- A value that nobody changes any more: slices are plain lists. -/
inductive PV where
  | int (k : IntKind) (n : Int)
  | bool (b : Bool)
  | str (l : List Int)
  | isl (nil ex : Bool) (k : IntKind) (l : List Int)
  | sl (nil ex : Bool) (w : Nat) (es : List PV)
  | iref (k : IntKind) (l : List Int) (i : Nat)
  | elt (w : Nat) (es : List PV) (i o : Nat)
  | ref (off : Nat) (cs : List PV)
  | fn (f : FuncId) (caps : List PV)
  | nilSl | nilFn | nilIface | nilPtr | nilMap
  | ifc (t : TypeId) (x : PV)
  | agg (cs : List PV)
  | tup (vs : List PV)
  deriving Inhabited
abbrev Heap := Nat → Option Obj
def Heap.le (h h' : Heap) : Prop := ∀ b o, h b = some o → h' b = some o
instance : LE Heap := ⟨Heap.le⟩
theorem Heap.le_refl (h : Heap) : h ≤ h := fun _ _ x => x
theorem Heap.le_trans {a b c : Heap} (h : a ≤ b) (h' : b ≤ c) : a ≤ c := fun x o y => h' x o (h x o y)
/-- The values vs lie in block b, from the place o on. -/
def CellsAt (h : Heap) (b o : Nat) (vs : List Value) : Prop :=
  ∀ j v, vs[j]? = some v → ∃ c ty fz, h b = some (.cells c ty fz) ∧ c[o + j]? = some v
/-- Of cells alone. -/
def Heap.cle (h h' : Heap) : Prop := ∀ b c ty fz, h b = some (.cells c ty fz) → h' b = some (.cells c ty fz)
theorem Heap.cle_of {h h' : Heap} (hh : h ≤ h') : Heap.cle h h' := fun _ _ _ _ e => hh _ _ e
theorem CellsAt.cm {h h' : Heap} (hh : Heap.cle h h') {b o vs} (x : CellsAt h b o vs) : CellsAt h' b o vs := fun j v e => by
  obtain ⟨c, ty, fz, h1, h2⟩ := x j v e
  exact ⟨c, ty, fz, hh _ _ _ _ h1, h2⟩
theorem CellsAt.mono {h h' : Heap} (hh : h ≤ h') {b o vs} (x : CellsAt h b o vs) : CellsAt h' b o vs := x.cm (Heap.cle_of hh)
def strBytes (l : List Int) : List UInt8 := l.map fun n => UInt8.ofNat n.toNat
/-- A text's bytes, as the model has them. -/
def textOf (l : List Int) : ByteArray := ⟨(strBytes l).toArray⟩
theorem textOf_eq (s : ByteArray) : textOf (s.data.toList.map fun b => (b.toNat : Int)) = s := by
  cases s with
  | mk d =>
    simp only [textOf, strBytes, List.map_map]
    congr 1
    apply Array.ext'
    simp only
    rw [show ((fun n : Int => UInt8.ofNat n.toNat) ∘ fun b : UInt8 => (b.toNat : Int)) = id from by funext b; simp]
    simp
/-- What is next in a text: the sign's number, and how many bytes it has. -/
def runeAt (l : List Int) (pos : Nat) : Int := ((Utf8.decode (textOf l) pos).1 : Int)
/-- A sign's bytes. -/
def signB (n : Int) : List Int := (Utf8.encode n).data.toList.map fun b => (b.toNat : Int)
theorem signB_ascii {n : Int} (h0 : 0 ≤ n) (h1 : n < 128) : signB n = [n] := by
  have hv : Utf8.valid n = true := by
    unfold Utf8.valid
    simp only [Bool.or_eq_true, Bool.and_eq_true, decide_eq_true_eq]
    omega
  unfold signB Utf8.encode
  simp only [hv, if_true]
  rw [if_pos (by omega)]
  show [((UInt8.ofNat n.toNat).toNat : Int)] = [n]
  simp
  omega
def runeLen (l : List Int) (pos : Nat) : Nat := (Utf8.decode (textOf l) pos).2
mutual
def PV.rel (h : Heap) : PV → Value → Prop
  | .int k n, v => v = .int k n
  | .bool b, v => v = .bool b
  | .str l, v => ∃ s : ByteArray, v = .string s ∧ l = s.data.toList.map fun b => (b.toNat : Int)
  | .isl nil ex k l, v => ∃ a cap, v = .slice a l.length cap ∧ l.length ≤ cap ∧ (ex = true → cap = l.length) ∧ (nil = true ↔ a = none) ∧ (a = none → cap = 0) ∧
      ∀ ad, a = some ad → (0 < cap → ad.spot = none) ∧ CellsAt h ad.block ad.off (l.map (Value.int k))
  | .sl nil ex w es, v => ∃ a cap, v = .slice a es.length cap ∧ es.length ≤ cap ∧ (ex = true → cap = es.length) ∧ (nil = true ↔ a = none) ∧ (a = none → cap = 0) ∧
      ∃ vs, PV.relE h w es vs ∧ ∀ ad, a = some ad → (0 < cap → ad.spot = none) ∧ CellsAt h ad.block ad.off vs
  | .iref k l i, v => ∃ b o, v = .pointer (some ⟨b, o + i, none⟩) ∧ CellsAt h b o (l.map (Value.int k))
  | .elt w es i o, v => ∃ b o0, v = .pointer (some ⟨b, o0 + i * w + o, none⟩) ∧ ∃ vs, PV.relE h w es vs ∧ CellsAt h b o0 vs
  | .ref off cs, v => ∃ b, v = .pointer (some ⟨b, off, none⟩) ∧ ∃ vs, PV.relL h cs vs ∧ CellsAt h b 0 vs
  | .fn f caps, v => ∃ vs : List Value, v = .func (.func f) #[] vs.toArray ∧ PV.relL h caps vs
  | .nilSl, v => v = .slice none 0 0
  | .nilFn, v => v = .nilFunc
  | .nilIface, v => v = .nilIface
  | .nilPtr, v => v = .pointer none
  | .nilMap, v => v = .map none
  | .ifc t x, v => ∃ u, v = .iface t u ∧ PV.rel h x u
  | .agg cs, v => ∃ vs : List Value, v = .agg vs.toArray ∧ PV.relL h cs vs
  | .tup cs, v => ∃ vs : List Value, v = .tuple vs.toArray ∧ PV.relL h cs vs
def PV.relL (h : Heap) : List PV → List Value → Prop
  | [], vs => vs = []
  | x :: xs, vs => ∃ v vs', vs = v :: vs' ∧ PV.rel h x v ∧ PV.relL h xs vs'
def PV.relE (h : Heap) (w : Nat) : List PV → List Value → Prop
  | [], vs => vs = []
  | x :: xs, vs => ∃ u vs', vs = u.cells.toList ++ vs' ∧ u.cells.size = w ∧ PV.rel h x u ∧ PV.relE h w xs vs'
end
/-- A symbolic value: a persistent one, or one that names an own block by its number. -/
inductive SV where
  | p (x : PV)
  | row (id : Nat)
  | ptr (id off : Nat)
  | rptr (id w i o : Nat)
  | mp (id : Nat)
  | agg (cs : List SV)
  | tup (vs : List SV)
  | fn (f : FuncId) (caps : List SV)
  | cnd (b : Bool) (x : SV)
  | any
  deriving Inhabited
abbrev Env := List Value
mutual
def SV.rel (ρ : Env) (h : Heap) : SV → Value → Prop
  | .p x, v => x.rel h v
  | .row id, v => ρ[id]? = some v ∧ v.oneCell' = true
  | .ptr id off, v => ∃ b, ρ[id]? = some (.pointer (some ⟨b, 0, none⟩)) ∧ v = .pointer (some ⟨b, off, none⟩)
  | .rptr id w i o, v => ∃ b len cap, ρ[id]? = some (.slice (some ⟨b, 0, none⟩) len cap) ∧ v = .pointer (some ⟨b, i * w + o, none⟩)
  | .mp id, v => ρ[id]? = some v ∧ v.oneCell' = true
  | .agg cs, v => ∃ vs : List Value, v = .agg vs.toArray ∧ SV.relL ρ h cs vs
  | .tup cs, v => ∃ vs : List Value, v = .tuple vs.toArray ∧ SV.relL ρ h cs vs
  | .fn f cs, v => ∃ vs : List Value, v = .func (.func f) #[] vs.toArray ∧ SV.relL ρ h cs vs
  | .cnd b x, v => (b = true → SV.rel ρ h x v) ∧ (b = false → v = undef)
  | .any, _ => True
def SV.relL (ρ : Env) (h : Heap) : List SV → List Value → Prop
  | [], vs => vs = []
  | x :: xs, vs => ∃ v vs', vs = v :: vs' ∧ SV.rel ρ h x v ∧ SV.relL ρ h xs vs'
end
/-- A function's own block. -/
inductive OB where
  | box (ty : TypeId) (cs : List SV)
  | irow (ty : TypeId) (k : IntKind) (nil ex : Bool) (l : List Int)
  | row (ty : TypeId) (w : Nat) (nil ex : Bool) (es : List PV)
  | fro (x : PV)
  | map (es : List (PV × SV))
  | iter (s : List Int) (pos : Nat)
  | gone
  deriving Inhabited
mutual
theorem PV.rel_cm {h h' : Heap} (hh : Heap.cle h h') : ∀ (x : PV) (v : Value), x.rel h v → x.rel h' v
  | .int _ _, _, e => e
  | .bool _, _, e => e
  | .str _, _, e => e
  | .isl _ _ _ _, _, ⟨a, cap, h1, h2, h3, h4, h5, h6⟩ => ⟨a, cap, h1, h2, h3, h4, h5, fun ad e => ⟨(h6 ad e).1, (h6 ad e).2.cm hh⟩⟩
  | .sl _ _ w es, _, ⟨a, cap, h1, h2, h3, h4, h5, vs, h6, h7⟩ => ⟨a, cap, h1, h2, h3, h4, h5, vs, PV.relE_cm hh w es vs h6, fun ad e => ⟨(h7 ad e).1, (h7 ad e).2.cm hh⟩⟩
  | .iref _ _ _, _, ⟨b, o, h1, h2⟩ => ⟨b, o, h1, h2.cm hh⟩
  | .elt w es _ _, _, ⟨b, o, h1, vs, h2, h3⟩ => ⟨b, o, h1, vs, PV.relE_cm hh w es vs h2, h3.cm hh⟩
  | .ref _ cs, _, ⟨b, h1, vs, h2, h3⟩ => ⟨b, h1, vs, PV.relL_cm hh cs vs h2, h3.cm hh⟩
  | .fn _ cs, _, ⟨vs, h1, h2⟩ => ⟨vs, h1, PV.relL_cm hh cs vs h2⟩
  | .nilSl, _, e => e
  | .nilFn, _, e => e
  | .nilIface, _, e => e
  | .nilPtr, _, e => e
  | .nilMap, _, e => e
  | .ifc _ x, _, ⟨u, h1, h2⟩ => ⟨u, h1, PV.rel_cm hh x u h2⟩
  | .agg cs, _, ⟨vs, h1, h2⟩ => ⟨vs, h1, PV.relL_cm hh cs vs h2⟩
  | .tup cs, _, ⟨vs, h1, h2⟩ => ⟨vs, h1, PV.relL_cm hh cs vs h2⟩
theorem PV.relL_cm {h h' : Heap} (hh : Heap.cle h h') : ∀ (x : List PV) (v : List Value), PV.relL h x v → PV.relL h' x v
  | [], _, e => e
  | x :: xs, _, ⟨v, vs', h1, h2, h3⟩ => ⟨v, vs', h1, PV.rel_cm hh x v h2, PV.relL_cm hh xs vs' h3⟩
theorem PV.relE_cm {h h' : Heap} (hh : Heap.cle h h') (w : Nat) : ∀ (x : List PV) (v : List Value), PV.relE h w x v → PV.relE h' w x v
  | [], _, e => e
  | x :: xs, _, ⟨v, vs', h1, h2, h3, h4⟩ => ⟨v, vs', h1, h2, PV.rel_cm hh x v h3, PV.relE_cm hh w xs vs' h4⟩
end
theorem PV.rel_mono {h h' : Heap} (hh : h ≤ h') (x : PV) (v : Value) : x.rel h v → x.rel h' v := PV.rel_cm (Heap.cle_of hh) x v
theorem PV.relL_mono {h h' : Heap} (hh : h ≤ h') (x : List PV) (v : List Value) : PV.relL h x v → PV.relL h' x v := PV.relL_cm (Heap.cle_of hh) x v
theorem PV.relE_mono {h h' : Heap} (hh : h ≤ h') (w : Nat) (x : List PV) (v : List Value) : PV.relE h w x v → PV.relE h' w x v := PV.relE_cm (Heap.cle_of hh) w x v
def Env.le (ρ ρ' : Env) : Prop := ∀ (i : Nat) (v : Value), ρ[i]? = some v → ρ'[i]? = some v
theorem Env.le_refl (ρ : Env) : Env.le ρ ρ := fun _ _ x => x
theorem Env.le_trans {a b c : Env} (h : Env.le a b) (h' : Env.le b c) : Env.le a c := fun x o y => h' x o (h x o y)
theorem Env.le_snoc (ρ : Env) (v : Value) : Env.le ρ (ρ ++ [v]) := fun i u e => by
  have := (List.getElem?_eq_some_iff.1 e).1
  rw [List.getElem?_append_left this]; exact e
mutual
theorem SV.rel_cm {ρ ρ' : Env} {h h' : Heap} (hr : Env.le ρ ρ') (hh : Heap.cle h h') : ∀ (x : SV) (v : Value), x.rel ρ h v → x.rel ρ' h' v
  | .p x, v, e => PV.rel_cm hh x v e
  | .row _, _, e => ⟨hr _ _ e.1, e.2⟩
  | .ptr _ _, _, ⟨b, h1, h2⟩ => ⟨b, hr _ _ h1, h2⟩
  | .rptr _ _ _ _, _, ⟨b, len, cap, h1, h2⟩ => ⟨b, len, cap, hr _ _ h1, h2⟩
  | .mp _, _, e => ⟨hr _ _ e.1, e.2⟩
  | .agg cs, _, ⟨vs, h1, h2⟩ => ⟨vs, h1, SV.relL_cm hr hh cs vs h2⟩
  | .tup cs, _, ⟨vs, h1, h2⟩ => ⟨vs, h1, SV.relL_cm hr hh cs vs h2⟩
  | .fn _ cs, _, ⟨vs, h1, h2⟩ => ⟨vs, h1, SV.relL_cm hr hh cs vs h2⟩
  | .cnd _ x, v, e => ⟨fun hb => SV.rel_cm hr hh x v (e.1 hb), e.2⟩
  | .any, _, _ => trivial
theorem SV.relL_cm {ρ ρ' : Env} {h h' : Heap} (hr : Env.le ρ ρ') (hh : Heap.cle h h') : ∀ (x : List SV) (v : List Value), SV.relL ρ h x v → SV.relL ρ' h' x v
  | [], _, e => e
  | x :: xs, _, ⟨v, vs', h1, h2, h3⟩ => ⟨v, vs', h1, SV.rel_cm hr hh x v h2, SV.relL_cm hr hh xs vs' h3⟩
end
theorem SV.rel_mono {ρ ρ' : Env} {h h' : Heap} (hr : Env.le ρ ρ') (hh : h ≤ h') (x : SV) (v : Value) : x.rel ρ h v → x.rel ρ' h' v := SV.rel_cm hr (Heap.cle_of hh) x v
theorem SV.relL_mono {ρ ρ' : Env} {h h' : Heap} (hr : Env.le ρ ρ') (hh : h ≤ h') (x : List SV) (v : List Value) : SV.relL ρ h x v → SV.relL ρ' h' x v := SV.relL_cm hr (Heap.cle_of hh) x v
/-- The block that an entry owns. -/
def OB.fp : OB → Value → Option Nat
  | .box _ _, .pointer (some a) => some a.block
  | .irow .., .slice (some a) _ _ => some a.block
  | .row .., .slice (some a) _ _ => some a.block
  | .map _, .map (some r) => some r
  | .iter .., .pointer (some a) => some a.block
  | _, _ => none
def relEntries (ρ : Env) (h : Heap) : List (PV × SV) → List MapEntry → Prop
  | [], es => es = []
  | (k, x) :: xs, es => ∃ e es', es = e :: es' ∧ k.rel h e.key ∧ x.rel ρ h e.val ∧ relEntries ρ h xs es'
/-- What an entry says of its value, and of the world. -/
def OB.sat (ρ : Env) (h : Heap) (w : World) : OB → Value → Prop
  | .box ty cs, v => ∃ b c, v = .pointer (some ⟨b, 0, none⟩) ∧ w.heap[b]? = some (.cells c ty (0, 0)) ∧ SV.relL ρ h cs c.toList
  | .irow ty k nil ex l, v => (nil = true ∧ l = [] ∧ v = .slice none 0 0) ∨ (nil = false ∧ ∃ b c cap, v = .slice (some ⟨b, 0, none⟩) l.length cap ∧ l.length ≤ cap ∧ (ex = true → cap = l.length) ∧
      w.heap[b]? = some (.cells c ty (0, 0)) ∧ c.size = cap ∧ ∀ j, j < l.length → c[j]? = some (.int k (l.getD j 0)))
  | .row ty wd nil ex es, v => (nil = true ∧ es = [] ∧ v = .slice none 0 0) ∨ (nil = false ∧ ∃ b c cap vs, v = .slice (some ⟨b, 0, none⟩) es.length cap ∧ es.length ≤ cap ∧ (ex = true → cap = es.length) ∧
      w.heap[b]? = some (.cells c ty (0, 0)) ∧ c.size = cap * wd ∧ PV.relE h wd es vs ∧ ∀ (j : Nat) (v : Value), vs[j]? = some v → c[j]? = some v)
  | .fro x, v => x.rel h v
  | .map es, v => ∃ r ms clock, v = .map (some r) ∧ w.heap[r]? = some (.map ms clock) ∧ relEntries ρ h es ms.toList
  | .iter s pos, v => ∃ b, v = .pointer (some ⟨b, 0, none⟩) ∧ w.heap[b]? = some (.stringIter (textOf s) pos) ∧ (textOf s).size = s.length
  | .gone, _ => True
theorem relEntries_cm {ρ ρ' : Env} {h h' : Heap} (hr : Env.le ρ ρ') (hh : Heap.cle h h') : ∀ (x : List (PV × SV)) (v : List MapEntry), relEntries ρ h x v → relEntries ρ' h' x v
  | [], _, e => e
  | (k, x) :: xs, _, ⟨v, vs', h1, h2, h3, h4⟩ => ⟨v, vs', h1, PV.rel_cm hh k _ h2, SV.rel_cm hr hh x _ h3, relEntries_cm hr hh xs vs' h4⟩
/-- An entry stays true where its own block stays. -/
theorem OB.sat_cm {ρ ρ' : Env} {h h' : Heap} {w w' : World} (hr : Env.le ρ ρ') (hh : Heap.cle h h') {ob : OB} {v : Value} (hs : ob.sat ρ h w v)
    (hk : ∀ b, ob.fp v = some b → w'.heap[b]? = w.heap[b]?) : ob.sat ρ' h' w' v := by
  cases ob with
  | box ty cs =>
    obtain ⟨b, c, rfl, h1, h2⟩ := hs
    exact ⟨b, c, rfl, by rw [hk b rfl]; exact h1, SV.relL_cm hr hh _ _ h2⟩
  | irow ty k nil ex l =>
    rcases hs with hs | ⟨hn, b, c, cap, rfl, h1, h2, h3, h4, h5⟩
    · exact .inl hs
    · exact .inr ⟨hn, b, c, cap, rfl, h1, h2, by rw [hk b rfl]; exact h3, h4, h5⟩
  | row ty wd nil ex es =>
    rcases hs with hs | ⟨hn, b, c, cap, vs, rfl, h1, h2, h3, h4, h5, h6⟩
    · exact .inl hs
    · exact .inr ⟨hn, b, c, cap, vs, rfl, h1, h2, by rw [hk b rfl]; exact h3, h4, PV.relE_cm hh _ _ _ h5, h6⟩
  | fro x => exact PV.rel_cm hh x v (show x.rel h v from hs)
  | map es =>
    obtain ⟨r, ms, clock, rfl, h1, h2⟩ := hs
    exact ⟨r, ms, clock, rfl, by rw [hk r rfl]; exact h1, relEntries_cm hr hh _ _ h2⟩
  | iter s pos =>
    obtain ⟨b, rfl, h1, h2⟩ := hs
    exact ⟨b, rfl, by rw [hk b rfl]; exact h1, h2⟩
  | gone => trivial
theorem relEntries_mono {ρ ρ' : Env} {h h' : Heap} (hr : Env.le ρ ρ') (hh : h ≤ h') (x : List (PV × SV)) (v : List MapEntry) : relEntries ρ h x v → relEntries ρ' h' x v := relEntries_cm hr (Heap.cle_of hh) x v
theorem OB.sat_mono {ρ ρ' : Env} {h h' : Heap} {w w' : World} (hr : Env.le ρ ρ') (hh : h ≤ h') {ob : OB} {v : Value} (hs : ob.sat ρ h w v)
    (hk : ∀ b, ob.fp v = some b → w'.heap[b]? = w.heap[b]?) : ob.sat ρ' h' w' v := OB.sat_cm hr (Heap.cle_of hh) hs hk
/-- Where a function began: its world, the persistent part, the blocks that it may write. -/
structure Base where
  w0 : World
  h0 : Heap
  F0 : Nat → Prop
/-- What is outside memory has not turned. -/
def Out (w w' : World) : Prop := w'.os = w.os ∧ w'.output = w.output
structure Sat (B : Base) (ρ : Env) (h : Heap) (own : List OB) (w : World) : Prop where
  len : ρ.length = own.length
  sub : ∀ b o, h b = some o → w.heap[b]? = some o
  ent : ∀ (i : Nat) ob v, own[i]? = some ob → ρ[i]? = some v → ob.sat ρ h w v
  nodup : ∀ (i j : Nat) ob ob' v v' b, own[i]? = some ob → ρ[i]? = some v → own[j]? = some ob' → ρ[j]? = some v' → ob.fp v = some b → ob'.fp v' = some b → i = j
  apart : ∀ (i : Nat) ob v b, own[i]? = some ob → ρ[i]? = some v → ob.fp v = some b → h b = none
  size : B.w0.heap.size ≤ w.heap.size
  keep : ∀ b, b < B.w0.heap.size → ¬ B.F0 b → w.heap[b]? = B.w0.heap[b]?
  old : ∀ b, b < B.w0.heap.size → ¬ B.F0 b → h b = B.h0 b
  mine : ∀ (i : Nat) ob v b, own[i]? = some ob → ρ[i]? = some v → ob.fp v = some b → B.F0 b ∨ B.w0.heap.size ≤ b
  outer : Out B.w0 w
theorem OB.fp_lt {ρ : Env} {h : Heap} {w : World} {ob : OB} {v : Value} {b : Nat} (hs : ob.sat ρ h w v) (hb : ob.fp v = some b) : b < w.heap.size := by
  have key : ∀ {b' : Nat} {o : Obj}, w.heap[b']? = some o → b' < w.heap.size := fun h => (Array.getElem?_eq_some_iff.1 h).1
  cases ob with
  | box ty cs => obtain ⟨b', c, rfl, h1, h2⟩ := hs; cases hb; exact key h1
  | irow ty k nil ex l =>
    rcases hs with ⟨_, _, rfl⟩ | ⟨hn, b', c, cap, rfl, h1, h2, h3, h4, h5⟩
    · cases hb
    · cases hb; exact key h3
  | row ty wd nil ex es =>
    rcases hs with ⟨_, _, rfl⟩ | ⟨hn, b', c, cap, vs, rfl, h1, h2, h3, h4, h5, h6⟩
    · cases hb
    · cases hb; exact key h3
  | fro x => cases v <;> cases hb
  | map es => obtain ⟨r, ms, clock, rfl, h1, h2⟩ := hs; cases hb; exact key h1
  | iter s pos => obtain ⟨b', rfl, h1, h2⟩ := hs; cases hb; exact key h1
  | gone => cases v <;> cases hb
end Go.Fx
