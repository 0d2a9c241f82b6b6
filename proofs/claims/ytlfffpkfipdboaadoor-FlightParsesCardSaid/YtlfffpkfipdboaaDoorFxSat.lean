/-
  Fx, part 2: how the own blocks and the persistent part go on as a function works.
-/
import Derived.Test.YtlfffpkfipdboaaDoorFxBase
import Derived.Laws.World
namespace Go.Fx
def full (w : World) : Heap := fun b => w.heap[b]?
def grow (h : Heap) (w w' : World) : Heap := fun b => if b < w.heap.size then h b else w'.heap[b]?
theorem le_grow {h : Heap} {w : World} (hs : h ≤ full w) (w' : World) : h ≤ grow h w w' := fun b o e => by
  have : b < w.heap.size := (Array.getElem?_eq_some_iff.1 (hs b o e)).1
  simp [grow, this, e]
theorem Out.trans {a b c : World} (h : Out a b) (h2 : Out b c) : Out a c := ⟨h2.1.trans h.1, h2.2.trans h.2⟩
theorem Out.refl {a : World} : Out a a := ⟨rfl, rfl⟩
theorem Sat.heap {B : Base} {ρ : Env} {h : Heap} {own : List OB} {w w' : World} (s : Sat B ρ h own w) (e : w'.heap = w.heap) (eo : Out w w') : Sat B ρ h own w' := by
  have e' : ∀ b : Nat, w'.heap[b]? = w.heap[b]? := fun b => by rw [e]
  exact {
    len := s.len
    sub := fun b o x => by rw [e']; exact s.sub b o x
    ent := fun i ob v h1 h2 => OB.sat_mono (Env.le_refl _) (Heap.le_refl _) (s.ent i ob v h1 h2) fun b _ => e' b
    nodup := s.nodup
    apart := s.apart
    size := by rw [e]; exact s.size
    keep := fun b h1 h2 => by rw [e']; exact s.keep b h1 h2
    old := s.old
    mine := s.mine
    outer := s.outer.trans eo }
theorem Sat.subFull {B : Base} {ρ : Env} {h : Heap} {own : List OB} {w : World} (s : Sat B ρ h own w) : h ≤ full w := s.sub
/-- A new entry over a block that nobody owns. -/
theorem Sat.add {B : Base} {ρ : Env} {h : Heap} {own : List OB} {w : World} (s : Sat B ρ h own w) {ob : OB} {v : Value} (hs : ob.sat (ρ ++ [v]) h w v)
    (hn : ∀ b, ob.fp v = some b → (∀ (i : Nat) ob' v', own[i]? = some ob' → ρ[i]? = some v' → ob'.fp v' ≠ some b) ∧ h b = none ∧ (B.F0 b ∨ B.w0.heap.size ≤ b)) :
    Sat B (ρ ++ [v]) h (own ++ [ob]) w := by
  have key : ∀ (i : Nat) ob' v', (own ++ [ob])[i]? = some ob' → (ρ ++ [v])[i]? = some v' → (own[i]? = some ob' ∧ ρ[i]? = some v') ∨ (i = own.length ∧ ob' = ob ∧ v' = v) := by
    intro i ob' v' h1 h2
    rcases Nat.lt_trichotomy i own.length with hl | hl | hl
    · rw [List.getElem?_append_left hl] at h1
      rw [List.getElem?_append_left (by rw [s.len]; exact hl)] at h2
      exact .inl ⟨h1, h2⟩
    · subst hl
      rw [← s.len] at h2
      simp at h1 h2
      exact .inr ⟨rfl, h1.symm, h2.symm⟩
    · rw [List.getElem?_eq_none (by simp; omega)] at h1; cases h1
  exact {
    len := by simp [s.len]
    sub := s.sub
    ent := fun i ob' v' h1 h2 => by
      rcases key i ob' v' h1 h2 with ⟨a, b⟩ | ⟨_, rfl, rfl⟩
      · exact OB.sat_mono (Env.le_snoc _ _) (Heap.le_refl _) (s.ent i ob' v' a b) fun _ _ => rfl
      · exact hs
    nodup := fun i j ob1 ob2 v1 v2 b h1 h2 h3 h4 h5 h6 => by
      rcases key i ob1 v1 h1 h2 with ⟨a, a'⟩ | ⟨rfl, rfl, rfl⟩ <;> rcases key j ob2 v2 h3 h4 with ⟨c, c'⟩ | ⟨rfl, rfl, rfl⟩
      · exact s.nodup i j ob1 ob2 v1 v2 b a a' c c' h5 h6
      · exact absurd h5 ((hn b h6).1 i ob1 v1 a a')
      · exact absurd h6 ((hn b h5).1 j ob2 v2 c c')
      · rfl
    apart := fun i ob' v' b h1 h2 h3 => by
      rcases key i ob' v' h1 h2 with ⟨a, a'⟩ | ⟨rfl, rfl, rfl⟩
      · exact s.apart i ob' v' b a a' h3
      · exact (hn b h3).2.1
    size := s.size
    keep := s.keep
    old := s.old
    outer := s.outer
    mine := fun i ob' v' b h1 h2 h3 => by
      rcases key i ob' v' h1 h2 with ⟨a, a'⟩ | ⟨rfl, rfl, rfl⟩
      · exact s.mine i ob' v' b a a' h3
      · exact (hn b h3).2.2 }
/-- Memory grows by blocks that nobody owns yet. -/
theorem Sat.grown {B : Base} {ρ : Env} {h h' : Heap} {own : List OB} {w w' : World} (s : Sat B ρ h own w) (hz : w.heap.size ≤ w'.heap.size)
    (hk : ∀ b : Nat, b < w.heap.size → w'.heap[b]? = w.heap[b]?) (h1 : ∀ b, b < w.heap.size → h' b = h b) (h2 : ∀ b o, h' b = some o → w'.heap[b]? = some o) (eo : Out w w') : Sat B ρ h' own w' := by
  have hlt : ∀ (i : Nat) ob v b, own[i]? = some ob → ρ[i]? = some v → ob.fp v = some b → b < w.heap.size := fun i ob v b a a' c => OB.fp_lt (s.ent i ob v a a') c
  have hh : h ≤ h' := fun b o e => by
    have := (Array.getElem?_eq_some_iff.1 (s.sub b o e)).1
    rw [h1 b this]; exact e
  exact {
    len := s.len
    sub := h2
    ent := fun i ob v a a' => OB.sat_mono (Env.le_refl _) hh (s.ent i ob v a a') fun b hb => hk b (hlt i ob v b a a' hb)
    nodup := s.nodup
    apart := fun i ob v b a a' c => by rw [h1 b (hlt i ob v b a a' c)]; exact s.apart i ob v b a a' c
    size := Nat.le_trans s.size hz
    keep := fun b hb hF => by rw [hk b (Nat.lt_of_lt_of_le hb s.size)]; exact s.keep b hb hF
    old := fun b hb hF => by rw [h1 b (Nat.lt_of_lt_of_le hb s.size)]; exact s.old b hb hF
    mine := s.mine
    outer := s.outer.trans eo }
theorem Sat.le {B : Base} {ρ : Env} {h h' : Heap} {own : List OB} {w : World} (s : Sat B ρ h own w) (h1 : ∀ b, b < w.heap.size → h' b = h b) : h ≤ h' := fun b o e => by
  have := (Array.getElem?_eq_some_iff.1 (s.sub b o e)).1
  rw [h1 b this]; exact e
theorem push_size (w : World) (o : Obj) : (w.alloc o).heap.size = w.heap.size + 1 := by simp [World.alloc, -World.alloc_eq]
theorem push_old (w : World) (o : Obj) {b : Nat} (hb : b < w.heap.size) : (w.alloc o).heap[b]? = w.heap[b]? := by
  simp only [World.alloc]
  rw [Array.getElem?_push]
  simp [Nat.ne_of_lt hb]
theorem push_new (w : World) (o : Obj) : (w.alloc o).heap[w.heap.size]? = some o := by simp [World.alloc, -World.alloc_eq]
theorem Sat.none_new {B : Base} {ρ : Env} {h : Heap} {own : List OB} {w : World} (s : Sat B ρ h own w) {b : Nat} (hb : w.heap.size ≤ b) : h b = none := by
  cases e : h b with
  | none => rfl
  | some o => have := (Array.getElem?_eq_some_iff.1 (s.sub b o e)).1; omega
/-- A new block, with an entry of its own. -/
theorem Sat.alloc {B : Base} {ρ : Env} {h : Heap} {own : List OB} {w : World} (s : Sat B ρ h own w) {o : Obj} {ob : OB} {v : Value}
    (hs : ob.sat (ρ ++ [v]) h (w.alloc o) v) (hf : ∀ b, ob.fp v = some b → b = w.heap.size) : Sat B (ρ ++ [v]) h (own ++ [ob]) (w.alloc o) := by
  have s1 : Sat B ρ h own (w.alloc o) := s.grown (by rw [push_size]; omega) (fun b hb => push_old w o hb) (fun _ _ => rfl) (fun b x e => by
    rw [push_old w o ((Array.getElem?_eq_some_iff.1 (s.sub b x e)).1)]; exact s.sub b x e) ⟨rfl, rfl⟩
  refine s1.add hs fun b hb => ?_
  obtain rfl := hf b hb
  exact ⟨fun i ob' v' a a' c => absurd (OB.fp_lt (s.ent i ob' v' a a') c) (Nat.lt_irrefl _), s.none_new (Nat.le_refl _), .inr s.size⟩
/-- An entry is replaced by another one over the same block, which may have been written. -/
theorem Sat.replace {B : Base} {ρ : Env} {h : Heap} {own : List OB} {w w' : World} (s : Sat B ρ h own w) {id : Nat} {ob ob' : OB} {v : Value}
    (hi : own[id]? = some ob) (hv : ρ[id]? = some v) (hz : w'.heap.size = w.heap.size) (eo : Out w w') (hk : ∀ b : Nat, ob.fp v ≠ some b → w'.heap[b]? = w.heap[b]?)
    (hs : ob'.sat ρ h w' v) (hf : ∀ b, ob'.fp v = some b → ob.fp v = some b) : Sat B ρ h (own.set id ob') w' := by
  have hid : id < own.length := (List.getElem?_eq_some_iff.1 hi).1
  have key : ∀ (i : Nat) ob1 v1, (own.set id ob')[i]? = some ob1 → ρ[i]? = some v1 → (i ≠ id ∧ own[i]? = some ob1) ∨ (i = id ∧ ob1 = ob' ∧ v1 = v) := by
    intro i ob1 v1 h1 h2
    by_cases e : i = id
    · subst e
      rw [List.getElem?_set_self hid] at h1
      rw [hv] at h2
      cases h1; cases h2
      exact .inr ⟨rfl, rfl, rfl⟩
    · rw [List.getElem?_set_ne (Ne.symm e)] at h1
      exact .inl ⟨e, h1⟩
  have hout : ∀ (i : Nat) ob1 v1, i ≠ id → own[i]? = some ob1 → ρ[i]? = some v1 → ∀ b, ob1.fp v1 = some b → ob.fp v ≠ some b := fun i ob1 v1 ne a a' b c c' =>
    ne (s.nodup i id ob1 ob v1 v b a a' hi hv c c')
  have hh : ∀ b o, h b = some o → ob.fp v ≠ some b := fun b o e c => by rw [s.apart id ob v b hi hv c] at e; cases e
  exact {
    len := by simp [s.len]
    sub := fun b o e => by rw [hk b (hh b o e)]; exact s.sub b o e
    ent := fun i ob1 v1 h1 h2 => by
      rcases key i ob1 v1 h1 h2 with ⟨ne, a⟩ | ⟨rfl, rfl, rfl⟩
      · exact OB.sat_mono (Env.le_refl _) (Heap.le_refl _) (s.ent i ob1 v1 a h2) fun b hb => hk b (hout i ob1 v1 ne a h2 b hb)
      · exact hs
    nodup := fun i j ob1 ob2 v1 v2 b h1 h2 h3 h4 h5 h6 => by
      rcases key i ob1 v1 h1 h2 with ⟨ne, a⟩ | ⟨rfl, rfl, rfl⟩ <;> rcases key j ob2 v2 h3 h4 with ⟨ne', c⟩ | ⟨rfl, rfl, rfl⟩
      · exact s.nodup i j ob1 ob2 v1 v2 b a h2 c h4 h5 h6
      · exact s.nodup i _ ob1 ob v1 _ b a h2 hi hv h5 (hf b h6)
      · exact s.nodup _ j ob ob2 _ v2 b hi hv c h4 (hf b h5) h6
      · rfl
    apart := fun i ob1 v1 b h1 h2 h3 => by
      rcases key i ob1 v1 h1 h2 with ⟨ne, a⟩ | ⟨rfl, rfl, rfl⟩
      · exact s.apart i ob1 v1 b a h2 h3
      · exact s.apart _ ob _ b hi hv (hf b h3)
    size := by rw [hz]; exact s.size
    keep := fun b hb hF => by
      rw [hk b fun c => ?_]
      · exact s.keep b hb hF
      · rcases s.mine id ob v b hi hv c with x | x
        · exact hF x
        · omega
    old := s.old
    outer := s.outer.trans eo
    mine := fun i ob1 v1 b h1 h2 h3 => by
      rcases key i ob1 v1 h1 h2 with ⟨ne, a⟩ | ⟨rfl, rfl, rfl⟩
      · exact s.mine i ob1 v1 b a h2 h3
      · exact s.mine _ ob _ b hi hv (hf b h3) }
/-- A block that nobody speaks of becomes persistent. -/
theorem Sat.adopt {B : Base} {ρ : Env} {h : Heap} {own : List OB} {w : World} (s : Sat B ρ h own w) {b : Nat} {o : Obj} (hb : w.heap[b]? = some o) (hF : B.F0 b ∨ B.w0.heap.size ≤ b)
    (hn : ∀ (i : Nat) ob v, own[i]? = some ob → ρ[i]? = some v → ob.fp v ≠ some b) {id : Nat} {v : Value} {x : PV} (hi : own[id]? = some .gone) (hv : ρ[id]? = some v) (hx : x.rel (fun y => if y = b then some o else h y) v) :
    h ≤ (fun y => if y = b then some o else h y) ∧ Sat B ρ (fun y => if y = b then some o else h y) (own.set id (.fro x)) w := by
  have hid : id < own.length := (List.getElem?_eq_some_iff.1 hi).1
  have hh : h ≤ (fun y => if y = b then some o else h y) := fun y o' e => by
    show (if y = b then some o else h y) = some o'
    split
    · rename_i e1
      subst e1
      rw [← hb]; exact s.sub _ _ e
    · exact e
  have key : ∀ (i : Nat) ob1 v1, (own.set id (.fro x))[i]? = some ob1 → ρ[i]? = some v1 → (i ≠ id ∧ own[i]? = some ob1) ∨ (i = id ∧ ob1 = .fro x ∧ v1 = v) := by
    intro i ob1 v1 h1 h2
    by_cases e : i = id
    · subst e
      rw [List.getElem?_set_self hid] at h1
      rw [hv] at h2
      cases h1; cases h2
      exact .inr ⟨rfl, rfl, rfl⟩
    · rw [List.getElem?_set_ne (Ne.symm e)] at h1
      exact .inl ⟨e, h1⟩
  have nofp : ∀ v b, (OB.fro x).fp v ≠ some b := fun v b e => by cases v <;> cases e
  refine ⟨hh, {
    len := by simp [s.len]
    sub := fun y o' e => by
      have e : (if y = b then some o else h y) = some o' := e
      split at e
      · rename_i e1; cases e; rw [e1]; exact hb
      · exact s.sub y o' e
    ent := fun i ob1 v1 h1 h2 => by
      rcases key i ob1 v1 h1 h2 with ⟨ne, a⟩ | ⟨rfl, rfl, rfl⟩
      · exact OB.sat_mono (Env.le_refl _) hh (s.ent i ob1 v1 a h2) fun _ _ => rfl
      · exact hx
    nodup := fun i j ob1 ob2 v1 v2 b h1 h2 h3 h4 h5 h6 => by
      rcases key i ob1 v1 h1 h2 with ⟨ne, a⟩ | ⟨rfl, rfl, rfl⟩ <;> rcases key j ob2 v2 h3 h4 with ⟨ne', c⟩ | ⟨rfl, rfl, rfl⟩
      · exact s.nodup i j ob1 ob2 v1 v2 b a h2 c h4 h5 h6
      · exact absurd h6 (nofp _ _)
      · exact absurd h5 (nofp _ _)
      · rfl
    apart := fun i ob1 v1 y h1 h2 h3 => by
      rcases key i ob1 v1 h1 h2 with ⟨ne, a⟩ | ⟨rfl, rfl, rfl⟩
      · show (if y = b then some o else h y) = none
        rw [if_neg (show ¬ y = b from fun e => hn i ob1 v1 a h2 (e ▸ h3))]
        exact s.apart i ob1 v1 y a h2 h3
      · exact absurd h3 (nofp _ _)
    size := s.size
    keep := s.keep
    old := fun y hy hF' => by
      show (if y = b then some o else h y) = _
      rw [if_neg (show ¬ y = b from fun e => by subst e; exact hF.elim hF' fun h3 => by omega)]
      exact s.old y hy hF'
    outer := s.outer
    mine := fun i ob1 v1 y h1 h2 h3 => by
      rcases key i ob1 v1 h1 h2 with ⟨ne, a⟩ | ⟨rfl, rfl, rfl⟩
      · exact s.mine i ob1 v1 y a h2 h3
      · exact absurd h3 (nofp _ _) }⟩
/-- An own block becomes persistent. -/
def thaw (h : Heap) (w : World) (ob : OB) (v : Value) : Heap := fun b => if ob.fp v = some b then w.heap[b]? else h b
theorem Sat.freeze {B : Base} {ρ : Env} {h : Heap} {own : List OB} {w : World} (s : Sat B ρ h own w) {id : Nat} {ob : OB} {v : Value} {x : PV}
    (hi : own[id]? = some ob) (hv : ρ[id]? = some v) (hx : x.rel (thaw h w ob v) v) :
    h ≤ thaw h w ob v ∧ Sat B ρ (thaw h w ob v) (own.set id (.fro x)) w := by
  have hid : id < own.length := (List.getElem?_eq_some_iff.1 hi).1
  have hh : h ≤ thaw h w ob v := fun b o e => by
    simp only [thaw]
    split
    · exact s.sub b o e
    · exact e
  have key : ∀ (i : Nat) ob1 v1, (own.set id (.fro x))[i]? = some ob1 → ρ[i]? = some v1 → (i ≠ id ∧ own[i]? = some ob1) ∨ (i = id ∧ ob1 = .fro x ∧ v1 = v) := by
    intro i ob1 v1 h1 h2
    by_cases e : i = id
    · subst e
      rw [List.getElem?_set_self hid] at h1
      rw [hv] at h2
      cases h1; cases h2
      exact .inr ⟨rfl, rfl, rfl⟩
    · rw [List.getElem?_set_ne (Ne.symm e)] at h1
      exact .inl ⟨e, h1⟩
  have nofp : ∀ v b, (OB.fro x).fp v ≠ some b := fun v b e => by cases v <;> cases e
  refine ⟨hh, {
    len := by simp [s.len]
    sub := fun b o e => by
      simp only [thaw] at e
      split at e
      · exact e
      · exact s.sub b o e
    ent := fun i ob1 v1 h1 h2 => by
      rcases key i ob1 v1 h1 h2 with ⟨ne, a⟩ | ⟨rfl, rfl, rfl⟩
      · exact OB.sat_mono (Env.le_refl _) hh (s.ent i ob1 v1 a h2) fun _ _ => rfl
      · exact hx
    nodup := fun i j ob1 ob2 v1 v2 b h1 h2 h3 h4 h5 h6 => by
      rcases key i ob1 v1 h1 h2 with ⟨ne, a⟩ | ⟨rfl, rfl, rfl⟩ <;> rcases key j ob2 v2 h3 h4 with ⟨ne', c⟩ | ⟨rfl, rfl, rfl⟩
      · exact s.nodup i j ob1 ob2 v1 v2 b a h2 c h4 h5 h6
      · exact absurd h6 (nofp _ _)
      · exact absurd h5 (nofp _ _)
      · rfl
    apart := fun i ob1 v1 b h1 h2 h3 => by
      rcases key i ob1 v1 h1 h2 with ⟨ne, a⟩ | ⟨rfl, rfl, rfl⟩
      · have hne : ob.fp v ≠ some b := fun c => ne (s.nodup i id ob1 ob v1 v b a h2 hi hv h3 c)
        simp only [thaw, if_neg hne]
        exact s.apart i ob1 v1 b a h2 h3
      · exact absurd h3 (nofp _ _)
    size := s.size
    keep := s.keep
    old := fun b hb hF => by
      have hne : ob.fp v ≠ some b := fun c => by
        rcases s.mine id ob v b hi hv c with x | x
        · exact hF x
        · omega
      simp only [thaw, if_neg hne]
      exact s.old b hb hF
    outer := s.outer
    mine := fun i ob1 v1 b h1 h2 h3 => by
      rcases key i ob1 v1 h1 h2 with ⟨ne, a⟩ | ⟨rfl, rfl, rfl⟩
      · exact s.mine i ob1 v1 b a h2 h3
      · exact absurd h3 (nofp _ _) }⟩
end Go.Fx
