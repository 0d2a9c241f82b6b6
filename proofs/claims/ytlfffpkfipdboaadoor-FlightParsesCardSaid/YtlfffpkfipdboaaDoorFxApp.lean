/-
  Fx, part 8b: elements put behind a slice.
-/
import Derived.Test.YtlfffpkfipdboaaDoorFxSound3
import Derived.Laws.AppendOwn
set_option linter.unusedSimpArgs false
set_option linter.unusedVariables false
namespace Go.Fx
/-- A slice's value, and the cells that it shows. -/
def Shows (w : World) (v : Value) (n : Nat) (vs : List Value) : Prop :=
  ∃ a c, v = .slice a n c ∧ n ≤ c ∧ ((a = none ∧ n = 0 ∧ vs = []) ∨ ∃ ad : Addr, a = some ad ∧ ∀ (j : Nat) u, vs[j]? = some u → w.cell? (ad.add j) = some u)
theorem shows_isl {h : Heap} {w : World} (hs : h ≤ full w) {nil ex : Bool} {k : IntKind} {l : List Int} {v : Value} (hx : (PV.isl nil ex k l).rel h v) : Shows w v l.length (l.map (Value.int k)) := by
  obtain ⟨a, cap, rfl, h1, h2, h3, h4, h5⟩ := hx
  refine ⟨a, cap, rfl, h1, ?_⟩
  cases a with
  | none =>
    have := h4 rfl
    have h0 : l = [] := List.eq_nil_of_length_eq_zero (by omega)
    subst h0
    exact .inl ⟨rfl, rfl, rfl⟩
  | some ad =>
    obtain ⟨b, o, sp⟩ := ad
    obtain ⟨h6, h7⟩ := h5 _ rfl
    dsimp only at h6 h7
    refine .inr ⟨_, rfl, fun j u hj => ?_⟩
    have h8 : j < l.length := by simpa using (List.getElem?_eq_some_iff.1 hj).1
    have h6 := h6 (by omega)
    subst h6
    rw [addOff]
    exact cell_of hs h7 hj
theorem shows_sl {h : Heap} {w : World} (hs : h ≤ full w) {nil ex : Bool} {wd : Nat} {es : List PV} {v : Value} (hx : (PV.sl nil ex wd es).rel h v) : ∃ vs, PV.relE h wd es vs ∧ Shows w v es.length vs := by
  obtain ⟨a, cap, rfl, h1, h2, h3, h4, vs, hvs, h5⟩ := hx
  refine ⟨vs, hvs, a, cap, rfl, h1, ?_⟩
  cases a with
  | none =>
    have := h4 rfl
    have h0 : es = [] := List.eq_nil_of_length_eq_zero (by omega)
    subst h0
    have : vs = [] := hvs
    exact .inl ⟨rfl, rfl, this⟩
  | some ad =>
    obtain ⟨b, o, sp⟩ := ad
    obtain ⟨h6, h7⟩ := h5 _ rfl
    dsimp only at h6 h7
    refine .inr ⟨_, rfl, fun j u hj => ?_⟩
    have h8 : 0 < es.length := by
      cases es with
      | nil =>
        have h9 : vs = [] := hvs
        rw [h9] at hj; simp at hj
      | cons x xs => simp
    have h6 := h6 (by omega)
    subst h6
    rw [addOff]
    exact cell_of hs h7 hj
theorem see_isl {B : Base} {ρ : Env} {h : Heap} {own : List OB} {w : World} (s : Sat B ρ h own w) {x : SV} {v : Value} (hx : x.rel ρ h v) {nil ex : Bool} {k : IntKind} {l : List Int} (hs : x.see own = some (.isl nil ex k l)) :
    Shows w v l.length (l.map (Value.int k)) := by
  cases x <;> simp only [SV.see] at hs <;> first | (cases hs; done) | skip
  case p x => cases hs; exact shows_isl s.sub hx
  case row id =>
    cases e : own.getD id .gone <;> rw [e] at hs <;> simp only [OB.pv, Option.some.injEq] at hs <;> first | (cases hs; done) | skip
    case irow ty k' nil' ex' l' =>
      obtain ⟨rfl, rfl, rfl, rfl⟩ := by simpa using hs
      rcases (s.look hx.1 e (by simp)).2 with ⟨h1, h2, h3⟩ | ⟨h1, b, c', cap, h3, h4, h5, h6, h7, h8⟩
      · subst h2; exact ⟨none, 0, h3, Nat.le_refl _, .inl ⟨rfl, rfl, rfl⟩⟩
      · refine ⟨some ⟨b, 0, none⟩, cap, h3, h4, .inr ⟨_, rfl, fun j u hj => ?_⟩⟩
        rw [addOff]
        have hj' : j < l'.length := by simpa using (List.getElem?_eq_some_iff.1 hj).1
        rw [Nat.zero_add]
        simp only [World.cell?, h6, h8 j hj']
        rw [← hj]
        simp [hj', List.getD_eq_getElem?_getD]
    case fro y =>
      subst hs
      exact shows_isl s.sub (s.look hx.1 e (by simp)).2
theorem see_sl {B : Base} {ρ : Env} {h : Heap} {own : List OB} {w : World} (s : Sat B ρ h own w) {x : SV} {v : Value} (hx : x.rel ρ h v) {nil ex : Bool} {wd : Nat} {l : List PV} (hs : x.see own = some (.sl nil ex wd l)) :
    ∃ vs, PV.relE h wd l vs ∧ Shows w v l.length vs := by
  cases x <;> simp only [SV.see] at hs <;> first | (cases hs; done) | skip
  case p x => cases hs; exact shows_sl s.sub hx
  case row id =>
    cases e : own.getD id .gone <;> rw [e] at hs <;> simp only [OB.pv, Option.some.injEq] at hs <;> first | (cases hs; done) | skip
    case row ty w' nil' ex' l' =>
      obtain ⟨rfl, rfl, rfl, rfl⟩ := by simpa using hs
      rcases (s.look hx.1 e (by simp)).2 with ⟨h1, h2, h3⟩ | ⟨h1, b, c', cap, vs, h3, h4, h5, h6, h7, h8, h9⟩
      · subst h2; exact ⟨[], rfl, none, 0, h3, Nat.le_refl _, .inl ⟨rfl, rfl, rfl⟩⟩
      · refine ⟨vs, h8, some ⟨b, 0, none⟩, cap, h3, h4, .inr ⟨_, rfl, fun j u hj => ?_⟩⟩
        rw [addOff, Nat.zero_add]
        simp only [World.cell?, h6]
        exact h9 j u hj
    case fro y =>
      subst hs
      exact shows_sl s.sub (s.look hx.1 e (by simp)).2
section
variable {P : Program} {t ty e : TypeId} {i : TypeInfo} {z : Value}
theorem append_zero (ht : P.underlying t = some (.slice e)) (hi : P.info? e = some i) (w : World) {a a' : Option Addr} {n c c' : Nat} (hc : n ≤ c) :
    (Builtin.append_ #[t, t] ty #[.slice a n c, .slice a' 0 c']).run P w = .ok (.slice a n c) w := by
  cases a <;> cases a' <;> simp [Builtin.append_, run_underlying ht, sizeOf, typeInfo, hi, Builtin.lenOf, Builtin.firstCells, loadCells, loadCellsFrom, hc, storeCells]
/-- What appending comes to: nothing; a new block; cells in the old one. -/
inductive Apps (w : World) (size : Nat) (e : TypeId) (vx : Value) (n : Nat) (xs : List Value) (m : Nat) (ys : List Value) : Value → World → Prop where
  | same : m = 0 → Apps w size e vx n xs m ys vx w
  | new (cap : Nat) (c : Array Value) : 0 < m → n + m ≤ cap → c.size = cap * size → c.toList.take ((n + m) * size) = xs ++ ys →
      Apps w size e vx n xs m ys (.slice (some ⟨w.heap.size, 0, none⟩) (n + m) cap) (w.drew.alloc (.cells c e))
  | room (b cap : Nat) (cur c : Array Value) : 0 < m → vx = .slice (some ⟨b, 0, none⟩) n cap → n + m ≤ cap → w.heap[b]? = some (.cells cur e (0, 0)) → c.size = cur.size → c.toList.take ((n + m) * size) = xs ++ ys →
      Apps w size e vx n xs m ys (.slice (some ⟨b, 0, none⟩) (n + m) cap) (w.setRow b c)
theorem append_sem (ht : P.underlying t = some (.slice e)) (hi : P.info? e = some i) (hz : i.zero = some z) (hzs : z.cells.size = P.cellsOf e) (hw : 0 < P.cellsOf e) (w : World) {vx vy : Value} {n m : Nat} {xs ys : List Value}
    (hx : Shows w vx n xs) (hxl : xs.length = n * P.cellsOf e) (hy : Shows w vy m ys) (hyl : ys.length = m * P.cellsOf e) (h1 : ∀ u ∈ ys, u.oneCell' = true)
    (hown : (∃ c, vx = .slice none n c) ∨ (∃ a, vx = .slice a n n) ∨ ∃ b cap cur, vx = .slice (some ⟨b, 0, none⟩) n cap ∧ w.heap[b]? = some (.cells cur e (0, 0)) ∧ cur.size = cap * P.cellsOf e ∧ (∀ (j : Nat) u, xs[j]? = some u → cur[j]? = some u))
    (hb : (n + m) * i.bytes ≤ 140737488355328) (h63 : n + m ≤ 4611686018427387904) (hn0 : ∀ c, vx = .slice none n c → c = 0) :
    ∃ v' w', (Builtin.append_ #[t, t] ty #[vx, vy]).run P w = .ok v' w' ∧ Apps w (P.cellsOf e) e vx n xs m ys v' w' := by
  have hs : P.cellsOf e = i.size := by simp [Program.cellsOf, hi]
  rw [hs] at hzs hw hxl hyl hown ⊢
  obtain ⟨ax, cx, rfl, hc, hx⟩ := hx
  obtain ⟨ay, cy, rfl, hc', hy⟩ := hy
  rcases Nat.eq_zero_or_pos m with h0 | hm
  · subst h0
    exact ⟨_, _, append_zero ht hi w hc, .same rfl⟩
  rcases hy with ⟨_, h0, _⟩ | ⟨ay', rfl, hy⟩
  · omega
  have hnews : ∀ j u, ys[j]? = some u → w.cell? (ay'.add j) = some u := hy
  have hcapsize : ∀ old, n + m ≤ grownCap w (n + m) old e := fun old => grownCap_ge w (n + m) old e
  have grown : ∀ (old : Nat), (xs.toArray ++ ys.toArray ++ Builtin.zeroCells z.cells (grownCap w (n + m) old e - (n + m))).size = grownCap w (n + m) old e * i.size ∧
      (xs.toArray ++ ys.toArray ++ Builtin.zeroCells z.cells (grownCap w (n + m) old e - (n + m))).toList.take ((n + m) * i.size) = xs ++ ys := by
    intro old
    have hge := hcapsize old
    have hlen : (xs ++ ys).length = (n + m) * i.size := by rw [List.length_append, hxl, hyl, Nat.add_mul]
    constructor
    · simp only [Array.size_append, List.size_toArray, size_zeroCells, hzs, hxl, hyl, ← Nat.add_mul]
      congr 1; omega
    · simp only [Array.toList_append, List.append_assoc]
      rw [← List.append_assoc, ← hlen]
      exact List.take_left
  rcases hx with ⟨rfl, h2, rfl⟩ | ⟨ax', rfl, hx⟩
  · subst h2
    have := hn0 cx rfl
    subst this
    have hr := run_append_nil (P := P) w t ty e i z ht hi hz ay' m cy ys hyl hnews hm (by omega) (by simp only [Nat.zero_add] at hb; omega)
    have hg := grown 0
    have hg0 := hcapsize 0
    simp only [Nat.zero_add, List.nil_append] at hg hg0
    refine ⟨_, _, hr, ?_⟩
    have := Apps.new (w := w) (size := i.size) (e := e) (vx := .slice none 0 0) (n := 0) (xs := []) (ys := ys) (m := m) (grownCap w m 0 e) (ys.toArray ++ Builtin.zeroCells z.cells (grownCap w m 0 e - m)) hm (by rw [Nat.zero_add]; exact hg0)
      (by simpa using hg.1) (by rw [Nat.zero_add]; simpa using hg.2)
    rwa [Nat.zero_add] at this
  · by_cases hroom : n + m ≤ cx
    · rcases hown with ⟨c, e1⟩ | ⟨a, e1⟩ | ⟨b, cap, cur, e1, hcur, hcs, hcells⟩
      · cases e1
      · injection e1 with _ _ e2
        omega
      · injection e1 with e2 _ e3
        injection e2 with e2
        subst e3; subst e2
        have hle : (n + m) * i.size ≤ cx * i.size := Nat.mul_le_mul_right _ hroom
        have hfit : n * i.size + ys.length ≤ cur.size := by rw [hcs, hyl, ← Nat.add_mul]; exact hle
        have hr := run_append_room (P := P) w t ty e i ht hi b n cx cur hcur ay' m cy ys hyl hnews h1 hroom hfit
        refine ⟨_, _, hr, .room b cx cur _ hm rfl hroom hcur ?_ ?_⟩
        · simp only [List.size_toArray, List.length_append, List.length_take, List.length_drop, Array.length_toList]
          rw [Nat.min_eq_left (by omega)]
          omega
        · have htk : cur.toList.take (n * i.size) = xs := by
            apply List.ext_getElem?
            intro j
            rcases Nat.lt_or_ge j (n * i.size) with hj | hj
            · rw [List.getElem?_take_of_lt hj]
              have hj' : j < xs.length := by omega
              have := hcells j _ (List.getElem?_eq_getElem hj')
              rw [List.getElem?_eq_getElem hj']
              simpa using this
            · rw [List.getElem?_eq_none (by simp; omega), List.getElem?_eq_none (by omega)]
          have hlen : (xs ++ ys).length = (n + m) * i.size := by rw [List.length_append, hxl, hyl, Nat.add_mul]
          simp only
          rw [htk, ← hlen]
          exact List.take_left
    · have holds : ∀ j u, xs[j]? = some u → w.cell? (ax'.add j) = some u := hx
      have hr := run_append_grow (P := P) w t ty e i z ht hi hz ax' n cx xs hxl holds ay' m cy ys hyl hnews (by omega) (by omega) (growslice_fits (by omega) hb)
      have hg := grown cx
      exact ⟨_, _, hr, .new _ _ hm (hcapsize cx) hg.1 hg.2⟩
end
theorem sat_irow {ρ : Env} {h : Heap} {w : World} {ty : TypeId} {k : IntKind} {L : List Int} {b cap : Nat} {c : Array Value} (h1 : w.heap[b]? = some (.cells c ty (0, 0))) (h2 : c.size = cap) (h3 : L.length ≤ cap) (h4 : c.toList.take L.length = L.map (Value.int k)) :
    (OB.irow ty k false false L).sat ρ h w (.slice (some ⟨b, 0, none⟩) L.length cap) := by
  refine .inr ⟨rfl, b, c, cap, rfl, h3, (fun e => by cases e), h1, h2, fun j hj => ?_⟩
  have h5 : (c.toList.take L.length)[j]? = (L.map (Value.int k))[j]? := by rw [h4]
  rw [List.getElem?_take_of_lt hj] at h5
  simp only [Array.getElem?_toList] at h5
  rw [h5]
  simp [hj, List.getD_eq_getElem?_getD]
theorem sat_row {ρ : Env} {h : Heap} {w : World} {ty : TypeId} {wd : Nat} {L : List PV} {vs : List Value} {b cap : Nat} {c : Array Value} (h1 : w.heap[b]? = some (.cells c ty (0, 0))) (h2 : c.size = cap * wd) (h3 : L.length ≤ cap)
    (h4 : c.toList.take (L.length * wd) = vs) (h5 : PV.relE h wd L vs) : (OB.row ty wd false false L).sat ρ h w (.slice (some ⟨b, 0, none⟩) L.length cap) := by
  refine .inr ⟨rfl, b, c, cap, vs, rfl, h3, (fun e => by cases e), h1, h2, h5, fun j u hj => ?_⟩
  have hl := PV.relE_len h5
  have hj' : j < L.length * wd := by have := (List.getElem?_eq_some_iff.1 hj).1; omega
  rw [← h4, List.getElem?_take_of_lt hj'] at hj
  simpa using hj
/-- An entry given up; a new one over its block, or over a new one. -/
theorem Sat.renew {B : Base} {ρ : Env} {h : Heap} {own : List OB} {w w' : World} (s : Sat B ρ h own w) {id : Nat} {ob ob' : OB} {v v' : Value} {b : Nat} (hi : own[id]? = some ob) (hv : ρ[id]? = some v) (hf : ob.fp v = some b)
    (hz : w'.heap.size = w.heap.size) (eo : Out w w') (hk : ∀ b' : Nat, b' ≠ b → w'.heap[b']? = w.heap[b']?) (hs : ob'.sat (ρ ++ [v']) h w' v') (hf' : ∀ b', ob'.fp v' = some b' → b' = b) :
    Sat B (ρ ++ [v']) h (own.set id .gone ++ [ob']) w' := by
  have s1 : Sat B ρ h (own.set id .gone) w' := s.replace hi hv hz eo (fun b' hne => hk b' fun e => hne (by rw [hf, e])) trivial fun b' e => by cases v <;> cases e
  refine s1.add hs fun b' hb => ?_
  obtain rfl := hf' b' hb
  have hid : id < own.length := (List.getElem?_eq_some_iff.1 hi).1
  refine ⟨fun i ob1 v1 a1 a2 a3 => ?_, s.apart id ob v _ hi hv hf, s.mine id ob v _ hi hv hf⟩
  by_cases e : i = id
  · subst e
    rw [List.getElem?_set_self hid] at a1
    cases a1
    cases v1 <;> cases a3
  · rw [List.getElem?_set_ne (Ne.symm e)] at a1
    exact e (s.nodup i id ob1 ob v1 v _ a1 a2 hi hv a3 hf)
/-- An entry given up. -/
theorem Sat.drop {B : Base} {ρ : Env} {h : Heap} {own : List OB} {w : World} (s : Sat B ρ h own w) {id : Nat} {ob : OB} {v : Value} (hi : own[id]? = some ob) (hv : ρ[id]? = some v) : Sat B ρ h (own.set id .gone) w :=
  s.replace hi hv rfl Out.refl (fun _ _ => rfl) trivial fun b' e => by cases v <;> cases e
def OB.ofSlice (ob : OB) : Prop := ∀ v b, ob.fp v = some b → ∃ ad n c, v = .slice (some ad) n c ∧ b = ad.block
theorem ofSlice_irow {ty k nil ex l} : (OB.irow ty k nil ex l).ofSlice := fun v b e => by
  cases v <;> first | (cases e; done) | skip
  rename_i a n c
  cases a with
  | none => cases e
  | some ad => cases e; exact ⟨ad, n, c, rfl, rfl⟩
theorem ofSlice_row {ty k nil ex l} : (OB.row ty k nil ex l).ofSlice := fun v b e => by
  cases v <;> first | (cases e; done) | skip
  rename_i a n c
  cases a with
  | none => cases e
  | some ad => cases e; exact ⟨ad, n, c, rfl, rfl⟩
section
variable {B : Base} {ρ : Env} {h : Heap} {own : List OB} {w w' : World} {size n m : Nat} {e : TypeId} {vx v' : Value} {xs ys : List Value} {ob1 : OB}
theorem app_nil (s : Sat B ρ h own w) (ap : Apps w size e (.slice none 0 0) 0 [] m ys v' w') (ho : ob1.ofSlice)
    (hnew : ∀ (W : World) (b cap : Nat) (c : Array Value), 0 < m → W.heap[b]? = some (.cells c e (0, 0)) → c.size = cap * size → m ≤ cap → c.toList.take (m * size) = ys → ob1.sat (ρ ++ [.slice (some ⟨b, 0, none⟩) m cap]) h W (.slice (some ⟨b, 0, none⟩) m cap))
    (hnil : m = 0 → ob1.sat (ρ ++ [.slice none 0 0]) h w (.slice none 0 0)) : Sat B (ρ ++ [v']) h (own ++ [ob1]) w' ∧ v'.oneCell' = true := by
  cases ap with
  | same h0 => exact ⟨s.add (hnil h0) (fun b hb => by obtain ⟨ad, _, _, e1, _⟩ := ho _ _ hb; cases e1), rfl⟩
  | new cap c hm h1 h2 h3 =>
    simp only [Nat.zero_add, List.nil_append] at *
    have s1 : Sat B ρ h own w.drew := s.heap rfl ⟨rfl, rfl⟩
    exact ⟨s1.alloc (hnew _ _ _ _ hm (push_new w.drew _) h2 h1 h3) (fun b hb => by obtain ⟨ad, _, _, e1, e2⟩ := ho _ _ hb; cases e1; exact e2), rfl⟩
  | room b cap cur c hm h1 => cases h1
theorem app_full (s : Sat B ρ h own w) {a : Option Addr} (ap : Apps w size e (.slice a n n) n xs m ys v' w') (hm : 0 < m) (ho : ob1.ofSlice)
    (hnew : ∀ (W : World) (b cap : Nat) (c : Array Value), W.heap[b]? = some (.cells c e (0, 0)) → c.size = cap * size → n + m ≤ cap → c.toList.take ((n + m) * size) = xs ++ ys → ob1.sat (ρ ++ [.slice (some ⟨b, 0, none⟩) (n + m) cap]) h W (.slice (some ⟨b, 0, none⟩) (n + m) cap)) :
    Sat B (ρ ++ [v']) h (own ++ [ob1]) w' ∧ v'.oneCell' = true := by
  cases ap with
  | same h0 => omega
  | new cap c hm h1 h2 h3 =>
    have s1 : Sat B ρ h own w.drew := s.heap rfl ⟨rfl, rfl⟩
    exact ⟨s1.alloc (hnew _ _ _ _ (push_new w.drew _) h2 h1 h3) (fun b hb => by obtain ⟨ad, _, _, e1, e2⟩ := ho _ _ hb; cases e1; exact e2), rfl⟩
  | room b cap cur c hm h1 h2 =>
    injection h1 with _ _ e3
    omega
theorem app_own (s : Sat B ρ h own w) {id b cap0 : Nat} {ob : OB} {cur : Array Value} (hid : own[id]? = some ob) (hv : ρ[id]? = some vx) (hf : ob.fp vx = some b) (hvx : vx = .slice (some ⟨b, 0, none⟩) n cap0) (hblk : w.heap[b]? = some (.cells cur e (0, 0)))
    (hcs : cur.size = cap0 * size) (htk : cur.toList.take (n * size) = xs) (hcap : n ≤ cap0) (hyl : ys.length = m * size) (ap : Apps w size e vx n xs m ys v' w') (ho : ob1.ofSlice)
    (hnew : ∀ (W : World) (b cap : Nat) (c : Array Value), W.heap[b]? = some (.cells c e (0, 0)) → c.size = cap * size → n + m ≤ cap → c.toList.take ((n + m) * size) = xs ++ ys → ob1.sat (ρ ++ [.slice (some ⟨b, 0, none⟩) (n + m) cap]) h W (.slice (some ⟨b, 0, none⟩) (n + m) cap)) :
    Sat B (ρ ++ [v']) h (own.set id .gone ++ [ob1]) w' ∧ v'.oneCell' = true := by
  cases ap with
  | same h0 =>
    subst h0
    have hy0 : ys = [] := List.eq_nil_of_length_eq_zero (by omega)
    subst hy0
    have hn := hnew w b cap0 cur hblk hcs hcap (by simpa using htk)
    rw [Nat.add_zero] at hn
    rw [hvx]
    exact ⟨s.renew hid hv hf rfl Out.refl (fun _ _ => rfl) hn (fun b' hb => by obtain ⟨ad, _, _, e1, e2⟩ := ho _ _ hb; cases e1; exact e2), rfl⟩
  | new cap c hm h1 h2 h3 =>
    have s1 : Sat B ρ h (own.set id .gone) w.drew := (s.drop hid hv).heap rfl ⟨rfl, rfl⟩
    exact ⟨s1.alloc (hnew _ _ _ _ (push_new w.drew _) h2 h1 h3) (fun b hb => by obtain ⟨ad, _, _, e1, e2⟩ := ho _ _ hb; cases e1; exact e2), rfl⟩
  | room b2 cap cur2 c hm h1 h2 h3 h4 h5 =>
    rw [hvx] at h1
    injection h1 with e1 _ e3
    injection e1 with e1
    injection e1 with e1 _ _
    subst e1; subst e3
    rw [hblk] at h3
    cases h3
    refine ⟨s.renew hid hv hf (by simp [World.setRow]) ⟨rfl, rfl⟩ (fun b' hne => ?_) (hnew _ _ _ _ (setRow_heap w b cur c e _ hblk) (by rw [h4]; exact hcs) h2 h5) (fun b' hb => by obtain ⟨ad, _, _, e1, e2⟩ := ho _ _ hb; cases e1; exact e2), rfl⟩
    exact setRow_other w b b' _ hne
end
end Go.Fx
