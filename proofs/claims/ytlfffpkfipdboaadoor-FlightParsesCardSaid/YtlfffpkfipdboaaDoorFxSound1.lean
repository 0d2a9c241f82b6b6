/-
  Fx, part 6: the pure operations do what pev says.
-/
import Derived.Test.YtlfffpkfipdboaaDoorFxComp
import Derived.Laws.Entries
import Derived.Laws.Cells
import Derived.ChangeKeysEq
set_option linter.unusedSimpArgs false
set_option linter.unusedVariables false
namespace Go.Fx
theorem getD_cases {α : Type} {l : List α} {i : Nat} {d x : α} (h : l.getD i d = x) (hx : x ≠ d) : l[i]? = some x := by
  rw [List.getD_eq_getElem?_getD] at h
  cases e : l[i]? with
  | none => rw [e] at h; exact absurd h.symm hx
  | some y => rw [e] at h; simp at h; rw [h]
theorem getD_some {α : Type} {l : List α} {i : Nat} (d : α) (h : i < l.length) : l[i]? = some (l.getD i d) := by
  rw [List.getD_eq_getElem?_getD, List.getElem?_eq_getElem h]; rfl
/-- Names of entries, looked up. -/
theorem Sat.look {B : Base} {ρ : Env} {h : Heap} {own : List OB} {w : World} (s : Sat B ρ h own w) {id : Nat} {ob : OB} {v : Value} (hv : ρ[id]? = some v)
    (he : own.getD id .gone = ob) (hne : ob ≠ .gone) : own[id]? = some ob ∧ ob.sat ρ h w v := by
  have h1 := getD_cases he hne
  exact ⟨h1, s.ent id ob v h1 hv⟩
theorem SV.res_rel {B : Base} {ρ : Env} {h : Heap} {own : List OB} {w : World} (s : Sat B ρ h own w) {x : SV} {v : Value} (hx : x.rel ρ h v) : (x.res own).rel ρ h v := by
  cases x
  case row id =>
    simp only [SV.res]
    split
    · rename_i y e
      exact (s.look (id := id) hx.1 e (by simp)).2
    · exact hx
  case ptr id off =>
    simp only [SV.res]
    split
    · rename_i cs e
      obtain ⟨b, h1, rfl⟩ := hx
      obtain ⟨b', e', vs, h2, h3⟩ := (s.look (id := id) h1 e (by simp)).2
      cases e'
      exact ⟨b, rfl, vs, h2, h3⟩
    · exact hx
  all_goals exact hx
theorem SV.strip_rel {ρ : Env} {h : Heap} {x : SV} {v : Value} (hx : x.rel ρ h v) (hs : x.sure) : x.strip.rel ρ h v := by
  cases x
  case cnd b y => exact hx.1 hs
  all_goals exact hx
theorem sureL_mem {e : Opd → SV} : ∀ {l : List Opd}, sureL e l → ∀ y ∈ l, (e y).sure
  | [], _, y, hy => by cases hy
  | [x], h, y, hy => by simp at hy; subst hy; exact h
  | x :: z :: l, h, y, hy => by
    rcases List.mem_cons.1 hy with rfl | hy
    · exact h.1
    · exact sureL_mem h.2 y hy
/-- The deferred calls: marks of ranges over functions (their blocks new, empty, and persistent), and what was there before. -/
def markOf (b : Nat) : Deferred := { target := .collected b, args := #[] }
def Defs (B : Base) (h : Heap) (D l : List Deferred) : Prop := ∃ bs : List Nat, l = bs.map markOf ++ D ∧ bs.Nodup ∧ ∀ b ∈ bs, B.w0.heap.size ≤ b ∧ h b = some (.deferred (some []))
theorem Defs.mono {B : Base} {h h' : Heap} (hh : h ≤ h') {D l : List Deferred} (d : Defs B h D l) : Defs B h' D l := by
  obtain ⟨bs, h1, h2, h3⟩ := d
  exact ⟨bs, h1, h2, fun b hb => ⟨(h3 b hb).1, hh _ _ (h3 b hb).2⟩⟩
theorem Defs.refl (B : Base) (h : Heap) (D : List Deferred) : Defs B h D D := ⟨[], rfl, List.nodup_nil, fun b hb => by cases hb⟩
structure Rel (B : Base) (G : Glob) (D : List Deferred) (ρ : Env) (h : Heap) (S : St) (a : Act) (w : World) : Prop where
  size : a.tmps.size = S.t.length
  tmp : ∀ (i : Nat) x v, S.t[i]? = some x → a.tmps[i]? = some v → x.rel ρ h v
  defs : Defs B h D a.defers
  sat : Sat B ρ h S.own w
  glob : GlobOk G h
theorem Rel.eval {B : Base} {G : Glob} {D : List Deferred} {ρ : Env} {h : Heap} {S : St} {a : Act} {w : World} (r : Rel B G D ρ h S a w) {x : Operand} {y : Opd} (ho : OpdOk x y) :
    (evS G S y).rel ρ h (a.eval x) := by
  cases ho
  case tmp i =>
    simp only [evS, Act.eval]
    refine SV.res_rel r.sat ?_
    cases e : S.t[i]? with
    | none => rw [List.getD_eq_getElem?_getD, e]; trivial
    | some z =>
      rw [List.getD_eq_getElem?_getD, e]
      have hi : i < a.tmps.size := by rw [r.size]; exact (List.getElem?_eq_some_iff.1 e).1
      rw [show a.tmps.getD i undef = a.tmps[i] from by simp [hi]]
      exact r.tmp i z _ e (Array.getElem?_eq_getElem hi)
  case const v x hx => exact hx h
  case glob g =>
    simp only [evS, Act.eval]
    split
    · rename_i x e; exact (r.glob g x e).1
    · trivial
  case func f => exact ⟨[], rfl, rfl⟩
  case unk => trivial
/-- An operation that answers a value and leaves the world. -/
def Ans (P : Program) (s : Sem Next) (w : World) (v : Value) : Prop := s.run P w = .ok (.value v) w
theorem ans_v {P : Program} {s : Sem Value} {w w' : World} {v : Value} (h : s.run P w = .ok v w') : (do pure (Next.value (← s)) : Sem Next).run P w = .ok (.value v) w' := by
  simp [h]
theorem cell_of {h : Heap} {w : World} (hs : h ≤ full w) {b o : Nat} {vs : List Value} (hc : CellsAt h b o vs) {j : Nat} {v : Value} (hj : vs[j]? = some v) :
    w.cell? ⟨b, o + j, none⟩ = some v := by
  obtain ⟨c, ty, fz, h1, h2⟩ := hc j v hj
  have := hs _ _ h1
  simp only [full] at this
  simp [World.cell?, this, h2]
theorem isAgg_run {P : Program} {t : TypeId} {d : TypeDesc} (hu : P.underlying t = some d) (w : World) : (isAgg t).run P w = .ok (isAggT P t) w := by
  simp only [isAgg, isAggT, Sem.run_bind, run_underlying hu, Result.andThen_ok, hu]
  cases d <;> rfl
/-- A variable is read: one cell, or as many as its type has. -/
theorem loadAt_run {P : Program} {t : TypeId} {d : TypeDesc} {i : TypeInfo} (hu : P.underlying t = some d) (hi : P.info? t = some i) (h1 : isAggT P t = false → P.cellsOf t = 1)
    {w : World} {b o : Nat} {vs : List Value} (hl : vs.length = P.cellsOf t) (hc : ∀ (j : Nat) v, vs[j]? = some v → w.cell? ⟨b, o + j, none⟩ = some v) :
    (Instr.loadAt t (.pointer (some ⟨b, o, none⟩))).run P w = .ok (if isAggT P t then .agg vs.toArray else vs.getD 0 undef) w := by
  have hadd : ∀ j, (⟨b, o, none⟩ : Addr).add j = ⟨b, o + j, none⟩ := fun j => by
    unfold Addr.add
    split
    · rename_i e; subst e; rfl
    · rfl
  simp only [Instr.loadAt, Instr.sureAddr, Sem.run_bind, Sem.run_pure, Result.andThen_ok, loadVar, isAgg_run hu]
  cases hb : isAggT P t
  · simp only [Bool.false_eq_true, if_false]
    have h2 := h1 hb
    obtain ⟨v, rfl⟩ : ∃ v, vs = [v] := by
      match vs, hl with
      | [v], _ => exact ⟨v, rfl⟩
      | [], hl => simp [h2] at hl
      | _ :: _ :: _, hl => simp [h2] at hl
    have := hc 0 v rfl
    simp only [Nat.add_zero] at this
    simp [run_load, this]
  · simp only [if_true, Sem.run_bind, run_sizeOf w hi, Result.andThen_ok]
    rw [← hl, run_loadCells_list w ⟨b, o, none⟩ vs (fun j v hj => by rw [hadd]; exact hc j v hj)]
    simp
theorem take_drop_get {α : Type} {l : List α} {o n j : Nat} (hj : j < n) : ((l.drop o).take n)[j]? = l[o + j]? := by
  rw [List.getElem?_take_of_lt hj, List.getElem?_drop]
theorem PV.relL_get {h : Heap} : ∀ {cs : List PV} {vs : List Value}, PV.relL h cs vs → cs.length = vs.length ∧ ∀ (j : Nat) x v, cs[j]? = some x → vs[j]? = some v → x.rel h v
  | [], vs, e => by
    have : vs = [] := e
    subst this
    exact ⟨rfl, fun j x v a => by simp at a⟩
  | c :: cs, vs, ⟨v, vs', e, h1, h2⟩ => by
    subst e
    obtain ⟨l, g⟩ := PV.relL_get h2
    refine ⟨by simp [l], fun j x u a b => ?_⟩
    cases j with
    | zero => simp at a b; subst a; subst b; exact h1
    | succ j => simp at a b; exact g j x u a b
theorem PV.relL_of {h : Heap} : ∀ {cs : List PV} {vs : List Value}, cs.length = vs.length → (∀ (j : Nat) x v, cs[j]? = some x → vs[j]? = some v → x.rel h v) → PV.relL h cs vs
  | [], vs, l, _ => by
    cases vs with
    | nil => rfl
    | cons => cases l
  | c :: cs, vs, l, g => by
    cases vs with
    | nil => cases l
    | cons v vs => exact ⟨v, vs, rfl, g 0 c v rfl rfl, PV.relL_of (by simpa using l) fun j x u a b => g (j + 1) x u (by simpa using a) (by simpa using b)⟩
theorem SV.relL_get {ρ : Env} {h : Heap} : ∀ {cs : List SV} {vs : List Value}, SV.relL ρ h cs vs → cs.length = vs.length ∧ ∀ (j : Nat) x v, cs[j]? = some x → vs[j]? = some v → x.rel ρ h v
  | [], vs, e => by
    have : vs = [] := e
    subst this
    exact ⟨rfl, fun j x v a => by simp at a⟩
  | c :: cs, vs, ⟨v, vs', e, h1, h2⟩ => by
    subst e
    obtain ⟨l, g⟩ := SV.relL_get h2
    refine ⟨by simp [l], fun j x u a b => ?_⟩
    cases j with
    | zero => simp at a b; subst a; subst b; exact h1
    | succ j => simp at a b; exact g j x u a b
theorem SV.relL_of {ρ : Env} {h : Heap} : ∀ {cs : List SV} {vs : List Value}, cs.length = vs.length → (∀ (j : Nat) x v, cs[j]? = some x → vs[j]? = some v → x.rel ρ h v) → SV.relL ρ h cs vs
  | [], vs, l, _ => by
    cases vs with
    | nil => rfl
    | cons => cases l
  | c :: cs, vs, l, g => by
    cases vs with
    | nil => cases l
    | cons v vs => exact ⟨v, vs, rfl, g 0 c v rfl rfl, SV.relL_of (by simpa using l) fun j x u a b => g (j + 1) x u (by simpa using a) (by simpa using b)⟩
theorem SV.relL_of_p {ρ : Env} {h : Heap} : ∀ {cs : List PV} {vs : List Value}, SV.relL ρ h (cs.map .p) vs → PV.relL h cs vs
  | [], _, e => e
  | _ :: _, _, ⟨v, vs', e, h1, h2⟩ => ⟨v, vs', e, h1, SV.relL_of_p h2⟩
theorem SV.relL_p {ρ : Env} {h : Heap} : ∀ {cs : List PV} {vs : List Value}, PV.relL h cs vs → SV.relL ρ h (cs.map .p) vs
  | [], _, e => e
  | _ :: _, _, ⟨v, vs', e, h1, h2⟩ => ⟨v, vs', e, h1, SV.relL_p h2⟩
/-- A value's cells. -/
theorem PV.cells_rel {h : Heap} {x : PV} {u : Value} (hx : x.rel h u) : PV.relL h x.cells u.cells.toList := by
  cases x
  case agg cs => obtain ⟨vs, rfl, h1⟩ := hx; simpa [PV.cells, Value.cells] using h1
  case tup cs => obtain ⟨vs, rfl, h1⟩ := hx; exact ⟨_, [], rfl, ⟨vs, rfl, h1⟩, rfl⟩
  case int => cases hx; exact ⟨_, [], rfl, rfl, rfl⟩
  case bool => cases hx; exact ⟨_, [], rfl, rfl, rfl⟩
  case str => obtain ⟨s, rfl, e⟩ := hx; exact ⟨_, [], rfl, ⟨s, rfl, e⟩, rfl⟩
  case isl => obtain ⟨a, cap, rfl, e⟩ := hx; exact ⟨_, [], rfl, ⟨a, cap, rfl, e⟩, rfl⟩
  case sl => obtain ⟨a, cap, rfl, e⟩ := hx; exact ⟨_, [], rfl, ⟨a, cap, rfl, e⟩, rfl⟩
  case iref => obtain ⟨b, o, rfl, e⟩ := hx; exact ⟨_, [], rfl, ⟨b, o, rfl, e⟩, rfl⟩
  case elt => obtain ⟨b, o, rfl, e⟩ := hx; exact ⟨_, [], rfl, ⟨b, o, rfl, e⟩, rfl⟩
  case ref => obtain ⟨b, rfl, e⟩ := hx; exact ⟨_, [], rfl, ⟨b, rfl, e⟩, rfl⟩
  case fn => obtain ⟨vs, rfl, e⟩ := hx; exact ⟨_, [], rfl, ⟨vs, rfl, e⟩, rfl⟩
  case ifc => obtain ⟨vs, rfl, e⟩ := hx; exact ⟨_, [], rfl, ⟨vs, rfl, e⟩, rfl⟩
  all_goals (cases hx; exact ⟨_, [], rfl, rfl, rfl⟩)
/-- The i-th element of a row of elements: its cells' place, and what it is. -/
theorem PV.relE_get {h : Heap} {w : Nat} : ∀ {es : List PV} {vs : List Value} (i : Nat), PV.relE h w es vs → i < es.length →
    ∃ u : Value, (es.getD i .nilSl).rel h u ∧ u.cells.size = w ∧ ∀ (j : Nat) v, u.cells.toList[j]? = some v → vs[i * w + j]? = some v
  | [], _, _, _, hi => by simp at hi
  | x :: xs, vs, 0, ⟨u, vs', e, h1, h2, h3⟩, _ => by
    refine ⟨u, h2, h1, fun j v hj => ?_⟩
    subst e
    rw [List.getElem?_append_left (by rw [show 0 * w + j = j by omega]; exact (List.getElem?_eq_some_iff.1 hj).1)]
    simpa using hj
  | x :: xs, vs, i + 1, ⟨u, vs', e, h1, h2, h3⟩, hi => by
    obtain ⟨u', g1, g2, g3⟩ := PV.relE_get i h3 (by simpa using hi)
    refine ⟨u', by simpa using g1, g2, fun j v hj => ?_⟩
    subst e
    have hl : u.cells.toList.length = w := by simpa using h1
    rw [List.getElem?_append_right (by rw [hl, Nat.succ_mul]; omega), hl, show (i + 1) * w + j - w = i * w + j by rw [Nat.succ_mul]; omega]
    exact g3 j v hj
/-- What is read behind a persistent address. -/
theorem PV.ld_rel {P : Program} {t : TypeId} {d : TypeDesc} {i : TypeInfo} (hu : P.underlying t = some d) (hi : P.info? t = some i) (h1 : isAggT P t = false → P.cellsOf t = 1)
    {h : Heap} {w : World} (hs : h ≤ full w) {x : PV} {v : Value} (hx : x.rel h v) (hp : (x.ld (isAggT P t) (P.cellsOf t)).1) :
    ∃ u, (Instr.loadAt t v).run P w = .ok u w ∧ (x.ld (isAggT P t) (P.cellsOf t)).2.rel h u := by
  cases x
  case iref k l j =>
    obtain ⟨b, o, rfl, hc⟩ := hx
    obtain ⟨ha, hj⟩ := hp
    have hcell : (l.map (Value.int k))[j]? = some (.int k (l.getD j 0)) := by simp [hj, List.getD_eq_getElem?_getD]
    refine ⟨_, loadAt_run hu hi h1 (vs := [.int k (l.getD j 0)]) (by simp [h1 ha]) (fun j' v' e => ?_), ?_⟩
    · cases j' with
      | zero => cases e; exact cell_of hs hc hcell
      | succ => simp at e
    · simp [ha, PV.ld, PV.rel]
  case elt w0 es j o =>
    obtain ⟨b, o0, rfl, vs, hvs, hc⟩ := hx
    obtain ⟨hj, ho⟩ := hp
    obtain ⟨u, g1, g2, g3⟩ := PV.relE_get j hvs hj
    have hcs := PV.cells_rel g1
    obtain ⟨l1, l2⟩ := PV.relL_get hcs
    have hul : u.cells.toList.length = w0 := by simpa using g2
    refine ⟨_, loadAt_run hu hi h1 (vs := (u.cells.toList.drop o).take (P.cellsOf t)) (by rw [List.length_take, List.length_drop, hul]; omega) (fun j' v' e => ?_), ?_⟩
    · have hlt : j' < P.cellsOf t := by
        have := (List.getElem?_eq_some_iff.1 e).1
        rw [List.length_take] at this
        omega
      rw [take_drop_get hlt] at e
      have := cell_of hs hc (g3 _ _ e)
      rwa [show o0 + (j * w0 + (o + j')) = o0 + j * w0 + o + j' by omega] at this
    · simp only [PV.ld]
      split
      · refine ⟨_, rfl, PV.relL_of (by rw [List.length_take, List.length_drop, List.length_take, List.length_drop, l1]) fun j' x v' a b => ?_⟩
        have hlt : j' < P.cellsOf t := by
          have := (List.getElem?_eq_some_iff.1 b).1
          rw [List.length_take] at this
          omega
        rw [take_drop_get hlt] at a b
        exact l2 _ _ _ a b
      · rename_i hb
        have hb : isAggT P t = false := by simpa using hb
        have e1 := h1 hb
        rw [e1] at ho ⊢
        have hlt : o < u.cells.toList.length := by omega
        have hlt' : o < (es.getD j .nilSl).cells.length := by omega
        refine l2 o _ _ (getD_some _ hlt') ?_
        rw [List.getD_eq_getElem?_getD, take_drop_get (by omega), Nat.add_zero, List.getElem?_eq_getElem hlt]
        rfl
  case ref off cs =>
    obtain ⟨b, rfl, vs, hvs, hc⟩ := hx
    have ho : off + P.cellsOf t ≤ cs.length := hp
    obtain ⟨l1, l2⟩ := PV.relL_get hvs
    refine ⟨_, loadAt_run hu hi h1 (vs := (vs.drop off).take (P.cellsOf t)) (by rw [List.length_take, List.length_drop]; omega) (fun j' v' e => ?_), ?_⟩
    · have hlt : j' < P.cellsOf t := by
        have := (List.getElem?_eq_some_iff.1 e).1
        rw [List.length_take] at this
        omega
      rw [take_drop_get hlt] at e
      have := cell_of hs hc e
      rwa [Nat.zero_add] at this
    · simp only [PV.ld]
      split
      · refine ⟨_, rfl, PV.relL_of (by rw [List.length_take, List.length_drop, List.length_take, List.length_drop, l1]) fun j' x v' a b => ?_⟩
        have hlt : j' < P.cellsOf t := by
          have := (List.getElem?_eq_some_iff.1 b).1
          rw [List.length_take] at this
          omega
        rw [take_drop_get hlt] at a b
        exact l2 _ _ _ a b
      · rename_i hb
        have hb : isAggT P t = false := by simpa using hb
        have e1 := h1 hb
        rw [e1] at ho ⊢
        have hlt : off < vs.length := by omega
        have hlt' : off < cs.length := by omega
        refine l2 off _ _ (getD_some _ hlt') ?_
        rw [List.getD_eq_getElem?_getD, take_drop_get (by omega), Nat.add_zero, List.getElem?_eq_getElem hlt]
        rfl
  all_goals exact hp.elim
end Go.Fx
