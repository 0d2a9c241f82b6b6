/-
  Fx, part 6b: what single operations do.
-/
import Derived.Test.YtlfffpkfipdboaaDoorFxSound1
import Derived.Laws.Strings
import Derived.Laws.StructEq
import Derived.Laws.BytesString
set_option linter.unusedSimpArgs false
set_option linter.unusedVariables false
namespace Go.Fx
theorem getD_of {α : Type} {l : List α} {i : Nat} {d x : α} (h : l[i]? = some x) : l.getD i d = x := by
  rw [List.getD_eq_getElem?_getD, h]; rfl
theorem addOff (b o n : Nat) : (⟨b, o, none⟩ : Addr).add n = ⟨b, o + n, none⟩ := by
  unfold Addr.add
  split
  · rename_i e; subst e; rfl
  · rfl
mutual
theorem SV.pvS_rel {B : Base} {ρ : Env} {h : Heap} {own : List OB} {w : World} (s : Sat B ρ h own w) : ∀ (x : SV) (y : PV) (v : Value), x.pvS own = some y → x.rel ρ h v → y.rel h v
  | .p x, y, v, e, hx => by cases e; exact hx
  | .row id, y, v, e, hx => by
    simp only [SV.pvS] at e
    split at e
    · rename_i x e'
      cases e
      exact (s.look (id := id) hx.1 e' (by simp)).2
    · cases e
  | .ptr id off, y, v, e, hx => by
    simp only [SV.pvS] at e
    split at e
    · rename_i cs e'
      cases e
      obtain ⟨b, h1, rfl⟩ := hx
      obtain ⟨b', e2, vs, h2, h3⟩ := (s.look (id := id) h1 e' (by simp)).2
      cases e2
      exact ⟨b, rfl, vs, h2, h3⟩
    · cases e
  | .agg cs, y, v, e, ⟨vs, e1, h1⟩ => by
    simp only [SV.pvS, Option.map_eq_some_iff] at e
    obtain ⟨ys, e2, rfl⟩ := e
    exact ⟨vs, e1, SV.pvSL_rel s cs ys vs e2 h1⟩
  | .tup cs, y, v, e, ⟨vs, e1, h1⟩ => by
    simp only [SV.pvS, Option.map_eq_some_iff] at e
    obtain ⟨ys, e2, rfl⟩ := e
    exact ⟨vs, e1, SV.pvSL_rel s cs ys vs e2 h1⟩
  | .fn f cs, y, v, e, ⟨vs, e1, h1⟩ => by
    simp only [SV.pvS, Option.map_eq_some_iff] at e
    obtain ⟨ys, e2, rfl⟩ := e
    exact ⟨vs, e1, SV.pvSL_rel s cs ys vs e2 h1⟩
  | .rptr .., y, v, e, _ => by cases e
  | .mp .., y, v, e, _ => by cases e
  | .cnd .., y, v, e, _ => by cases e
  | .any, y, v, e, _ => by cases e
theorem SV.pvSL_rel {B : Base} {ρ : Env} {h : Heap} {own : List OB} {w : World} (s : Sat B ρ h own w) : ∀ (x : List SV) (y : List PV) (v : List Value), SV.pvSL own x = some y → SV.relL ρ h x v → PV.relL h y v
  | [], y, v, e, hx => by
    simp only [SV.pvSL] at e; cases e; exact hx
  | x :: xs, y, v, e, ⟨u, us, e1, h1, h2⟩ => by
    simp only [SV.pvSL] at e
    split at e
    · rename_i a b e2 e3
      cases e
      exact ⟨u, us, e1, SV.pvS_rel s x a u e2 h1, SV.pvSL_rel s xs b us e3 h2⟩
    · cases e
end
theorem PV.scal_one {h : Heap} {x : PV} {v : Value} (hx : x.rel h v) (hs : x.scal = true) : v.oneCell' = true ∧ v.cells = #[v] := by
  cases x <;> simp only [PV.scal] at hs <;> first | (cases hs; done) | skip
  case str => obtain ⟨s, rfl, e⟩ := hx; exact ⟨rfl, rfl⟩
  case isl => obtain ⟨a, cap, rfl, e⟩ := hx; exact ⟨rfl, rfl⟩
  case sl => obtain ⟨a, cap, rfl, e⟩ := hx; exact ⟨rfl, rfl⟩
  case iref => obtain ⟨b, o, rfl, e⟩ := hx; exact ⟨rfl, rfl⟩
  case elt => obtain ⟨b, o, rfl, e⟩ := hx; exact ⟨rfl, rfl⟩
  case ref => obtain ⟨b, rfl, e⟩ := hx; exact ⟨rfl, rfl⟩
  case fn => obtain ⟨vs, rfl, e⟩ := hx; exact ⟨rfl, rfl⟩
  case ifc => obtain ⟨vs, rfl, e⟩ := hx; exact ⟨rfl, rfl⟩
  all_goals (cases hx; exact ⟨rfl, rfl⟩)
theorem SV.scal_one {ρ : Env} {h : Heap} {x : SV} {v : Value} (hx : x.rel ρ h v) (hs : x.scal = true) : v.oneCell' = true ∧ v.cells = #[v] := by
  have key : v.oneCell' = true → v.cells = #[v] := by cases v <;> simp [Value.oneCell', Value.cells]
  cases x <;> simp only [SV.scal] at hs <;> first | (cases hs; done) | skip
  case p x => exact PV.scal_one hx hs
  case row => exact ⟨hx.2, key hx.2⟩
  case mp => exact ⟨hx.2, key hx.2⟩
  case ptr => obtain ⟨b, _, rfl⟩ := hx; exact ⟨rfl, rfl⟩
  case rptr => obtain ⟨b, _, _, _, rfl⟩ := hx; exact ⟨rfl, rfl⟩
  case fn => obtain ⟨vs, rfl, _⟩ := hx; exact ⟨rfl, rfl⟩
/-- A value's cells, each of one cell. -/
theorem SV.cells_rel {ρ : Env} {h : Heap} {x : SV} {v : Value} (hx : x.rel ρ h v) (hs : x.cells.all (·.scal) = true) :
    SV.relL ρ h x.cells v.cells.toList ∧ ∀ u ∈ v.cells.toList, u.oneCell' = true := by
  have one : x.scal = true → x.cells = [x] → SV.relL ρ h x.cells v.cells.toList ∧ ∀ u ∈ v.cells.toList, u.oneCell' = true := fun h1 h2 => by
    obtain ⟨a, b⟩ := SV.scal_one hx h1
    rw [h2, b]
    exact ⟨⟨v, [], rfl, hx, rfl⟩, fun u hu => by simp at hu; subst hu; exact a⟩
  have many : ∀ {cs : List SV} {vs : List Value}, SV.relL ρ h cs vs → cs.all (·.scal) = true → ∀ u ∈ vs, u.oneCell' = true := by
    intro cs vs hr ha u hu
    obtain ⟨l1, l2⟩ := SV.relL_get hr
    obtain ⟨j, hj, rfl⟩ := List.getElem_of_mem hu
    have hj' : j < cs.length := by omega
    exact (SV.scal_one (l2 j _ _ (List.getElem?_eq_getElem hj') (List.getElem?_eq_getElem hj)) (List.all_eq_true.1 ha _ (List.getElem_mem hj'))).1
  cases x
  case agg cs =>
    obtain ⟨vs, rfl, h1⟩ := hx
    have h2 : (Value.agg vs.toArray).cells.toList = vs := by simp [Value.cells]
    rw [h2]
    exact ⟨h1, many h1 hs⟩
  case p x =>
    cases x
    case agg cs =>
      obtain ⟨vs, rfl, h1⟩ := hx
      have h2 : (Value.agg vs.toArray).cells.toList = vs := by simp [Value.cells]
      rw [h2]
      exact ⟨SV.relL_p h1, many (SV.relL_p h1) hs⟩
    all_goals exact one (by simpa [SV.cells, PV.cells] using hs) rfl
  all_goals exact one (by simpa [SV.cells] using hs) rfl
theorem splice_fold' : ∀ (cs : List Value) (j off : Nat) (a : Array Value) (A B C : List Value), a.toList = A ++ B ++ C → A.length = off + j → B.length = cs.length →
    ((cs.zipIdx j).foldl (fun (a : Array Value) (q : Value × Nat) => a.setIfInBounds (off + q.2) q.1) a).toList = A ++ cs ++ C
  | [], j, off, a, A, B, C, h, _, hB => by
    obtain rfl := List.length_eq_zero_iff.1 hB
    simpa using h
  | c :: cs, j, off, a, A, B, C, h, hA, hB => by
    obtain ⟨b, B', rfl⟩ : ∃ b B', B = b :: B' := by
      cases B with
      | nil => simp at hB
      | cons b B' => exact ⟨b, B', rfl⟩
    simp only [List.zipIdx_cons, List.foldl_cons]
    rw [splice_fold' cs (j + 1) off _ (A ++ [c]) B' C (by
      rw [Array.toList_setIfInBounds, h, ← hA]
      simp [List.set_append]) (by simp; omega) (by simpa using hB)]
    simp
theorem splice_fold (cs : List Value) (j off : Nat) (a : Array Value) (hl : off + j + cs.length ≤ a.size) :
    ((cs.zipIdx j).foldl (fun (a : Array Value) (q : Value × Nat) => a.setIfInBounds (off + q.2) q.1) a).toList = a.toList.take (off + j) ++ cs ++ a.toList.drop (off + j + cs.length) := by
  refine splice_fold' cs j off a _ ((a.toList.drop (off + j)).take cs.length) _ ?_ ?_ ?_
  · rw [List.append_assoc, show a.toList.drop (off + j + cs.length) = (a.toList.drop (off + j)).drop cs.length by rw [List.drop_drop], List.take_append_drop, List.take_append_drop]
  · simp; omega
  · simp; omega
theorem SV.relL_append {ρ : Env} {h : Heap} : ∀ {a b : List SV} {x y : List Value}, SV.relL ρ h a x → SV.relL ρ h b y → SV.relL ρ h (a ++ b) (x ++ y)
  | [], b, x, y, h1, h2 => by
    have : x = [] := h1
    subst this; exact h2
  | c :: a, b, x, y, ⟨v, vs', e, h1, h3⟩, h2 => by
    subst e
    exact ⟨v, _, rfl, h1, SV.relL_append h3 h2⟩
theorem SV.relL_take {ρ : Env} {h : Heap} {a : List SV} {x : List Value} (h1 : SV.relL ρ h a x) (n : Nat) : SV.relL ρ h (a.take n) (x.take n) := by
  obtain ⟨l1, l2⟩ := SV.relL_get h1
  refine SV.relL_of (by simp [l1]) fun j u v e1 e2 => ?_
  have hj : j < n := by
    have := (List.getElem?_eq_some_iff.1 e1).1
    simp at this; omega
  rw [List.getElem?_take_of_lt hj] at e1 e2
  exact l2 j u v e1 e2
theorem SV.relL_drop {ρ : Env} {h : Heap} {a : List SV} {x : List Value} (h1 : SV.relL ρ h a x) (n : Nat) : SV.relL ρ h (a.drop n) (x.drop n) := by
  obtain ⟨l1, l2⟩ := SV.relL_get h1
  refine SV.relL_of (by simp [l1]) fun j u v e1 e2 => ?_
  rw [List.getElem?_drop] at e1 e2
  exact l2 _ u v e1 e2
theorem SV.relL_splice {ρ : Env} {h : Heap} {a b : List SV} {x y : List Value} (h1 : SV.relL ρ h a x) (h2 : SV.relL ρ h b y) (off : Nat) : SV.relL ρ h (spliceL a off b) (spliceL x off y) := by
  have l := (SV.relL_get h2).1
  unfold spliceL
  rw [l]
  exact SV.relL_append (SV.relL_append (SV.relL_take h1 off) h2) (SV.relL_drop h1 _)
theorem allP_rel {ρ : Env} {h : Heap} : ∀ {cs : List SV} {xs : List PV} {vs : List Value}, allP cs = some xs → SV.relL ρ h cs vs → PV.relL h xs vs
  | [], xs, vs, e, hr => by simp only [allP] at e; cases e; exact hr
  | c :: cs, xs, vs, e, ⟨v, vs', e1, h1, h2⟩ => by
    cases c <;> simp only [allP] at e <;> first | (cases e; done) | skip
    rw [Option.map_eq_some_iff] at e
    obtain ⟨ys, e2, rfl⟩ := e
    exact ⟨v, vs', e1, h1, allP_rel e2 h2⟩
theorem aggS_rel {ρ : Env} {h : Heap} {cs : List SV} {vs : List Value} (hr : SV.relL ρ h cs vs) : (aggS cs).rel ρ h (.agg vs.toArray) := by
  unfold aggS
  split
  · rename_i xs e
    exact ⟨vs, rfl, allP_rel e hr⟩
  · exact ⟨vs, rfl, hr⟩
/-- One part of a literal is laid down. -/
theorem fill_step (cells cs : Array Value) (off : Nat) (hl : off + cs.size ≤ cells.size) :
    (cs.zipIdx.foldl (fun (a : Array Value) (x : Value × Nat) => a.setIfInBounds (off + x.2) x.1) cells).toList = spliceL cells.toList off cs.toList := by
  rw [← Array.foldl_toList, Array.toList_zipIdx, splice_fold _ 0 off cells (by simpa using hl)]
  simp [spliceL]
theorem fill_sem {ρ : Env} {h : Heap} {place : Nat → Option (Nat × Nat)} {e : Opd → SV} {ev : Operand → Value} : ∀ {ps : List (Nat × Operand)} {qs : List (Nat × Nat × Opd)}, Parts place ps qs →
    ∀ {cs cs' : List SV} {cells : Array Value}, SV.relL ρ h cs cells.toList → (∀ x y, OpdOk x y → y ∈ qs.map (·.2.2) → (e y).rel ρ h (ev x)) → fillL cs (qs.map fun q => (q.1, q.2.1, e q.2.2)) = some cs' →
      ∃ cells', Instr.fill place cells (ps.map fun (i, x) => (i, ev x)) = some cells' ∧ SV.relL ρ h cs' cells'.toList
  | _, _, .nil, cs, cs', cells, hr, he, hf => by
    simp only [List.map_nil, fillL] at hf
    cases hf
    exact ⟨cells, rfl, hr⟩
  | (i, x) :: ps, (off, n, y) :: qs, .cons hp ho hps, cs, cs', cells, hr, he, hf => by
    simp only [List.map_cons, fillL] at hf
    split at hf
    · rename_i hc
      obtain ⟨h1, h2, h3⟩ := hc
      have gx := he x y ho (by simp)
      obtain ⟨g1, g2⟩ := SV.cells_rel gx h3
      have l1 := (SV.relL_get hr).1
      have l2 := (SV.relL_get g1).1
      have hsz : (ev x).cells.size = n := by rw [← h1, l2]; simp
      have hle : off + (ev x).cells.size ≤ cells.size := by rw [hsz]; rw [l1] at h2; simpa using h2
      have hst := fill_step cells (ev x).cells off hle
      obtain ⟨cells', k1, k2⟩ := fill_sem hps (cells := (ev x).cells.zipIdx.foldl (fun (a : Array Value) (q : Value × Nat) => a.setIfInBounds (off + q.2) q.1) cells) (cs := spliceL cs off (e y).cells) (cs' := cs')
        (by rw [hst]; exact SV.relL_splice hr g1 off) (fun x' y' a b => he x' y' a (by simp at b ⊢; exact .inr b)) hf
      refine ⟨cells', ?_, k2⟩
      simp only [List.map_cons, Instr.fill, hp]
      rw [if_neg (by simp only [hsz, ne_eq, not_true_eq_false, decide_false, Bool.false_or, decide_eq_true_eq]; rw [hsz] at hle; omega)]
      exact k1
    · cases hf
theorem fields_run {P : Program} (w : World) : ∀ (fs : List Field), (∀ f ∈ fs, (P.info? f.type).isSome = true) →
    (fs.mapM fun f => (do pure (f.offset, ← sizeOf f.type) : Sem (Nat × Nat))).run P w = .ok (fs.map fun f => (f.offset, P.cellsOf f.type)) w
  | [], _ => rfl
  | f :: fs, h => by
    obtain ⟨i, hi⟩ := Option.isSome_iff_exists.1 (h f (by simp))
    simp only [List.mapM_cons, Sem.run_bind, run_sizeOf w hi, Result.andThen_ok, Sem.run_pure, fields_run w fs fun g hg => h g (by simp [hg]), List.map_cons]
theorem build_run {P : Program} {t : TypeId} {i : TypeInfo} {z : Value} {place : Nat → Option (Nat × Nat)} (hi : P.info? t = some i) (hz : i.zero = some z) (hb : BuildAt P t place) (w : World) {parts : Array (Nat × Value)} {cells : Array Value}
    (hf : Instr.fill place z.cells parts.toList = some cells) : (Instr.build t parts).run P w = .ok (.agg cells) w := by
  have h0 : (zeroValue t).run P w = .ok z w := by simp [zeroValue, typeInfo, hi, hz]
  rcases hb with ⟨fs, hu, hfs, rfl⟩ | ⟨n, e, hu, he, rfl⟩
  · have h1 := fields_run (P := P) w fs.toList hfs
    have h2 : (fs.mapM fun f => (do pure (f.offset, ← sizeOf f.type) : Sem (Nat × Nat))).run P w = .ok (fs.map fun f => (f.offset, P.cellsOf f.type)) w := by
      rw [Array.mapM_eq_mapM_toList]
      simp only [Sem.run_map, h1, Result.andThen_ok]
      congr 1
      apply Array.ext'
      simp
    simp only [Instr.build, Sem.run_bind, h0, Result.andThen_ok, run_underlying hu, h2, hf, Sem.run_pure]
  · obtain ⟨j, hj⟩ := Option.isSome_iff_exists.1 he
    simp only [Instr.build, Sem.run_bind, h0, Result.andThen_ok, run_underlying hu, run_sizeOf w hj, hf, Sem.run_pure]
theorem part_run {P : Program} {t : TypeId} {d : TypeDesc} {i : TypeInfo} (hu : P.underlying t = some d) (hi : P.info? t = some i) (h1 : isAggT P t = false → P.cellsOf t = 1) (w : World) (cs : Array Value) (off : Nat)
    (hl : off + P.cellsOf t ≤ cs.size) : (part t cs off).run P w = .ok (if isAggT P t then .agg ((cs.toList.drop off).take (P.cellsOf t)).toArray else cs.toList.getD off undef) w := by
  simp only [part, Sem.run_bind, isAgg_run hu, Result.andThen_ok]
  cases hb : isAggT P t
  · have h2 := h1 hb
    have hlt : off < cs.size := by omega
    have hlt' : off < cs.toList.length := by simpa using hlt
    simp only [Bool.false_eq_true, if_false]
    rw [Array.getElem?_eq_getElem hlt]
    rw [List.getD_eq_getElem?_getD, List.getElem?_eq_getElem hlt']
    rfl
  · simp only [if_true, Sem.run_bind, run_sizeOf w hi, Result.andThen_ok, Sem.run_pure]
    congr 2
    apply Array.ext'
    rw [Array.toList_extract]
    simp [List.extract]
theorem PV.relL_take {h : Heap} {a : List PV} {x : List Value} (h1 : PV.relL h a x) (n : Nat) : PV.relL h (a.take n) (x.take n) := by
  obtain ⟨l1, l2⟩ := PV.relL_get h1
  refine PV.relL_of (by simp [l1]) fun j u v e1 e2 => ?_
  have hj : j < n := by
    have := (List.getElem?_eq_some_iff.1 e1).1
    simp at this; omega
  rw [List.getElem?_take_of_lt hj] at e1 e2
  exact l2 j u v e1 e2
theorem PV.relL_drop {h : Heap} {a : List PV} {x : List Value} (h1 : PV.relL h a x) (n : Nat) : PV.relL h (a.drop n) (x.drop n) := by
  obtain ⟨l1, l2⟩ := PV.relL_get h1
  refine PV.relL_of (by simp [l1]) fun j u v e1 e2 => ?_
  rw [List.getElem?_drop] at e1 e2
  exact l2 _ u v e1 e2
/-- A part of a value's cells. -/
theorem part_rel {P : Program} {t : TypeId} (h1 : isAggT P t = false → P.cellsOf t = 1) {ρ : Env} {h : Heap} {cs : List SV} {vs : List Value} (hr : SV.relL ρ h cs vs) {off : Nat} (hl : off + P.cellsOf t ≤ cs.length) :
    (if isAggT P t then SV.agg ((cs.drop off).take (P.cellsOf t)) else cs.getD off .any).rel ρ h (if isAggT P t then .agg ((vs.drop off).take (P.cellsOf t)).toArray else vs.getD off undef) := by
  have l := (SV.relL_get hr).1
  cases hb : isAggT P t
  · have h2 := h1 hb
    simp only [Bool.false_eq_true, if_false]
    have hv : off < vs.length := by omega
    exact (SV.relL_get hr).2 off _ _ (getD_some _ (by omega)) (getD_some _ hv)
  · simp only [if_true]
    exact ⟨_, rfl, SV.relL_take (SV.relL_drop hr off) _⟩
theorem part_relP {P : Program} {t : TypeId} (h1 : isAggT P t = false → P.cellsOf t = 1) {h : Heap} {cs : List PV} {vs : List Value} (hr : PV.relL h cs vs) {off : Nat} (hl : off + P.cellsOf t ≤ cs.length) :
    (if isAggT P t then PV.agg ((cs.drop off).take (P.cellsOf t)) else cs.getD off .nilSl).rel h (if isAggT P t then .agg ((vs.drop off).take (P.cellsOf t)).toArray else vs.getD off undef) := by
  have l := (PV.relL_get hr).1
  cases hb : isAggT P t
  · have h2 := h1 hb
    simp only [Bool.false_eq_true, if_false]
    have hv : off < vs.length := by omega
    exact (PV.relL_get hr).2 off _ _ (getD_some _ (by omega)) (getD_some _ hv)
  · simp only [if_true]
    exact ⟨_, rfl, PV.relL_take (PV.relL_drop hr off) _⟩
/-! ### Slices -/
def NumOk : Option Value → Option (Option Int) → Prop
  | none, none => True
  | some v, some (some n) => ∃ k, v = .int k n
  | some _, some none => True
  | _, _ => False
theorem num_rel {ρ : Env} {h : Heap} {x : SV} {v : Value} (hx : x.rel ρ h v) {n : Int} (hn : x.num = some n) : ∃ k, v = .int k n := by
  cases x <;> simp only [SV.num] at hn <;> first | (cases hn; done) | skip
  rename_i y
  cases y <;> simp only [SV.num] at hn <;> first | (cases hn; done) | skip
  cases hn
  exact ⟨_, hx⟩
theorem NumOk.of {ρ : Env} {h : Heap} {e : Opd → SV} {ev : Operand → Value} {lo : Option Operand} {lo' : Option Opd} (ho : OptOk lo lo') (he : ∀ x y, OpdOk x y → y ∈ lo'.toList → (e y).rel ρ h (ev x)) :
    NumOk (lo.map ev) (lo'.map fun o => (e o).num) := by
  cases ho with
  | none => trivial
  | @some x y ho =>
    simp only [Option.map_some]
    cases hn : (e y).num with
    | none => trivial
    | some n => exact num_rel (he x y ho (by simp)) hn
theorem bound_run {P : Program} (w : World) (k : IntKind) {i : Int} {y : Nat} (c : Go.BoundsCode) (h0 : 0 ≤ i) (h1 : i ≤ y) : (Instr.sliceBound (.int k i) y c).run P w = .ok i.toNat w := by
  simp only [Instr.sliceBound, asIntOf, Sem.run_bind, Sem.run_pure, Result.andThen_ok, h0, h1, and_self, if_true]
def mxOf (m : Option Int) (cap : Nat) : Nat := match m with
  | some q => q.toNat
  | none => cap
theorem bounds_run {P : Program} (w : World) (sl : Bool) {len cap : Nat} {lo hi mx : Option Value} {lo' hi' mx' : Option (Option Int)} (a : NumOk lo lo') (b : NumOk hi hi') (c : NumOk mx mx') (hc : len ≤ cap)
    (hok : slcOk len (bnds len lo' hi' mx')) : ∃ l h m, bnds len lo' hi' mx' = some (l, h, m) ∧ 0 ≤ l ∧ l ≤ h ∧ h ≤ len ∧ (∀ q, m = some q → h ≤ q ∧ q ≤ len) ∧ (m = none → (hi' = none → h = len)) ∧ (hi'.isSome = true ∨ m = none) ∧
      (Instr.sliceBounds sl len cap lo hi mx).run P w = .ok (l.toNat, h.toNat, mxOf m cap) w := by
  have fin : ∀ {l h : Int} {m : Option Int}, bnds len lo' hi' mx' = some (l, h, m) → slcOk len (some (l, h, m)) → True := fun _ _ => trivial
  cases mx with
  | none =>
    cases mx' with
    | some => exact c.elim
    | none =>
      cases hi with
      | none =>
        cases hi' with
        | some => exact b.elim
        | none =>
          cases lo with
          | none =>
            cases lo' with
            | some => exact a.elim
            | none =>
              refine ⟨0, len, none, rfl, Int.le_refl _, by omega, Int.le_refl _, (fun q e => by cases e), fun _ _ => rfl, .inr rfl, ?_⟩
              simp [mxOf, Instr.sliceBounds]
          | some v =>
            cases lo' with
            | none => exact a.elim
            | some n =>
              cases n with
              | none => exact hok.elim
              | some n =>
                obtain ⟨k, rfl⟩ := a
                obtain ⟨h1, h2, h3⟩ := hok
                refine ⟨n, len, none, rfl, h1, h2, h3, (fun q e => by cases e), fun _ _ => rfl, .inr rfl, ?_⟩
                simp [mxOf, Instr.sliceBounds, bound_run w k _ h1 h2]
      | some v =>
        cases hi' with
        | none => exact b.elim
        | some n =>
          cases n with
          | none => cases lo' with
            | none => exact hok.elim
            | some q => cases q <;> exact hok.elim
          | some hh =>
            obtain ⟨k, rfl⟩ := b
            cases lo with
            | none =>
              cases lo' with
              | some => exact a.elim
              | none =>
                obtain ⟨h1, h2, h3⟩ := hok
                refine ⟨0, hh, none, rfl, h1, h2, h3, (fun q e => by cases e), (fun _ e => by cases e), .inl rfl, ?_⟩
                have := bound_run (P := P) w k (y := cap) (if sl = true then BoundsCode.sliceAcap else BoundsCode.sliceAlen) h2 (by omega)
                simp [mxOf, Instr.sliceBounds, this]
            | some v =>
              cases lo' with
              | none => exact a.elim
              | some n =>
                cases n with
                | none => exact hok.elim
                | some n =>
                  obtain ⟨k', rfl⟩ := a
                  obtain ⟨h1, h2, h3⟩ := hok
                  refine ⟨n, hh, none, rfl, h1, h2, h3, (fun q e => by cases e), (fun _ e => by cases e), .inl rfl, ?_⟩
                  have g1 := bound_run (P := P) w k (y := cap) (if sl = true then BoundsCode.sliceAcap else BoundsCode.sliceAlen) (show 0 ≤ hh by omega) (by omega)
                  have g2 := bound_run (P := P) w k' (i := n) (y := hh.toNat) BoundsCode.sliceB h1 (by omega)
                  simp [mxOf, Instr.sliceBounds, g1, g2]
  | some v =>
    cases mx' with
    | none => exact c.elim
    | some q =>
      cases hi' with
      | none => cases lo' with
        | none => exact hok.elim
        | some q => cases q <;> exact hok.elim
      | some hq =>
        cases hq with
        | none => cases lo' with
          | none => exact hok.elim
          | some q => cases q <;> exact hok.elim
        | some hh =>
          cases q with
          | none => cases lo' with
            | none => exact hok.elim
            | some q => cases q <;> exact hok.elim
          | some m =>
            obtain ⟨k, rfl⟩ := c
            cases hi with
            | none => exact b.elim
            | some v =>
              obtain ⟨k', rfl⟩ := b
              cases lo with
              | none =>
                cases lo' with
                | some => exact a.elim
                | none =>
                  obtain ⟨h1, h2, h3, h4⟩ := hok
                  refine ⟨0, hh, some m, rfl, h1, h2, by omega, (fun q e => by cases e; exact ⟨h3, h4⟩), (fun e => by cases e), .inl rfl, ?_⟩
                  have g1 := bound_run (P := P) w k (i := m) (y := cap) (if sl = true then BoundsCode.slice3Acap else BoundsCode.slice3Alen) (show 0 ≤ m by omega) (by omega)
                  have g2 := bound_run (P := P) w k' (i := hh) (y := m.toNat) BoundsCode.slice3B h2 (by omega)
                  simp [mxOf, Instr.sliceBounds, g1, g2]
              | some v =>
                cases lo' with
                | none => exact a.elim
                | some n =>
                  cases n with
                  | none => exact hok.elim
                  | some n =>
                    obtain ⟨k2, rfl⟩ := a
                    obtain ⟨h1, h2, h3, h4⟩ := hok
                    refine ⟨n, hh, some m, rfl, h1, h2, by omega, (fun q e => by cases e; exact ⟨h3, h4⟩), (fun e => by cases e), .inl rfl, ?_⟩
                    have g1 := bound_run (P := P) w k (i := m) (y := cap) (if sl = true then BoundsCode.slice3Acap else BoundsCode.slice3Alen) (show 0 ≤ m by omega) (by omega)
                    have g2 := bound_run (P := P) w k' (i := hh) (y := m.toNat) BoundsCode.slice3B (show 0 ≤ hh by omega) (by omega)
                    have g3 := bound_run (P := P) w k2 (i := n) (y := hh.toNat) BoundsCode.slice3C h1 (by omega)
                    simp [mxOf, Instr.sliceBounds, g1, g2, g3]
theorem sliceAt_run {P : Program} {t e : TypeId} {d : TypeInfo} (hu : P.underlying t = some (.slice e)) (hi : P.info? e = some d) (w : World) {a : Option Addr} {len cap : Nat} {lo hi' mx : Option Value} {l h m : Nat}
    (hb : (Instr.sliceBounds true len cap lo hi' mx).run P w = .ok (l, h, m) w) :
    (Instr.sliceAt t (.slice a len cap) lo hi' mx).run P w = .ok (.slice (if m = l then a else a.map (·.add (l * P.cellsOf e))) (h - l) (m - l)) w := by
  simp only [Instr.sliceAt, Instr.slice, Sem.run_bind, run_underlying hu, Result.andThen_ok, hb, run_sizeOf w hi, Sem.run_pure]
theorem cutL_length {α : Type} {l : List α} {a b : Int} {m : Option Int} (h1 : 0 ≤ a) (h2 : a ≤ b) (h3 : b ≤ l.length) : (cutL l (some (a, b, m))).length = b.toNat - a.toNat := by
  simp only [cutL, List.length_take, List.length_drop]; omega
theorem CellsAt.part {h : Heap} {b o : Nat} {vs : List Value} (x : CellsAt h b o vs) (i n : Nat) : CellsAt h b (o + i) ((vs.drop i).take n) := fun j v e => by
  have hj : j < n := by
    have := (List.getElem?_eq_some_iff.1 e).1
    simp at this; omega
  rw [take_drop_get hj] at e
  have := x (i + j) v e
  rwa [← Nat.add_assoc] at this
theorem PV.relE_append {h : Heap} {w : Nat} : ∀ {a b : List PV} {x y : List Value}, PV.relE h w a x → PV.relE h w b y → PV.relE h w (a ++ b) (x ++ y)
  | [], b, x, y, h1, h2 => by
    have : x = [] := h1
    subst this; exact h2
  | c :: a, b, x, y, ⟨u, vs', e, h1, h3, h4⟩, h2 => by
    subst e
    exact ⟨u, _, by simp, h1, h3, PV.relE_append h4 h2⟩
theorem PV.relE_len {h : Heap} {w : Nat} : ∀ {xs : List PV} {vs : List Value}, PV.relE h w xs vs → vs.length = xs.length * w
  | [], vs, e => by
    have : vs = [] := e
    subst this; simp
  | x :: xs, vs, ⟨u, vs', e, h1, h2, h3⟩ => by
    subst e
    rw [List.length_append, PV.relE_len h3, List.length_cons, Nat.add_mul, Nat.one_mul]
    simp [h1]; omega
theorem PV.relE_drop {h : Heap} {w : Nat} : ∀ {es : List PV} {vs : List Value} (i : Nat), PV.relE h w es vs → PV.relE h w (es.drop i) (vs.drop (i * w))
  | es, vs, 0, hr => by simpa using hr
  | [], vs, i + 1, hr => by
    have : vs = [] := hr
    subst this; simp [PV.relE]
  | x :: xs, vs, i + 1, ⟨u, vs', e, h1, h2, h3⟩ => by
    subst e
    have hl : u.cells.toList.length = w := by simpa using h1
    rw [List.drop_succ_cons, show (i + 1) * w = u.cells.toList.length + i * w by rw [hl, Nat.add_mul]; omega, List.drop_length_add_append]
    exact PV.relE_drop i h3
theorem PV.relE_take {h : Heap} {w : Nat} : ∀ {es : List PV} {vs : List Value} (i : Nat), PV.relE h w es vs → PV.relE h w (es.take i) (vs.take (i * w))
  | es, vs, 0, hr => by simp [PV.relE]
  | [], vs, i + 1, hr => by
    have : vs = [] := hr
    subst this; simp [PV.relE]
  | x :: xs, vs, i + 1, ⟨u, vs', e, h1, h2, h3⟩ => by
    subst e
    have hl : u.cells.toList.length = w := by simpa using h1
    refine ⟨u, vs'.take (i * w), ?_, h1, h2, PV.relE_take i h3⟩
    rw [show (i + 1) * w = u.cells.toList.length + i * w by rw [hl, Nat.add_mul]; omega, List.take_length_add_append]
/-- A slice's slice. -/
theorem slc_isl {P : Program} {t e : TypeId} {d : TypeInfo} (hu : P.underlying t = some (.slice e)) (hi : P.info? e = some d) (hw1 : P.cellsOf e = 1) (w : World) {h : Heap} {nil ex : Bool} {k : IntKind} {l : List Int} {v : Value} (hx : (PV.isl nil ex k l).rel h v)
    {lo hi' mx : Option Value} {lo' hi2 mx' : Option (Option Int)} (a : NumOk lo lo') (b : NumOk hi' hi2) (c : NumOk mx mx') (hok : slcOk l.length (bnds l.length lo' hi2 mx')) :
    ∃ u, (Instr.sliceAt t v lo hi' mx).run P w = .ok u w ∧ (PV.isl nil (slcEx ex hi2.isSome (bnds l.length lo' hi2 mx')) k (cutL l (bnds l.length lo' hi2 mx'))).rel h u := by
  obtain ⟨ad, cap, rfl, h1, h2, h3, h4, h5⟩ := hx
  obtain ⟨l0, hh, m, e1, q1, q2, q3, q4, q5, q6, q7⟩ := bounds_run (P := P) w true a b c h1 hok
  rw [e1]
  refine ⟨_, sliceAt_run hu hi w q7, ?_⟩
  have hlen := cutL_length (m := m) q1 q2 q3
  have hM : hh.toNat ≤ mxOf m cap := by
    cases m with
    | none => simp only [mxOf]; omega
    | some q => have := q4 q rfl; simp only [mxOf]; omega
  have hM2 : mxOf m cap ≤ cap := by
    cases m with
    | none => exact Nat.le_refl _
    | some q => have := q4 q rfl; simp only [mxOf]; omega
  have hex : slcEx ex hi2.isSome (some (l0, hh, m)) = true → mxOf m cap = hh.toNat := by
    intro e2
    cases m with
    | some q => simp only [slcEx, beq_iff_eq] at e2; simp only [mxOf]; omega
    | none =>
      simp only [slcEx] at e2
      split at e2
      · cases e2
      · rename_i h6
        have h7 : hi2 = none := by cases hi2 <;> simp at h6 ⊢
        have := q5 rfl h7
        have := h2 e2
        simp only [mxOf]; omega
  generalize hMd : mxOf m cap = M at hM hM2 hex
  refine ⟨_, _, by rw [hlen], by rw [hlen]; omega, (fun e2 => by rw [hlen, hex e2]), ?_, ?_, ?_⟩
  · rw [h3]
    split
    · exact Iff.rfl
    · cases ad <;> simp
  · intro e2
    have : ad = none := by
      split at e2
      · exact e2
      · cases ad <;> simp at e2 ⊢
    have := h4 this
    omega
  · intro ad' e2
    obtain ⟨ad0, rfl⟩ : ∃ ad0, ad = some ad0 := by
      cases ad with
      | none => split at e2 <;> simp at e2
      | some ad0 => exact ⟨ad0, rfl⟩
    obtain ⟨h5a, h5b⟩ := h5 ad0 rfl
    obtain ⟨bb, oo, sp⟩ := ad0
    dsimp only at h5a h5b
    split at e2
    · rename_i e3
      cases e2
      have h0 : (cutL l (some (l0, hh, m))) = [] := List.eq_nil_of_length_eq_zero (by omega)
      rw [h0]
      exact ⟨fun h9 => by omega, fun j u e4 => by simp at e4⟩
    · have h5c := h5a (by omega)
      subst h5c
      simp only [Option.map_some, Option.some.injEq, addOff] at e2
      subst e2
      refine ⟨fun _ => rfl, ?_⟩
      have := h5b.part l0.toNat (hh - l0).toNat
      simp only [cutL, List.map_take, List.map_drop]
      rw [hw1, Nat.mul_one]
      exact this
theorem slc_sl {P : Program} {t e : TypeId} {d : TypeInfo} (hu : P.underlying t = some (.slice e)) (hi : P.info? e = some d) (w : World) {h : Heap} {nil ex : Bool} {l : List PV} {v : Value} (hx : (PV.sl nil ex (P.cellsOf e) l).rel h v)
    {lo hi' mx : Option Value} {lo' hi2 mx' : Option (Option Int)} (a : NumOk lo lo') (b : NumOk hi' hi2) (c : NumOk mx mx') (hok : slcOk l.length (bnds l.length lo' hi2 mx')) :
    ∃ u, (Instr.sliceAt t v lo hi' mx).run P w = .ok u w ∧ (PV.sl nil (slcEx ex hi2.isSome (bnds l.length lo' hi2 mx')) (P.cellsOf e) (cutL l (bnds l.length lo' hi2 mx'))).rel h u := by
  obtain ⟨ad, cap, rfl, h1, h2, h3, h4, vs, hvs, h5⟩ := hx
  obtain ⟨l0, hh, m, e1, q1, q2, q3, q4, q5, q6, q7⟩ := bounds_run (P := P) w true a b c h1 hok
  rw [e1]
  refine ⟨_, sliceAt_run hu hi w q7, ?_⟩
  have hlen := cutL_length (m := m) q1 q2 q3
  have hM : hh.toNat ≤ mxOf m cap := by
    cases m with
    | none => simp only [mxOf]; omega
    | some q => have := q4 q rfl; simp only [mxOf]; omega
  have hM2 : mxOf m cap ≤ cap := by
    cases m with
    | none => exact Nat.le_refl _
    | some q => have := q4 q rfl; simp only [mxOf]; omega
  have hex : slcEx ex hi2.isSome (some (l0, hh, m)) = true → mxOf m cap = hh.toNat := by
    intro e2
    cases m with
    | some q => simp only [slcEx, beq_iff_eq] at e2; simp only [mxOf]; omega
    | none =>
      simp only [slcEx] at e2
      split at e2
      · cases e2
      · rename_i h6
        have h7 : hi2 = none := by cases hi2 <;> simp at h6 ⊢
        have := q5 rfl h7
        have := h2 e2
        simp only [mxOf]; omega
  generalize hMd : mxOf m cap = M at hM hM2 hex
  refine ⟨_, _, by rw [hlen], by rw [hlen]; omega, (fun e2 => by rw [hlen, hex e2]), ?_, ?_, (vs.drop (l0.toNat * P.cellsOf e)).take ((hh - l0).toNat * P.cellsOf e), ?_, ?_⟩
  · rw [h3]
    split
    · exact Iff.rfl
    · cases ad <;> simp
  · intro e2
    have : ad = none := by
      split at e2
      · exact e2
      · cases ad <;> simp at e2 ⊢
    have := h4 this
    omega
  · exact PV.relE_take _ (PV.relE_drop _ hvs)
  · intro ad' e2
    obtain ⟨ad0, rfl⟩ : ∃ ad0, ad = some ad0 := by
      cases ad with
      | none => split at e2 <;> simp at e2
      | some ad0 => exact ⟨ad0, rfl⟩
    obtain ⟨h5a, h5b⟩ := h5 ad0 rfl
    obtain ⟨bb, oo, sp⟩ := ad0
    dsimp only at h5a h5b
    split at e2
    · rename_i e3
      cases e2
      have h0 : (hh - l0).toNat = 0 := by omega
      rw [h0]
      exact ⟨fun h9 => by omega, fun j u e4 => by simp at e4⟩
    · have h5c := h5a (by omega)
      subst h5c
      simp only [Option.map_some, Option.some.injEq, addOff] at e2
      subst e2
      exact ⟨fun _ => rfl, h5b.part _ _⟩
theorem slc_str {P : Program} {t : TypeId} (hu : P.underlying t = some .string) (w : World) {h : Heap} {l : List Int} {v : Value} (hx : (PV.str l).rel h v)
    {lo hi' : Option Value} {lo' hi2 : Option (Option Int)} (a : NumOk lo lo') (b : NumOk hi' hi2) (hok : slcOk l.length (bnds l.length lo' hi2 none)) :
    ∃ u, (Instr.sliceAt t v lo hi' none).run P w = .ok u w ∧ (PV.str (cutL l (bnds l.length lo' hi2 none))).rel h u := by
  obtain ⟨s, rfl, e0⟩ := hx
  have hlen : l.length = s.size := by rw [e0]; simp
  obtain ⟨l0, hh, m, e1, q1, q2, q3, q4, q5, q6, q7⟩ := bounds_run (P := P) w false (mx := none) (mx' := none) a b trivial (Nat.le_refl _) hok
  rw [e1]
  refine ⟨.string (s.extract l0.toNat hh.toNat), ?_, _, rfl, ?_⟩
  · simp only [hlen] at q7
    simp [Instr.sliceAt, Instr.slice, run_underlying hu, q7]
  · simp only [cutL]
    rw [ByteArray.data_extract, Array.toList_extract, e0]
    simp only [List.extract, List.map_take, List.map_drop]
    rw [show (hh - l0).toNat = hh.toNat - l0.toNat by omega]
/-! ### Structs that are compared -/
theorem eq_ck {P : Program} {t : TypeId} {c : CK} (hc : CKOk P t c) (w : World) (d : Nat) {h : Heap} {x y : PV} {u v : Value} (hx : x.rel h u) (hy : y.rel h v) {ks : List CK} {xs ys : List PV} {r : Bool} (he : eqCells (c :: ks) (x :: xs) (y :: ys) = some r) :
    ∃ q r', (Op.equalIn (d + 1) t u v).run P w = .ok q w ∧ eqCells ks xs ys = some r' ∧ r = (q && r') := by
  cases c <;> cases x <;> (try (simp only [eqCells] at he; cases he; done)) <;> cases y <;> (try (simp only [eqCells] at he; cases he; done)) <;> simp only [eqCells] at he
  case int k k1 a k2 b =>
    split at he
    · rename_i hk
      obtain ⟨rfl, rfl⟩ := hk
      rw [Option.map_eq_some_iff] at he
      obtain ⟨r', e1, rfl⟩ := he
      cases hx; cases hy
      exact ⟨_, r', run_equalIn_int w d t _ _ a b hc, e1, rfl⟩
    · cases he
  case bool a b =>
    rw [Option.map_eq_some_iff] at he
    obtain ⟨r', e1, rfl⟩ := he
    cases hx; cases hy
    exact ⟨_, r', run_equalIn_bool' w d t a b hc, e1, rfl⟩
  case str a b =>
    rw [Option.map_eq_some_iff] at he
    obtain ⟨r', e1, rfl⟩ := he
    obtain ⟨s, rfl, rfl⟩ := hx
    obtain ⟨s', rfl, rfl⟩ := hy
    refine ⟨_, r', run_equalIn_string w d t s s' hc, e1, ?_⟩
    congr 1
    rw [ByteArray.toList_eq, ByteArray.toList_eq, Bool.eq_iff_iff, beq_iff_eq, beq_iff_eq]
    refine ⟨fun e => ?_, fun e => by rw [e]⟩
    have inj : ∀ {a b : List UInt8}, a.map (fun b => (b.toNat : Int)) = b.map (fun b => (b.toNat : Int)) → a = b := by
      intro a
      induction a with
      | nil => intro b e; cases b with
        | nil => rfl
        | cons => simp at e
      | cons x a ih => intro b e; cases b with
        | nil => simp at e
        | cons y b =>
          simp only [List.map_cons, List.cons.injEq] at e
          have h3 : x = y := UInt8.toNat_inj.1 (by omega)
          rw [ih e.2, h3]
    exact inj e
theorem eqFields_ck {P : Program} (w : World) (d : Nat) {h : Heap} (xs ys : Array Value) : ∀ {k : Nat} {fs : List Field} {ks : List CK}, PlainFs P k fs ks → ∀ {a b : List PV} {r : Bool}, PV.relL h a (xs.toList.drop k) → PV.relL h b (ys.toList.drop k) →
    eqCells ks a b = some r → (Op.eqFields (d + 1) xs ys fs).run P w = .ok r w
  | k, _, _, .nil, a, b, r, ha, hb, he => by
    cases a <;> cases b <;> simp only [eqCells] at he <;> cases he
    rfl
  | k, f :: fs, c :: ks, .cons h1 h2 h3 h4, a, b, r, ha, hb, he => by
    cases a with
    | nil => cases c <;> cases b <;> simp only [eqCells] at he <;> cases he
    | cons x a =>
      cases b with
      | nil => cases c <;> cases x <;> simp only [eqCells] at he <;> cases he
      | cons y b =>
        obtain ⟨u, us, e1, g1, g2⟩ := ha
        obtain ⟨v, vs, e2, g3, g4⟩ := hb
        obtain ⟨c1, c2, ⟨dd, c3⟩, c4⟩ := h3
        have drop1 : ∀ {l : List Value} {u : Value} {us : List Value}, l.drop k = u :: us → l.drop (k + 1) = us ∧ l[k]? = some u := by
          intro l u us e
          refine ⟨by rw [← List.drop_drop, e]; rfl, ?_⟩
          have : (l.drop k)[0]? = some u := by rw [e]; rfl
          simpa [List.getElem?_drop] using this
        obtain ⟨d1, d2⟩ := drop1 e1
        obtain ⟨d3, d4⟩ := drop1 e2
        have p : ∀ {zs : Array Value} {u : Value}, zs.toList[k]? = some u → (part f.type zs f.offset).run P w = .ok u w := by
          intro zs u e
          have e' : zs[k]? = some u := by simpa using e
          simp [part, isAgg_run c3, c2, h2, e']
        obtain ⟨q, r', e3, e4, rfl⟩ := eq_ck c4 w d g1 g3 he
        have ih := eqFields_ck w d xs ys h4 (a := a) (b := b) (r := r') (by rw [d1]; exact g2) (by rw [d3]; exact g4) e4
        simp only [Op.eqFields, ne_eq, h1, not_false_eq_true, if_true, Sem.run_bind, p d2, p d4, Result.andThen_ok, e3]
        cases q with
        | true => simpa using ih
        | false => simp
theorem eqItems_ck {P : Program} (w : World) (d : Nat) {e : TypeId} {c : CK} (hc : PlainC P e c) {h : Heap} (xs ys : Array Value) : ∀ (n k : Nat) {a b : List PV} {r : Bool}, PV.relL h a (xs.toList.drop k) → PV.relL h b (ys.toList.drop k) →
    eqCells (List.replicate n c) a b = some r → (Op.eqItems (d + 1) e (P.cellsOf e) xs ys (List.range' k n)).run P w = .ok r w
  | 0, k, a, b, r, ha, hb, he => by
    cases a <;> cases b <;> simp only [List.replicate_zero, eqCells] at he <;> cases he
    rfl
  | n + 1, k, a, b, r, ha, hb, he => by
    rw [List.replicate_succ] at he
    cases a with
    | nil => cases c <;> cases b <;> simp only [eqCells] at he <;> cases he
    | cons x a =>
      cases b with
      | nil => cases c <;> cases x <;> simp only [eqCells] at he <;> cases he
      | cons y b =>
        obtain ⟨u, us, e1, g1, g2⟩ := ha
        obtain ⟨v, vs, e2, g3, g4⟩ := hb
        obtain ⟨c1, c2, ⟨dd, c3⟩, c4⟩ := hc
        have drop1 : ∀ {l : List Value} {u : Value} {us : List Value}, l.drop k = u :: us → l.drop (k + 1) = us ∧ l[k]? = some u := by
          intro l u us e
          refine ⟨by rw [← List.drop_drop, e]; rfl, ?_⟩
          have : (l.drop k)[0]? = some u := by rw [e]; rfl
          simpa [List.getElem?_drop] using this
        obtain ⟨d1, d2⟩ := drop1 e1
        obtain ⟨d3, d4⟩ := drop1 e2
        have p : ∀ {zs : Array Value} {u : Value}, zs.toList[k]? = some u → (part e zs (k * P.cellsOf e)).run P w = .ok u w := by
          intro zs u e
          have e' : zs[k]? = some u := by simpa using e
          simp [part, isAgg_run c3, c2, c1, e']
        obtain ⟨q, r', e3, e4, rfl⟩ := eq_ck c4 w d g1 g3 he
        have ih := eqItems_ck w d ⟨c1, c2, ⟨dd, c3⟩, c4⟩ xs ys n (k + 1) (a := a) (b := b) (r := r') (by rw [d1]; exact g2) (by rw [d3]; exact g4) e4
        rw [List.range'_succ]
        simp only [Op.eqItems, Sem.run_bind, p d2, p d4, Result.andThen_ok, e3]
        cases q with
        | true => simpa using ih
        | false => simp
theorem eqAgg_run {P : Program} {t : TypeId} {ks : List CK} (hp : PlainAgg P t ks) (w : World) {h : Heap} {a b : List PV} {u v : Value} (ha : (PV.agg a).rel h u) (hb : (PV.agg b).rel h v) {r : Bool} (he : eqCells ks a b = some r) (p q : Operand) (neg : Bool) :
    (do eqGuard (if neg = true then .neq else .eql) t p q u v; binOp (if neg = true then .neq else .eql) t u v : Sem Value).run P w = .ok (.bool (if neg then !r else r)) w := by
  obtain ⟨us, rfl, g1⟩ := ha
  obtain ⟨vs, rfl, g2⟩ := hb
  obtain ⟨hg, hp⟩ := hp
  have key : (Op.equalIn 10000 t (.agg us.toArray) (.agg vs.toArray)).run P w = .ok r w := by
    rcases hp with ⟨fs, hu, hs, hf⟩ | ⟨n, e, i, c, hu, hi, hc, rfl⟩
    · have hu' : P.underlying t = some (.struct (P.fieldsOf t)) := by rw [Program.fieldsOf, hu]
      rw [show (10000 : Nat) = 9999 + 1 from rfl, run_equalIn_struct w 9999 t _ _ hu' hs]
      have : (P.fieldsOf t) = fs := by rw [Program.fieldsOf, hu]
      rw [this]
      exact eqFields_ck w 9998 _ _ hf (by simpa using g1) (by simpa using g2) he
    · rw [show (10000 : Nat) = 9999 + 1 from rfl, run_equalIn_array w 9999 _ _ hu hi, List.range_eq_range']
      exact eqItems_ck w 9998 hc _ _ n 0 (by simpa using g1) (by simpa using g2) he
  simp only [Sem.run_bind, run_eqGuard_agg w _ t p q _ _ hg, Result.andThen_ok]
  cases neg
  · simp only [Bool.false_eq_true, if_false]
    rw [run_eql_struct, key]; rfl
  · simp only [if_true]
    rw [run_neq_struct, key]; rfl
theorem eqNilF_run {P : Program} {t : TypeId} {a bb cc} (hu : P.underlying t = some (.func a bb cc)) (w : World) {ρ : Env} {h : Heap} {x : SV} {u : Value} (hx : x.rel ρ h u) {r : Bool} (hr : x.fnNil = some r) (p q : Operand) (neg : Bool) :
    (do eqGuard (if neg = true then .neq else .eql) t p q u .nilFunc; binOp (if neg = true then .neq else .eql) t u .nilFunc : Sem Value).run P w = .ok (.bool (if neg then !r else r)) w := by
  have shape : (u = .nilFunc ∧ r = true) ∨ (∃ f fs cs, u = .func f fs cs) ∧ r = false := by
    cases x <;> simp only [SV.fnNil] at hr <;> first | (cases hr; done) | skip
    case p y =>
      cases y <;> simp only [SV.fnNil] at hr <;> first | (cases hr; done) | skip
      case fn f cs => cases hr; obtain ⟨vs, e, _⟩ := hx; exact .inr ⟨⟨_, _, _, e⟩, rfl⟩
      case nilFn => cases hr; exact .inl ⟨hx, rfl⟩
    case fn f cs => cases hr; obtain ⟨vs, e, _⟩ := hx; exact .inr ⟨⟨_, _, _, e⟩, rfl⟩
  have hg : (eqGuard (if neg = true then .neq else .eql) t p q u .nilFunc).run P w = .ok () w := by
    rcases shape with ⟨rfl, _⟩ | ⟨⟨f, fs, cs, rfl⟩, _⟩ <;> cases neg <;> simp [eqGuard]
  have he : (Op.equal t u .nilFunc).run P w = .ok r w := by
    have h0 : ∀ d, (Op.equalIn (d + 1) t u .nilFunc).run P w = .ok r w := by
      intro d
      rcases shape with ⟨rfl, rfl⟩ | ⟨⟨f, fs, cs, rfl⟩, rfl⟩ <;> simp only [Op.equalIn, Sem.run_bind, run_underlying hu, Result.andThen_ok, Sem.run_pure]
    exact h0 9999
  simp only [Sem.run_bind, hg, Result.andThen_ok]
  cases neg
  · rcases shape with ⟨rfl, rfl⟩ | ⟨⟨f, fs, cs, rfl⟩, rfl⟩ <;> simp only [Bool.false_eq_true, if_false, binOp, Sem.run_bind, he, Result.andThen_ok, Sem.run_pure]
  · rcases shape with ⟨rfl, rfl⟩ | ⟨⟨f, fs, cs, rfl⟩, rfl⟩ <;> simp only [if_true, binOp, Sem.run_bind, he, Result.andThen_ok, Sem.run_pure]
theorem eqNilI_run {P : Program} {t : TypeId} {ms} (hu : P.underlying t = some (.interface ms)) (w : World) {u : Value} {r : Bool} (hr : (u = .nilIface ∧ r = true) ∨ (∃ d z, u = .iface d z) ∧ r = false) (p : Operand) (neg : Bool) :
    (do eqGuard (if neg = true then .neq else .eql) t p (.const .nilIface) u .nilIface; binOp (if neg = true then .neq else .eql) t u .nilIface : Sem Value).run P w = .ok (.bool (if neg then !r else r)) w := by
  have hg : (eqGuard (if neg = true then .neq else .eql) t p (.const .nilIface) u .nilIface).run P w = .ok () w := by
    rcases hr with ⟨rfl, _⟩ | ⟨⟨d, z, rfl⟩, _⟩ <;> cases neg <;> simp [eqGuard]
  have he : (Op.equal t u .nilIface).run P w = .ok r w := by
    have h0 : ∀ d, (Op.equalIn (d + 1) t u .nilIface).run P w = .ok r w := by
      intro d
      rcases hr with ⟨rfl, rfl⟩ | ⟨⟨f, fs, rfl⟩, rfl⟩ <;> simp only [Op.equalIn, Sem.run_bind, run_underlying hu, Result.andThen_ok, Sem.run_pure]
    exact h0 9999
  simp only [Sem.run_bind, hg, Result.andThen_ok]
  cases neg
  · rcases hr with ⟨rfl, rfl⟩ | ⟨⟨f, fs, rfl⟩, rfl⟩ <;> simp only [Bool.false_eq_true, if_false, binOp, Sem.run_bind, he, Result.andThen_ok, Sem.run_pure]
  · rcases hr with ⟨rfl, rfl⟩ | ⟨⟨f, fs, rfl⟩, rfl⟩ <;> simp only [if_true, binOp, Sem.run_bind, he, Result.andThen_ok, Sem.run_pure]
/-! ### The greatest, the least -/
theorem maxL_fold {P : Program} (w : World) {ρ : Env} {h : Heap} : ∀ {xs : List SV} {k : IntKind} {n : Int} {a : Int} {vs : List Value}, maxL (.p (.int k a) :: xs) = some (k, n) → SV.relL ρ h xs vs → (vs.foldlM Builtin.max2 (.int k a)).run P w = .ok (.int k n) w
  | [], k, n, a, vs, e, hr => by
    have : vs = [] := hr
    subst this
    simp only [maxL, Option.some.injEq, Prod.mk.injEq] at e
    rw [e.2]; rfl
  | x :: xs, k, n, a, vs, e, ⟨v, vs', e1, h1, h2⟩ => by
    subst e1
    simp only [maxL] at e
    rw [Option.map_eq_some_iff] at e
    obtain ⟨⟨k2, n2⟩, e2, e3⟩ := e
    cases x <;> first | (exfalso; cases xs <;> simp [maxL] at e2; done) | skip
    rename_i y
    cases y <;> first | (exfalso; cases xs <;> simp [maxL] at e2; done) | skip
    rename_i k3 b
    have hv : v = .int k3 b := h1
    subst hv
    have hk : maxL (.p (.int k (max a b)) :: xs) = some (k, n) := by
      have e3' : n = max a n2 := by simpa using (congrArg Prod.snd e3).symm
      cases xs with
      | nil =>
        simp only [maxL, Option.some.injEq, Prod.mk.injEq] at e2 ⊢
        exact ⟨trivial, by rw [e3', ← e2.2]⟩
      | cons z zs =>
        simp only [maxL] at e2 ⊢
        rw [Option.map_eq_some_iff] at e2
        obtain ⟨⟨k4, n4⟩, e5, e6⟩ := e2
        rw [e5]
        have e6' : n2 = max b n4 := by simpa using (congrArg Prod.snd e6).symm
        simp only [Option.map_some, Option.some.injEq, Prod.mk.injEq, true_and]
        omega
    simp only [List.foldlM_cons, Sem.run_bind, Builtin.max2, Sem.run_pure, Result.andThen_ok]
    rw [show (if b > a then b else a) = max a b by split <;> omega]
    exact maxL_fold w hk h2
theorem maxs_run {P : Program} (w : World) {ρ : Env} {h : Heap} {xs : List SV} {k : IntKind} {n : Int} {vs : List Value} (e : maxL xs = some (k, n)) (hr : SV.relL ρ h xs vs) (ats : Array TypeId) (ty : TypeId) : (Builtin.max_ ats ty vs.toArray).run P w = .ok (.int k n) w := by
  cases xs with
  | nil => simp only [maxL] at e; cases e
  | cons x xs =>
    obtain ⟨v, vs', rfl, h1, h2⟩ := hr
    cases x <;> first | (exfalso; cases xs <;> simp [maxL] at e; done) | skip
    rename_i y
    cases y <;> first | (exfalso; cases xs <;> simp [maxL] at e; done) | skip
    rename_i k' a
    have hv : v = .int k' a := h1
    subst hv
    have hk : k' = k := by
      cases xs with
      | nil => simp only [maxL, Option.some.injEq, Prod.mk.injEq] at e; exact e.1
      | cons z zs =>
        simp only [maxL] at e
        rw [Option.map_eq_some_iff] at e
        obtain ⟨q, _, e2⟩ := e
        exact (congrArg Prod.fst e2)
    subst hk
    exact maxL_fold w e h2
theorem minL_fold {P : Program} (w : World) {ρ : Env} {h : Heap} : ∀ {xs : List SV} {k : IntKind} {n : Int} {a : Int} {vs : List Value}, minL (.p (.int k a) :: xs) = some (k, n) → SV.relL ρ h xs vs → (vs.foldlM Builtin.min2 (.int k a)).run P w = .ok (.int k n) w
  | [], k, n, a, vs, e, hr => by
    have : vs = [] := hr
    subst this
    simp only [minL, Option.some.injEq, Prod.mk.injEq] at e
    rw [e.2]; rfl
  | x :: xs, k, n, a, vs, e, ⟨v, vs', e1, h1, h2⟩ => by
    subst e1
    simp only [minL] at e
    rw [Option.map_eq_some_iff] at e
    obtain ⟨⟨k2, n2⟩, e2, e3⟩ := e
    cases x <;> first | (exfalso; cases xs <;> simp [minL] at e2; done) | skip
    rename_i y
    cases y <;> first | (exfalso; cases xs <;> simp [minL] at e2; done) | skip
    rename_i k3 b
    have hv : v = .int k3 b := h1
    subst hv
    have hk : minL (.p (.int k (min a b)) :: xs) = some (k, n) := by
      have e3' : n = min a n2 := by simpa using (congrArg Prod.snd e3).symm
      cases xs with
      | nil =>
        simp only [minL, Option.some.injEq, Prod.mk.injEq] at e2 ⊢
        exact ⟨trivial, by rw [e3', ← e2.2]⟩
      | cons z zs =>
        simp only [minL] at e2 ⊢
        rw [Option.map_eq_some_iff] at e2
        obtain ⟨⟨k4, n4⟩, e5, e6⟩ := e2
        rw [e5]
        have e6' : n2 = min b n4 := by simpa using (congrArg Prod.snd e6).symm
        simp only [Option.map_some, Option.some.injEq, Prod.mk.injEq, true_and]
        omega
    simp only [List.foldlM_cons, Sem.run_bind, Builtin.min2, Sem.run_pure, Result.andThen_ok]
    rw [show (if b < a then b else a) = min a b by split <;> omega]
    exact minL_fold w hk h2
theorem mins_run {P : Program} (w : World) {ρ : Env} {h : Heap} {xs : List SV} {k : IntKind} {n : Int} {vs : List Value} (e : minL xs = some (k, n)) (hr : SV.relL ρ h xs vs) (ats : Array TypeId) (ty : TypeId) : (Builtin.min_ ats ty vs.toArray).run P w = .ok (.int k n) w := by
  cases xs with
  | nil => simp only [minL] at e; cases e
  | cons x xs =>
    obtain ⟨v, vs', rfl, h1, h2⟩ := hr
    cases x <;> first | (exfalso; cases xs <;> simp [minL] at e; done) | skip
    rename_i y
    cases y <;> first | (exfalso; cases xs <;> simp [minL] at e; done) | skip
    rename_i k' a
    have hv : v = .int k' a := h1
    subst hv
    have hk : k' = k := by
      cases xs with
      | nil => simp only [minL, Option.some.injEq, Prod.mk.injEq] at e; exact e.1
      | cons z zs =>
        simp only [minL] at e
        rw [Option.map_eq_some_iff] at e
        obtain ⟨q, _, e2⟩ := e
        exact (congrArg Prod.fst e2)
    subst hk
    exact minL_fold w e h2
/-- The bytes of a slice, seen. -/
theorem see_slice {B : Base} {ρ : Env} {h : Heap} {own : List OB} {w : World} (s : Sat B ρ h own w) {x : SV} {v : Value} (hx : x.rel ρ h v) {nil ex : Bool} {k : IntKind} {l : List Int} (hs : x.see own = some (.isl nil ex k l)) :
    ∃ a c, v = .slice a l.length c ∧ ((a = none ∧ l = []) ∨ ∃ ad : Addr, a = some ad ∧ ∀ j, j < l.length → w.cell? (ad.add j) = some (.int k (l.getD j 0))) := by
  have pers : ∀ {v : Value}, (PV.isl nil ex k l).rel h v → ∃ a c, v = .slice a l.length c ∧ ((a = none ∧ l = []) ∨ ∃ ad : Addr, a = some ad ∧ ∀ j, j < l.length → w.cell? (ad.add j) = some (.int k (l.getD j 0))) := by
    rintro v ⟨a, cap, rfl, h1, h2, h3, h4, h5⟩
    refine ⟨a, cap, rfl, ?_⟩
    cases a with
    | none => have := h4 rfl; exact .inl ⟨rfl, List.eq_nil_of_length_eq_zero (by omega)⟩
    | some ad =>
      obtain ⟨b, o, sp⟩ := ad
      obtain ⟨h6, h7⟩ := h5 _ rfl
      dsimp only at h6 h7
      refine .inr ⟨_, rfl, fun j hj => ?_⟩
      have h6 := h6 (by omega)
      subst h6
      rw [addOff]
      exact cell_of s.sub h7 (by simp [hj, List.getD_eq_getElem?_getD])
  cases x <;> simp only [SV.see] at hs <;> first | (cases hs; done) | skip
  case p x => cases hs; exact pers hx
  case row id =>
    cases e : own.getD id .gone <;> rw [e] at hs <;> simp only [OB.pv, Option.some.injEq] at hs <;> first | (cases hs; done) | skip
    case irow ty k' nil' ex' l' =>
      obtain ⟨rfl, rfl, rfl, rfl⟩ := by simpa using hs
      rcases (s.look hx.1 e (by simp)).2 with ⟨h1, h2, h3⟩ | ⟨h1, b, c', cap, h3, h4, h5, h6, h7, h8⟩
      · subst h2; exact ⟨none, 0, h3, .inl ⟨rfl, rfl⟩⟩
      · refine ⟨some ⟨b, 0, none⟩, cap, h3, .inr ⟨_, rfl, fun j hj => ?_⟩⟩
        rw [addOff, Nat.zero_add]
        simp [World.cell?, h6, h8 j hj]
    case fro y =>
      subst hs
      exact pers (s.look hx.1 e (by simp)).2
theorem bytes_fold : ∀ (l : List Int) (s : ByteArray), (∀ n ∈ l, 0 ≤ n ∧ n < 256) → (l.foldl (fun r n => r.push (UInt8.ofNat n.toNat)) s).data.toList.map (fun b => (b.toNat : Int)) = s.data.toList.map (fun b => (b.toNat : Int)) ++ l
  | [], s, _ => by simp
  | n :: l, s, h => by
    simp only [List.foldl_cons]
    rw [bytes_fold l _ fun m hm => h m (by simp [hm])]
    have h1 := h n (by simp)
    have h2 : ((UInt8.ofNat n.toNat).toNat : Int) = n := by
      rw [UInt8.toNat_ofNat']
      omega
    simp [ByteArray.push, h2]
    omega
theorem bytes_str {P : Program} (w : World) {a : Option Addr} {c : Nat} {l : List Int} (h : (a = none ∧ l = []) ∨ ∃ ad : Addr, a = some ad ∧ ∀ j, j < l.length → w.cell? (ad.add j) = some (.int .u8 (l.getD j 0))) (hb : ∀ n ∈ l, 0 ≤ n ∧ n < 256) :
    ∃ s : ByteArray, (Conv.bytesToString (.slice a l.length c)).run P w = .ok (.string s) w ∧ l = s.data.toList.map fun b => (b.toNat : Int) := by
  rcases h with ⟨rfl, rfl⟩ | ⟨ad, rfl, h⟩
  · exact ⟨.empty, rfl, rfl⟩
  · refine ⟨_, run_bytesToString w _ l.length c l ?_, ?_⟩
    · have := run_loadCells_list (P := P) w ad (l.map (Value.int .u8)) (fun j v hj => by
        have hj' : j < l.length := by simpa using (List.getElem?_eq_some_iff.1 hj).1
        rw [h j hj', ← hj]
        simp [hj', List.getD_eq_getElem?_getD])
      simpa using this
    · have := bytes_fold l ByteArray.empty hb
      rw [this]
      rfl
--REST
end Go.Fx
