/-
  Fx, part 9: operations with own effects.
-/
import Derived.Test.YtlfffpkfipdboaaDoorFxApp
import Derived.Great.BuildSlice
set_option linter.unusedSimpArgs false
set_option linter.unusedVariables false
namespace Go.Fx
theorem intsOf_spec {k : IntKind} : ∀ {xs : List PV} {l : List Int}, intsOf k xs = some l → xs = l.map (PV.int k)
  | [], l, e => by simp only [intsOf] at e; cases e; rfl
  | x :: xs, l, e => by
    cases x <;> simp only [intsOf] at e <;> first | (cases e; done) | skip
    split at e
    · rename_i hk
      subst hk
      rw [Option.map_eq_some_iff] at e
      obtain ⟨m, e1, rfl⟩ := e
      rw [intsOf_spec e1]; rfl
    · cases e
theorem relL_ints {h : Heap} {k : IntKind} : ∀ {l : List Int} {vs : List Value}, PV.relL h (l.map (PV.int k)) vs → vs = l.map (Value.int k)
  | [], vs, e => e
  | n :: l, vs, ⟨v, vs', e, h1, h2⟩ => by
    cases h1
    rw [e, relL_ints h2]; rfl
/-- The parts of a literal, laid one behind the other. -/
theorem fill_run (w : Nat) (hw : 0 < w) : ∀ (vs : List Value) (k : Nat) (cells : Array Value), (∀ v ∈ vs, v.cells.size = w) → cells.size = (k + vs.length) * w →
    Instr.fill (fun i => some (i * w, w)) cells ((vs.zipIdx k).map fun q => (q.2, q.1)) = some ((cells.toList.take (k * w)) ++ vs.flatMap fun v => v.cells.toList).toArray
  | [], k, cells, _, hz => by
    simp only [List.zipIdx_nil, List.map_nil, Instr.fill, List.flatMap_nil, List.append_nil, Option.some.injEq]
    rw [List.take_of_length_le (by simp at hz ⊢; omega)]
  | v :: vs, k, cells, hv, hz => by
    have h1 := hv v (by simp)
    have hsz : ¬ (k * w + v.cells.size > cells.size) := by rw [hz, h1, List.length_cons, Nat.add_mul, Nat.add_mul]; omega
    have hl : k * w + 0 + v.cells.toList.length ≤ cells.size := by simp only [Array.length_toList, Nat.add_zero]; omega
    have hfold : v.cells.zipIdx.foldl (fun (cs : Array Value) (x : Value × Nat) => cs.setIfInBounds (k * w + x.2) x.1) cells =
        (cells.toList.take (k * w) ++ v.cells.toList ++ cells.toList.drop (k * w + w)).toArray := by
      apply Array.ext'
      rw [← Array.foldl_toList, Array.toList_zipIdx, splice_fold _ 0 (k * w) cells hl]
      simp [h1]
    simp only [List.zipIdx_cons, List.map_cons, Instr.fill]
    rw [if_neg (by simp only [h1, ne_eq, not_true_eq_false, decide_false, Bool.false_or, decide_eq_true_eq]; rw [h1] at hsz; exact hsz)]
    rw [hfold, fill_run w hw vs (k + 1) _ (fun u hu => hv u (by simp [hu])) (by
      simp only [List.size_toArray, List.length_append, List.length_take, List.length_drop, Array.length_toList, h1]
      rw [hz, List.length_cons]
      have e1 : (k + 1 + vs.length) * w = k * w + w + vs.length * w := by rw [Nat.add_mul, Nat.add_mul, Nat.one_mul]
      have e2 : (k + (vs.length + 1)) * w = k * w + w + vs.length * w := by rw [show k + (vs.length + 1) = k + 1 + vs.length by omega, e1]
      rw [e1, e2, Nat.min_eq_left (by omega)]
      omega)]
    congr 1
    have hk : (cells.toList.take (k * w) ++ v.cells.toList).length = (k + 1) * w := by
      simp only [List.length_append, List.length_take, Array.length_toList, h1, Nat.add_mul, Nat.one_mul]
      rw [Nat.min_eq_left (by omega)]
    rw [List.take_append_of_le_length (by rw [hk]; exact Nat.le_refl _), List.take_of_length_le (by rw [hk]; exact Nat.le_refl _)]
    simp
/-- What 'buildSlice' makes of parts that are all there, in their order. -/
theorem buildSlice_run {P : Program} {t e : TypeId} {i : TypeInfo} {z : Value} (hu : P.underlying t = some (.slice e)) (hi : P.info? e = some i) (hz : i.zero = some z)
    (hw : 0 < P.cellsOf e) (w : World) (vs : List Value) (hv : ∀ v ∈ vs, v.cells.size = P.cellsOf e) (hb : vs.length * P.cellsOf e ≤ 2 ^ 24) :
    (Instr.buildSlice t vs.length ((vs.zipIdx).map fun q => (q.2, q.1)).toArray).run P w =
      .ok (.slice (some ⟨w.heap.size, 0, none⟩) vs.length vs.length) (w.alloc (.cells (vs.flatMap fun v => v.cells.toList).toArray e)) := by
  have hs : P.cellsOf e = i.size := by simp [Program.cellsOf, hi]
  by_cases hn : vs = []
  · subst hn
    simp [Instr.buildSlice, run_underlying hu, sizeOf, typeInfo, zeroValue, hi, hz, newRow, Instr.fill]
    congr 2
    exact Array.eq_empty_of_size_eq_zero (by simp)
  · have hpos : 0 < vs.length := List.length_pos_iff.2 hn
    have := run_buildSlice (P := P) w t e vs.length ((vs.zipIdx).map fun q => (q.2, q.1)).toArray (vs.flatMap fun v => v.cells.toList).toArray i z hu hi hz (by rw [← hs]; omega)
      (by rw [← hs]; exact Nat.ne_of_gt (Nat.mul_pos hpos hw)) (by
        rw [← hs]
        rw [show ((vs.zipIdx).map fun q => (q.2, q.1)).toArray.toList = (vs.zipIdx).map fun q => (q.2, q.1) by simp]
        rw [fill_run (P.cellsOf e) hw vs 0 _ hv (by simp)]
        simp)
    rw [this]
theorem relL_append {h : Heap} {a b : List PV} {x y : List Value} (h1 : PV.relL h a x) (h2 : PV.relL h b y) : PV.relL h (a ++ b) (x ++ y) := by
  obtain ⟨l1, g1⟩ := PV.relL_get h1
  obtain ⟨l2, g2⟩ := PV.relL_get h2
  refine PV.relL_of (by simp [l1, l2]) fun j u v e1 e2 => ?_
  rcases Nat.lt_or_ge j a.length with hl | hl
  · rw [List.getElem?_append_left hl] at e1
    rw [List.getElem?_append_left (by omega)] at e2
    exact g1 j u v e1 e2
  · rw [List.getElem?_append_right hl] at e1
    rw [List.getElem?_append_right (by omega), ← l1] at e2
    exact g2 _ u v e1 e2
theorem relE_of {h : Heap} {w : Nat} : ∀ {xs : List PV} {vs : List Value}, PV.relL h xs vs → (∀ x ∈ xs, x.cells.length = w) → PV.relE h w xs (vs.flatMap fun v => v.cells.toList)
  | [], vs, e, _ => by
    have : vs = [] := e
    subst this; rfl
  | x :: xs, vs, ⟨v, vs', e, h1, h2⟩, hw => by
    subst e
    have hc := (PV.relL_get (PV.cells_rel h1)).1
    exact ⟨v, _, by simp, by rw [← hw x (by simp), hc]; simp, h1, relE_of h2 fun y hy => hw y (by simp [hy])⟩
theorem relE_length {h : Heap} {w : Nat} : ∀ {xs : List PV} {vs : List Value}, PV.relE h w xs vs → vs.length = xs.length * w
  | [], vs, e => by
    have : vs = [] := e
    subst this; simp
  | x :: xs, vs, ⟨u, vs', e, h1, h2, h3⟩ => by
    subst e
    rw [List.length_append, relE_length h3, List.length_cons, Nat.add_mul, Nat.one_mul]
    simp [h1]; omega
theorem Sat.replaceBox {B : Base} {ρ : Env} {h : Heap} {own : List OB} {w : World} (s : Sat B ρ h own w) {id : Nat} {ob ob' : OB} {v : Value} {b : Nat} {c c' : Array Value} {ty : TypeId}
    (hi : own[id]? = some ob) (hv : ρ[id]? = some v) (hf : ob.fp v = some b) (hb : w.heap[b]? = some (.cells c ty (0, 0)))
    (hs : ob'.sat ρ h (w.setRow b c') v) (hf' : ∀ b, ob'.fp v = some b → ob.fp v = some b) : Sat B ρ h (own.set id ob') (w.setRow b c') := by
  refine s.replace hi hv ?_ ⟨rfl, rfl⟩ (fun b' hne => ?_) hs hf'
  · simp [World.setRow]
  · have hne' : b ≠ b' := fun e => hne (by rw [hf, e])
    simp only [World.setRow]
    rw [Array.getElem?_modify]
    simp [hne']
theorem mapMap (f : Nat × Operand → Nat × Value) (ps : List (Nat × Operand)) : (ps.toArray.map f) = (ps.map f).toArray := by simp
theorem parts_of {e : Operand → Value} {ps : Array (Nat × Operand)} {n : Nat} (h : ps.toList.map (·.1) = List.range n) :
    (ps.map fun (i, x) => (i, e x)) = (((ps.toList.map (·.2)).map e).zipIdx.map fun q => (q.2, q.1)).toArray := by
  apply Array.ext'
  simp only [Array.toList_map]
  apply List.ext_getElem?
  intro j
  simp only [List.getElem?_map, List.getElem?_zipIdx]
  cases hj : ps.toList[j]? with
  | none => simp
  | some q =>
    have h1 : (ps.toList.map (·.1))[j]? = some q.1 := by simp [List.getElem?_map, hj]
    rw [h] at h1
    have h2 : q.1 = j := by
      have := List.getElem?_eq_some_iff.1 h1
      obtain ⟨hl, he⟩ := this
      simpa using he.symm
    simp [h2]
theorem relE_one {h : Heap} {w : Nat} : ∀ {xs : List PV} {vs : List Value}, PV.relE h w xs vs → (∀ x ∈ xs, x.cells.all (·.scal) = true) → ∀ u ∈ vs, u.oneCell' = true
  | [], vs, e, _, u, hu => by
    have : vs = [] := e
    subst this; cases hu
  | x :: xs, vs, ⟨v, vs', e, h1, h2, h3⟩, hs, u, hu => by
    subst e
    rcases List.mem_append.1 hu with hu | hu
    · have hsc : (SV.p x).cells.all (·.scal) = true := by
        have := hs x (by simp)
        simp only [SV.cells, List.all_map]
        exact this
      exact (SV.cells_rel (ρ := []) (x := .p x) h2 hsc).2 u hu
    · exact relE_one h3 (fun y hy => hs y (by simp [hy])) u hu
/-- **Operations with own effects do what eff says.** -/
theorem Goes.here' {B : Base} {ρ : Env} {h : Heap} {own : List OB} {w : World} (s : Sat B ρ h own w) {K : SV → List OB → Prop} {x : SV} {v : Value} (hK : K x own) (hx : x.rel ρ h v) : Goes B ρ h K v w :=
  ⟨x, own, ρ, h, hK, hx, s, Env.le_refl _, Heap.le_refl _⟩
theorem checkKey_int {P : Program} {kt : TypeId} {q : IntKind} (hk : P.underlying kt = some (.int q)) (b : Bool) (n : Nat) (v : Value) (w : World) : (Instr.checkKey b (n + 1) kt v).run P w = .ok () w := by
  simp only [Instr.checkKey, Sem.run_bind, run_underlying hk, Result.andThen_ok, Sem.run_pure]
theorem checkKey_int' {P : Program} {kt : TypeId} {q : IntKind} (hk : P.underlying kt = some (.int q)) (b : Bool) (v : Value) (w : World) : (Instr.checkKey b 10000 kt v).run P w = .ok () w := checkKey_int hk b 9999 v w
theorem getObj_run {P : Program} {w : World} {r : Nat} {es : Array MapEntry} {c : Nat} (h : w.heap[r]? = some (.map es c)) : (getObj r).run P w = .ok (.map es c) w := by
  simp [getObj, Sem.run, h]
theorem findKey_run {P : Program} {kt : TypeId} {q : IntKind} (hk : P.underlying kt = some (.int q)) {k : Value} {ms : List MapEntry} {r : Option (Nat × Value)} (hf : Instr.findNow (.int q) k ms 0 = some r) (w : World) : (Instr.findKey kt k ms).run P w = .ok r w := by
  simp only [Instr.findKey, Sem.run_bind, run_underlying hk, Result.andThen_ok, hf, Sem.run_pure]
theorem find_new {ρ : Env} {h : Heap} {q : IntKind} {a : Int} {d : IntKind} : ∀ {es : List (PV × SV)} {ms : List MapEntry} (i : Nat), keyNew (.int q a) es → relEntries ρ h es ms → Instr.findNow (.int d) (.int q a) ms i = some none
  | [], ms, i, _, e => by
    have e : ms = [] := e
    subst e; rfl
  | (k', x) :: r, ms, i, hn, ⟨e, es', h1, h2, h3, h4⟩ => by
    subst h1
    cases k' <;> simp only [keyNew] at hn
    case int q' b =>
      have h2 : e.key = .int q' b := h2
      obtain ⟨rfl, hab, hn⟩ := hn
      simp only [Instr.findNow, h2, Instr.sameNow, if_true, beq_eq_false_iff_ne.2 hab]
      exact find_new (i + 1) hn h4
theorem find_look {ρ : Env} {h : Heap} {q : IntKind} {a : Int} {d : IntKind} {F : SV → Prop} {Z : Prop} : ∀ {es : List (PV × SV)} {ms : List MapEntry} (i : Nat), lookK (.int q a) es F Z → relEntries ρ h es ms →
    (∃ j v x, Instr.findNow (.int d) (.int q a) ms i = some (some (j, v)) ∧ x.rel ρ h v ∧ F x) ∨ (Instr.findNow (.int d) (.int q a) ms i = some none ∧ Z)
  | [], ms, i, hz, e => by
    have e : ms = [] := e
    subst e; exact .inr ⟨rfl, hz⟩
  | (k', x) :: r, ms, i, hl, ⟨e, es', h1, h2, h3, h4⟩ => by
    subst h1
    unfold lookK at hl
    cases k' <;> dsimp only at hl <;> first | exact hl.elim | skip
    case int q' b =>
      have h2 : e.key = .int q' b := h2
      obtain ⟨rfl, h5, h6⟩ := hl
      by_cases hab : a = b
      · subst hab
        refine .inl ⟨i, e.val, x, ?_, h3, h5 rfl⟩
        simp only [Instr.findNow, h2, Instr.sameNow, if_true, beq_self_eq_true]
      · have := find_look (ρ := ρ) (h := h) (d := d) (F := F) (Z := Z) (i + 1) (h6 hab) h4
        simpa only [Instr.findNow, h2, Instr.sameNow, if_true, beq_eq_false_iff_ne.2 hab] using this
theorem checkKey_str {P : Program} {kt : TypeId} (hk : P.underlying kt = some .string) (b : Bool) (v : Value) (w : World) : (Instr.checkKey b 10000 kt v).run P w = .ok () w := by
  have : ∀ n : Nat, (Instr.checkKey b (n + 1) kt v).run P w = .ok () w := fun n => by
    simp only [Instr.checkKey, Sem.run_bind, run_underlying hk, Result.andThen_ok, Sem.run_pure]
  exact this 9999
theorem findKey_runS {P : Program} {kt : TypeId} (hk : P.underlying kt = some .string) {k : Value} {ms : List MapEntry} {r : Option (Nat × Value)} (hf : Instr.findNow .string k ms 0 = some r) (w : World) : (Instr.findKey kt k ms).run P w = .ok r w := by
  simp only [Instr.findKey, Sem.run_bind, run_underlying hk, Result.andThen_ok, hf, Sem.run_pure]
theorem str_beq (a b : ByteArray) : (a == b) = decide ((a.data.toList.map fun x => (x.toNat : Int)) = (b.data.toList.map fun x => (x.toNat : Int))) := by
  have inj : ∀ l m : List UInt8, (l.map fun x => (x.toNat : Int)) = (m.map fun x => (x.toNat : Int)) → l = m := by
    intro l
    induction l with
    | nil => intro m e; cases m with
      | nil => rfl
      | cons y m => cases e
    | cons x l ih =>
      intro m e
      cases m with
      | nil => cases e
      | cons y m =>
        simp only [List.map_cons, List.cons.injEq] at e
        have h1 : x = y := UInt8.toNat_inj.1 (by have := e.1; omega)
        rw [h1, ih m e.2]
  rw [beq_toListBytes, ByteArray.toList_eq, ByteArray.toList_eq]
  by_cases h : a.data.toList = b.data.toList
  · rw [h]; simp
  · rw [decide_eq_false fun e => h (inj _ _ e)]
    exact beq_eq_false_iff_ne.2 h
theorem find_newS {ρ : Env} {h : Heap} {s : ByteArray} : ∀ {es : List (PV × SV)} {ms : List MapEntry} (i : Nat), keyNew (.str (s.data.toList.map fun x => (x.toNat : Int))) es → relEntries ρ h es ms → Instr.findNow .string (.string s) ms i = some none
  | [], ms, i, _, e => by
    have e : ms = [] := e
    subst e; rfl
  | (k', x) :: r, ms, i, hn, ⟨e, es', h1, h2, h3, h4⟩ => by
    subst h1
    cases k' <;> simp only [keyNew] at hn
    case str b =>
      obtain ⟨sb, h2, rfl⟩ := h2
      obtain ⟨hab, hn⟩ := hn
      simp only [Instr.findNow, h2, Instr.sameNow, str_beq, decide_eq_false hab]
      exact find_newS (i + 1) hn h4
theorem find_lookS {ρ : Env} {h : Heap} {s : ByteArray} {F : SV → Prop} {Z : Prop} : ∀ {es : List (PV × SV)} {ms : List MapEntry} (i : Nat), lookSK (s.data.toList.map fun x => (x.toNat : Int)) es F Z → relEntries ρ h es ms →
    (∃ j v x, Instr.findNow .string (.string s) ms i = some (some (j, v)) ∧ x.rel ρ h v ∧ F x) ∨ (Instr.findNow .string (.string s) ms i = some none ∧ Z)
  | [], ms, i, hz, e => by
    have e : ms = [] := e
    subst e; exact .inr ⟨rfl, hz⟩
  | (k', x) :: r, ms, i, hl, ⟨e, es', h1, h2, h3, h4⟩ => by
    subst h1
    unfold lookSK at hl
    cases k' <;> dsimp only at hl <;> first | exact hl.elim | skip
    case str b =>
      obtain ⟨sb, h2, rfl⟩ := h2
      obtain ⟨h5, h6⟩ := hl
      by_cases hab : (s.data.toList.map fun x => (x.toNat : Int)) = (sb.data.toList.map fun x => (x.toNat : Int))
      · refine .inl ⟨i, e.val, x, ?_, h3, h5 hab⟩
        simp only [Instr.findNow, h2, Instr.sameNow, str_beq, decide_eq_true hab]
      · have := find_lookS (ρ := ρ) (h := h) (F := F) (Z := Z) (i + 1) (h6 hab) h4
        simpa only [Instr.findNow, h2, Instr.sameNow, str_beq, decide_eq_false hab] using this
theorem relEntries_snoc {ρ : Env} {h : Heap} {k : PV} {x : SV} {e : MapEntry} (hk : k.rel h e.key) (hx : x.rel ρ h e.val) : ∀ {es : List (PV × SV)} {ms : List MapEntry}, relEntries ρ h es ms → relEntries ρ h (es ++ [(k, x)]) (ms ++ [e])
  | [], ms, e1 => by
    have e1 : ms = [] := e1
    subst e1; exact ⟨e, [], rfl, hk, hx, rfl⟩
  | (k', y) :: r, ms, ⟨e', es', h1, h2, h3, h4⟩ => by
    subst h1
    exact ⟨e', es' ++ [e], rfl, h2, h3, relEntries_snoc hk hx h4⟩
theorem relE_set {h : Heap} {w : Nat} {y : PV} {u : Value} (hy : y.rel h u) (hu : u.cells.size = w) : ∀ {es : List PV} {vs : List Value} {i : Nat}, PV.relE h w es vs → i < es.length →
    PV.relE h w (es.set i y) (vs.take (i * w) ++ u.cells.toList ++ vs.drop (i * w + w))
  | [], _, _, _, hi => by simp at hi
  | x :: es, vs, 0, ⟨u0, vs', e, h1, h2, h3⟩, _ => by
    refine ⟨u, vs', ?_, hu, hy, h3⟩
    subst e
    simp only [Nat.zero_mul, List.take_zero, List.nil_append, Nat.zero_add]
    rw [List.drop_left' (by simp [h1])]
  | x :: es, vs, i + 1, ⟨u0, vs', e, h1, h2, h3⟩, hi => by
    have ih := relE_set (es := es) (vs := vs') (i := i) hy hu h3 (by simpa using hi)
    refine ⟨u0, _, ?_, h1, h2, ih⟩
    subst e
    have hl : u0.cells.toList.length = w := by simp [h1]
    rw [show (i + 1) * w = u0.cells.toList.length + i * w by rw [hl, Nat.add_mul, Nat.one_mul, Nat.add_comm]]
    rw [List.take_length_add_append, show u0.cells.toList.length + i * w + w = u0.cells.toList.length + (i * w + w) by omega, List.drop_length_add_append]
    simp only [List.append_assoc]
theorem eff_sound {P : Program} {B : Base} {ρ : Env} {h : Heap} {own : List OB} {w : World} (s : Sat B ρ h own w) {o : Oper} {io : Ins} (hc : Comp P o.op io)
    {e : Opd → SV} {a : Act} (he : ∀ x y, OpdOk x y → y ∈ io.opds → (e y).rel ρ h (a.eval x)) {K : SV → List OB → Prop} (hp : eff own e io K) :
    (∃ v w', (execOp a.eval o).run P w = .ok (.value v) w' ∧ Goes B ρ h K v w') ∨ (∃ w', (execOp a.eval o).run P w = .ok .skip w' ∧ Goes B ρ h K undef w') := by
  obtain ⟨dst, op, type, pos, after, guard⟩ := o
  dsimp only at hc
  cases hc <;> simp only [eff] at hp <;> first | exact hp.elim | skip
  case alloc t z i hi hz zs hzs =>
    left
    refine ⟨.pointer (some ⟨w.heap.size, 0, none⟩), w.alloc (.cells z.cells t), ?_, _, _, _, h, hp, ⟨w.heap.size, s.env_new _, rfl⟩, s.box t (SV.relL_p (hzs h)), Env.le_snoc _ _, Heap.le_refl _⟩
    have h0 : ∀ W : World, (zeroValue t).run P W = .ok z W := fun W => by simp [zeroValue, typeInfo, hi, hz]
    rw [show execOp a.eval ⟨dst, .alloc t, type, pos, after, guard⟩ = (do pure (Next.value (← Instr.alloc t true (.tuple #[]))) : Sem Next) from rfl]
    exact ans_v (by simp only [Instr.alloc, Sem.run_bind, h0, Result.andThen_ok, newVar_run, Sem.run_pure])
  case box t x y hx =>
    left
    obtain ⟨hsc, hK⟩ := hp
    have gx := he _ _ hx (by simp [Ins.opds])
    obtain ⟨g1, g2⟩ := SV.cells_rel gx hsc
    refine ⟨.pointer (some ⟨w.heap.size, 0, none⟩), w.alloc (.cells (a.eval x).cells t), ?_, _, _, _, h, hK, ⟨w.heap.size, s.env_new _, rfl⟩, s.box t g1, Env.le_snoc _ _, Heap.le_refl _⟩
    rw [show execOp a.eval ⟨dst, .box t x, type, pos, after, guard⟩ = (do pure (Next.value (← Instr.box t (a.eval x))) : Sem Next) from rfl]
    exact ans_v (by simp only [Instr.box, Sem.run_bind, newVar_run, Result.andThen_ok, Sem.run_pure])
  case mkS t x y el i k hu hi hz hsz hx =>
    left
    have gx := he _ _ hx (by simp [Ins.opds])
    split at hp
    · rename_i kk n e1
      rw [e1] at gx
      have gx : a.eval x = .int kk n := gx
      obtain ⟨n0, n1, n2, hK⟩ := hp
      have hcells : madeCells (Value.cells (.int k 0)) (n.toNat * i.size) = ((List.replicate n.toNat 0).map (Value.int k)).toArray := by
        rw [hsz, Nat.mul_one]
        apply Array.ext'
        simp only [madeCells, Array.toList_map, Array.toList_range, List.map_replicate]
        refine List.ext_getElem? fun j => ?_
        simp only [List.getElem?_map, List.getElem?_range, List.getElem?_replicate]
        by_cases hj : j < n.toNat
        · simp [hj, Value.cells, Nat.mod_one]
        · simp [hj]
      have hrun := run_make (P := P) w t el i (.int k 0) hu hi hz kk kk n n n0 (Int.le_refl _) (by
        have h1 : (n.toNat : Int) = n := Int.toNat_of_nonneg n0
        rw [← h1, ← Int.natCast_mul, Nat.mul_comm]; omega) (by omega)
      rw [hcells] at hrun
      refine ⟨.slice (some ⟨w.heap.size, 0, none⟩) n.toNat n.toNat, _, ?_, _, _, _, h, hK, ⟨s.env_new _, rfl⟩, s.alloc (o := .cells ((List.replicate n.toNat 0).map (Value.int k)).toArray el) (v := .slice (some ⟨w.heap.size, 0, none⟩) n.toNat n.toNat) (.inr ⟨rfl, w.heap.size, _, n.toNat, ?_, ?_, ?_, push_new w _, ?_, ?_⟩) ?_, Env.le_snoc _ _, Heap.le_refl _⟩
      · rw [show execOp a.eval ⟨dst, .makeSlice t x x, type, pos, after, guard⟩ = (do pure (Next.value (← Instr.makeSlice t (a.eval x) (a.eval x))) : Sem Next) from rfl, gx]
        exact ans_v hrun
      · simp
      · simp
      · intro _; simp
      · simp
      · intro j hj
        rw [List.length_replicate] at hj
        simp [hj, List.getD_eq_getElem?_getD]
      · intro b e; cases e; rfl
    · exact hp.elim
  case store t x y x' y' i hi hx hy =>
    right
    have gx := he _ _ hx (by simp [Ins.opds])
    have gy := he _ _ hy (by simp [Ins.opds])
    rw [show execOp a.eval ⟨dst, .store t x y, type, pos, after, guard⟩ = (do Instr.storeAt t (a.eval x) (a.eval y); pure Next.skip : Sem Next) from rfl]
    split at hp
    · rename_i id off e1
      rw [e1] at gx
      obtain ⟨b, h1, h2⟩ := gx
      split at hp
      · rename_i ty cs e2
        obtain ⟨hn, hle, hsc, hK⟩ := hp
        obtain ⟨g1, g2⟩ := SV.cells_rel gy hsc
        obtain ⟨hi2, b', c, e3, h3, h4⟩ := s.look h1 e2 (by simp)
        cases e3
        obtain ⟨l1, l2⟩ := SV.relL_get h4
        obtain ⟨m1, m2⟩ := SV.relL_get g1
        have hcs : (a.eval y).cells.size = P.cellsOf t := by rw [← hn, m1]; simp
        have hst := run_storeCells_at (P := P) b off ty (a.eval y).cells.toList 0 c w h3 (by simp only [Array.length_toList, Nat.add_zero]; simp only [Array.length_toList] at l1 m1; omega) g2
        simp only [Nat.add_zero] at hst
        refine ⟨w.setRow b (c.toList.take off ++ (a.eval y).cells.toList ++ c.toList.drop (off + (a.eval y).cells.toList.length)).toArray, ?_, _, _, ρ, h, hK, trivial, s.replaceBox hi2 h1 (b := b) (ob' := .box ty (spliceL cs off (e y').cells)) rfl h3 ⟨b, _, rfl, setRow_heap w b c _ ty _ h3, ?_⟩ (fun _ x => x), Env.le_refl _, Heap.le_refl _⟩
        · rw [h2]
          simp only [Instr.storeAt, Instr.sureAddr, storeVar, Sem.run_bind, Sem.run_pure, Result.andThen_ok, run_sizeOf w hi, hcs, ne_eq, not_true_eq_false, if_false, hst]
        · refine SV.relL_of ?_ fun j u v a1 a2 => ?_
          · simp only [spliceL, List.length_append, List.length_take, List.length_drop, m1, l1]
          · simp only [spliceL] at a1
            simp only at a2
            rw [m1] at a1
            rcases Nat.lt_or_ge j off with hj | hj
            · rw [List.append_assoc, List.getElem?_append_left (by simp; omega), List.getElem?_take_of_lt hj] at a1
              rw [List.append_assoc, List.getElem?_append_left (by simp; simp at l1 m1; omega), List.getElem?_take_of_lt hj] at a2
              exact l2 _ _ _ a1 a2
            · have e4 : (cs.take off).length = off := by simp; omega
              have e5 : (c.toList.take off).length = off := by simp; simp at l1; omega
              rw [List.append_assoc, List.getElem?_append_right (by omega), e4] at a1
              rw [List.append_assoc, List.getElem?_append_right (by omega), e5] at a2
              rcases Nat.lt_or_ge (j - off) (e y').cells.length with hj2 | hj2
              · rw [List.getElem?_append_left hj2] at a1
                rw [List.getElem?_append_left (by omega)] at a2
                exact m2 _ _ _ a1 a2
              · rw [List.getElem?_append_right hj2, List.getElem?_drop] at a1
                rw [List.getElem?_append_right (by omega), List.getElem?_drop, ← m1] at a2
                rw [m1] at a1
                rw [m1] at a2
                exact l2 _ _ _ a1 a2
      · exact hp.elim
    · rename_i id w0 i0 o0 e1
      rw [e1] at gx
      obtain ⟨b, len, cap, h1, h2⟩ := gx
      split at hp
      · rename_i ty k nil ex l k' n' e2 e3
        obtain ⟨hn1, rfl, rfl, rfl, hlt, hK⟩ := hp
        rw [e3] at gy
        have gy' : a.eval y = .int k' n' := gy
        obtain ⟨hi2, hs2⟩ := s.look h1 e2 (by simp)
        rcases hs2 with ⟨_, _, e4⟩ | ⟨hn, b', c, cap', e4, h3, h4, h5, h6, h7⟩
        · cases e4
        cases e4
        have hst := run_storeCells_at (P := P) b i0 ty [Value.int k' n'] 0 c w h5 (by simp; omega) (by simp [Value.oneCell'])
        simp only [Nat.add_zero] at hst
        refine ⟨w.setRow b (c.toList.take i0 ++ [Value.int k' n'] ++ c.toList.drop (i0 + 1)).toArray, ?_, _, _, ρ, h, hK, trivial,
          s.replaceBox hi2 h1 (b := b) (ob' := .irow ty k' nil ex (l.set i0 n')) rfl h5 (.inr ⟨hn, b, _, cap, by rw [List.length_set], by rw [List.length_set]; exact h3, by rw [List.length_set]; exact h4, setRow_heap w b c _ ty _ h5, ?_, ?_⟩) (fun _ x => x), Env.le_refl _, Heap.le_refl _⟩
        · rw [h2, gy', Nat.mul_one, Nat.add_zero]
          simp only [Instr.storeAt, Instr.sureAddr, storeVar, Sem.run_bind, Sem.run_pure, Result.andThen_ok, run_sizeOf w hi, Value.cells, hn1, List.size_toArray, List.length_cons, List.length_nil, Nat.zero_add, ne_eq, not_true_eq_false, if_false]
          exact congrArg (fun r : Result Unit => r.andThen fun _ w' => Result.ok Next.skip w') hst
        · simp; omega
        · intro j hj
          rw [List.length_set] at hj
          by_cases e5 : j = i0
          · subst e5
            rw [show (c.toList.take j ++ [Value.int k' n'] ++ c.toList.drop (j + 1)).toArray[j]? = (c.toList.take j ++ [Value.int k' n'] ++ c.toList.drop (j + 1))[j]? from by simp]
            rw [List.append_assoc, List.getElem?_append_right (by simp; omega)]
            simp [List.getD_eq_getElem?_getD, hj]
            rw [show j - min j c.size = 0 by omega]
            rfl
          · rw [show (c.toList.take i0 ++ [Value.int k' n'] ++ c.toList.drop (i0 + 1)).toArray[j]? = (c.toList.take i0 ++ [Value.int k' n'] ++ c.toList.drop (i0 + 1))[j]? from by simp]
            have e6 : (l.set i0 n').getD j 0 = l.getD j 0 := by
              rw [List.getD_eq_getElem?_getD, List.getD_eq_getElem?_getD, List.getElem?_set_ne (Ne.symm e5)]
            rw [e6, ← h7 j hj]
            rcases Nat.lt_or_ge j i0 with h8 | h8
            · rw [List.append_assoc, List.getElem?_append_left (by simp; omega), List.getElem?_take_of_lt h8]; simp
            · rw [List.getElem?_append_right (by simp; omega), List.getElem?_drop]
              simp
              congr 1
              omega
      · rename_i ty w' nil ex es y0 e2 e3
        obtain ⟨hw1, hn1, ho1, hn2, hsc, hlt, hK⟩ := hp
        subst hw1
        subst ho1
        rw [e3] at gy
        have gy' : y0.rel h (a.eval y) := gy
        obtain ⟨hi2, hs2⟩ := s.look h1 e2 (by simp)
        rcases hs2 with ⟨_, _, e4⟩ | ⟨hn, b', c, cap', vs, e4, h3, h4, h5, h6, h7, h8⟩
        · cases e4
        cases e4
        obtain ⟨m1, m2⟩ := PV.relL_get (PV.cells_rel gy')
        have hcs : (a.eval y).cells.size = w0 := by rw [← hn1, ← hn2, m1]; simp
        have g2 : ∀ v ∈ (a.eval y).cells.toList, v.oneCell' = true := (SV.cells_rel (x := .p y0) (ρ := ρ) gy' (by
          show (y0.cells.map SV.p).all (·.scal) = true
          rw [List.all_map]; exact hsc)).2
        have hvl : vs.length = es.length * w0 := PV.relE_len h7
        have hin : i0 * w0 + w0 ≤ es.length * w0 := by
          have : (i0 + 1) * w0 ≤ es.length * w0 := Nat.mul_le_mul_right _ hlt
          rw [Nat.add_mul, Nat.one_mul] at this; exact this
        have hec : es.length * w0 ≤ cap * w0 := Nat.mul_le_mul_right _ h3
        have hst := run_storeCells_at (P := P) b (i0 * w0) ty (a.eval y).cells.toList 0 c w h5 (by simp only [Array.length_toList, Nat.add_zero]; omega) g2
        simp only [Nat.add_zero] at hst
        have hlen : (a.eval y).cells.toList.length = w0 := by simp [hcs]
        refine ⟨w.setRow b (c.toList.take (i0 * w0) ++ (a.eval y).cells.toList ++ c.toList.drop (i0 * w0 + (a.eval y).cells.toList.length)).toArray, ?_, _, _, ρ, h, hK, trivial,
          s.replaceBox hi2 h1 (b := b) (ob' := .row ty w0 nil ex (es.set i0 y0)) rfl h5 (.inr ⟨hn, b, _, cap, _, by rw [List.length_set], by rw [List.length_set]; exact h3, by rw [List.length_set]; exact h4, setRow_heap w b c _ ty _ h5, ?_, relE_set gy' hcs h7 hlt, ?_⟩) (fun _ x => x), Env.le_refl _, Heap.le_refl _⟩
        · rw [h2, Nat.add_zero]
          simp only [Instr.storeAt, Instr.sureAddr, storeVar, Sem.run_bind, Sem.run_pure, Result.andThen_ok, run_sizeOf w hi, hcs, hn1, ne_eq, not_true_eq_false, if_false, hst]
        · simp only [List.size_toArray, List.length_append, List.length_take, List.length_drop, hlen, Array.length_toList]
          omega
        · intro j v hj
          rw [hlen]
          rw [show ((c.toList.take (i0 * w0) ++ (a.eval y).cells.toList ++ c.toList.drop (i0 * w0 + w0)).toArray)[j]? = (c.toList.take (i0 * w0) ++ (a.eval y).cells.toList ++ c.toList.drop (i0 * w0 + w0))[j]? from by simp]
          have l1 : (vs.take (i0 * w0)).length = i0 * w0 := by simp; omega
          have l2 : (c.toList.take (i0 * w0)).length = i0 * w0 := by simp; omega
          rcases Nat.lt_or_ge j (i0 * w0) with q1 | q1
          · rw [List.append_assoc, List.getElem?_append_left (by omega), List.getElem?_take_of_lt q1] at hj
            rw [List.append_assoc, List.getElem?_append_left (by omega), List.getElem?_take_of_lt q1]
            simpa using h8 j v hj
          · rw [List.append_assoc, List.getElem?_append_right (by omega), l1] at hj
            rw [List.append_assoc, List.getElem?_append_right (by omega), l2]
            rcases Nat.lt_or_ge (j - i0 * w0) w0 with q2 | q2
            · rw [List.getElem?_append_left (by omega)] at hj ⊢
              exact hj
            · rw [List.getElem?_append_right (by omega), hlen, List.getElem?_drop] at hj ⊢
              have := h8 _ v hj
              simpa using this
      · exact hp.elim
    · exact hp.elim
  case bsl t n parts el i ps hu hi hn hord hps hb hw z hz hzs ik hik =>
    left
    obtain ⟨hz', hz1, hz2⟩ := fzL_sat ((ps.map e).flatMap (SV.ids own)) s
    generalize fzL own ((ps.map e).flatMap (SV.ids own)) = own' at hp hz2
    have gps := OpdsOk.rel (ρ := ρ) (h := h) (e := e) (ev := a.eval) hps fun x y a b => he x y a (by simpa [Ins.opds] using b)
    have hlen : (parts.toList.map (·.2)).length = n := by rw [hn]; simp
    have hrun : ∀ W : World, (execOp a.eval ⟨dst, .buildSlice t n parts, type, pos, after, guard⟩).run P W =
        (do pure (Next.value (← Instr.buildSlice t ((parts.toList.map (·.2)).map a.eval).length ((((parts.toList.map (·.2)).map a.eval).zipIdx).map fun q => (q.2, q.1)).toArray)) : Sem Next).run P W := by
      intro W
      rw [show execOp a.eval ⟨dst, .buildSlice t n parts, type, pos, after, guard⟩ = (do pure (Next.value (← Instr.buildSlice t n (parts.map fun (i, x) => (i, a.eval x)))) : Sem Next) from rfl,
        parts_of (e := a.eval) hord, List.length_map, hlen]
    split at hp
    · rename_i xs e1
      have gxs := SV.pvSL_rel hz2 _ xs _ e1 (SV.relL_mono (Env.le_refl _) hz1 _ _ gps)
      obtain ⟨l1, l2⟩ := PV.relL_get gxs
      have hn' : ((parts.toList.map (·.2)).map a.eval).length = n := by rw [List.length_map, hlen]
      cases ik with
      | some k =>
        dsimp only at hp
        obtain ⟨hk1, hk2⟩ := hik k rfl
        split at hp
        · rename_i l e2
          have e3 := intsOf_spec e2
          rw [e3] at gxs
          have e4 := relL_ints gxs
          have hcells : ∀ v ∈ (parts.toList.map (·.2)).map a.eval, v.cells.size = P.cellsOf el := by
            intro v hv
            rw [e4] at hv
            obtain ⟨n', _, rfl⟩ := List.mem_map.1 hv
            rw [hk2]; rfl
          have hb2 := buildSlice_run hu hi hz hw w ((parts.toList.map (·.2)).map a.eval) hcells (by rw [hn']; exact hb)
          have hfl : ∀ l : List Int, (l.map (Value.int k)).flatMap (fun v => v.cells.toList) = l.map (Value.int k) := by
            intro l
            induction l with
            | nil => rfl
            | cons n l ih => simp only [List.map_cons, List.flatMap_cons, ih]; rfl
          refine ⟨.slice (some ⟨w.heap.size, 0, none⟩) n n, _, ?_, _, _, _, hz', hp, ⟨hz2.env_new _, rfl⟩, hz2.alloc (o := .cells (l.map (Value.int k)).toArray el) (v := .slice (some ⟨w.heap.size, 0, none⟩) n n) (.inr ⟨rfl, w.heap.size, _, n, ?_, ?_, ?_, push_new w _, ?_, ?_⟩) ?_, Env.le_snoc _ _, hz1⟩
          · rw [hrun]
            have := ans_v hb2
            rw [hn', e4, hfl] at this
            rw [e4]
            rw [show (l.map (Value.int k)).length = n by rw [← e4, hn']] 
            exact this
          · rw [show l.length = n by rw [← hn', e4]; simp]
          · rw [show l.length = n by rw [← hn', e4]; simp]; exact Nat.le_refl _
          · intro _; rw [show l.length = n by rw [← hn', e4]; simp]
          · rw [show n = l.length by rw [← hn', e4]; simp]; simp
          · intro j hj; simp [hj, List.getD_eq_getElem?_getD]
          · intro b hb; cases hb; rfl
        · exact hp.elim
      | none =>
        obtain ⟨hall, hK⟩ := hp
        have hc1 : ∀ x ∈ xs, x.cells.length = P.cellsOf el := fun x hx => by
          have := List.all_eq_true.1 hall x hx
          simp only [Bool.and_eq_true, beq_iff_eq] at this
          exact this.1
        have hcells : ∀ v ∈ (parts.toList.map (·.2)).map a.eval, v.cells.size = P.cellsOf el := by
          intro v hv
          obtain ⟨j, hj, rfl⟩ := List.getElem_of_mem hv
          have hj' : j < xs.length := by omega
          have h3 := l2 j _ _ (List.getElem?_eq_getElem hj') (List.getElem?_eq_getElem hj)
          have h4 := (PV.relL_get (PV.cells_rel h3)).1
          rw [← hc1 _ (List.getElem_mem hj'), h4]; simp
        have hb2 := buildSlice_run hu hi hz hw w ((parts.toList.map (·.2)).map a.eval) hcells (by rw [hn']; exact hb)
        have hxl : xs.length = n := by rw [l1, hn']
        have hE := relE_of gxs hc1
        refine ⟨.slice (some ⟨w.heap.size, 0, none⟩) n n, w.alloc (.cells (((parts.toList.map (·.2)).map a.eval).flatMap fun v => v.cells.toList).toArray el), ?_, _, _, _, hz', hK, ⟨hz2.env_new _, rfl⟩,
          hz2.alloc (v := .slice (some ⟨w.heap.size, 0, none⟩) n n) (.inr ⟨rfl, w.heap.size, _, n, _, ?_, ?_, ?_, push_new w _, ?_, hE, ?_⟩) ?_, Env.le_snoc _ _, hz1⟩
        · rw [hrun]
          have := ans_v hb2
          rw [hn'] at this ⊢
          exact this
        · rw [hxl]
        · rw [hxl]; exact Nat.le_refl _
        · intro _; rw [hxl]
        · rw [List.size_toArray, relE_length hE, hxl]
        · intro j v hj; simpa using hj
        · intro b hb; cases hb; rfl
    · exact hp.elim
  case app t x y x' y' el i z hu hi hz hzs hw ik hik hx hy =>
    left
    have gx := he _ _ hx (by simp [Ins.opds])
    have gy := he _ _ hy (by simp [Ins.opds])
    have hrun : ∀ {v' : Value} {w' : World}, (Builtin.append_ #[t, t] type #[a.eval x, a.eval y]).run P w = .ok v' w' →
        (execOp a.eval ⟨dst, .call { callee := .builtin .append, args := #[x, y], argTypes := #[t, t] }, type, pos, after, guard⟩).run P w = .ok (.value v') w' := fun h => by
      simp [execOp, resolve, invoke, builtin, h]
    cases ik with
    | some k =>
      dsimp only at hp
      obtain ⟨hk1, hk2⟩ := hik k rfl
      split at hp
      · rename_i nil0 ex0 k2 m e1
        obtain ⟨rfl, hp⟩ := hp
        have sy := see_isl s gy e1
        have hyl : (m.map (Value.int k2)).length = m.length * P.cellsOf el := by simp [hk2]
        have h1 : ∀ u ∈ m.map (Value.int k2), u.oneCell' = true := fun u hu => by obtain ⟨n, _, rfl⟩ := List.mem_map.1 hu; rfl
        unfold appI at hp
        split at hp
        · rename_i id e2
          rw [e2] at gx
          split at hp
          · rename_i ty k1 nil ex l e3
            obtain ⟨rfl, rfl, hb, h63, hK⟩ := hp
            obtain ⟨hid, hsat⟩ := s.look gx.1 e3 (by simp)
            rcases hsat with ⟨hn, hl, hv⟩ | ⟨hn, b, c, cap, hv, hlc, hex, hblk, hcs, hcells⟩
            · subst hn; subst hl
              obtain ⟨v', w', hr, ap⟩ := append_sem (ty := type) hu hi hz hzs hw w (vx := a.eval x) (n := 0) (xs := []) (m := m.length) ⟨none, 0, hv, Nat.le_refl _, .inl ⟨rfl, rfl, rfl⟩⟩ (by simp) sy hyl h1 (.inl ⟨0, hv⟩) (by simpa using hb) (by simpa using h63) (fun c hc => by rw [hv] at hc; cases hc; rfl)
              rw [hv] at ap
              obtain ⟨s2, ho⟩ := app_nil (s.drop hid gx.1) ap (ob1 := .irow ty k1 m.isEmpty false m) ofSlice_irow (fun W b cap c hm a1 a2 a3 a4 => by
                have : m.isEmpty = false := by cases m <;> simp at hm ⊢
                rw [this]
                exact sat_irow a1 (by rw [a2, hk2, Nat.mul_one]) a3 (by rw [hk2, Nat.mul_one] at a4; exact a4)) (fun h0 => by
                have : m = [] := List.eq_nil_of_length_eq_zero h0
                subst this
                exact .inl ⟨rfl, rfl, rfl⟩)
              simp only [Bool.true_and, List.nil_append] at hK
              exact ⟨v', w', hrun hr, _, _, _, h, hK, ⟨by have := s.env_new (ρ := ρ) v'; simpa using this, ho⟩, s2, Env.le_snoc _ _, Heap.le_refl _⟩
            · subst hn
              have hvs : Shows w (a.eval x) l.length (l.map (Value.int k1)) := ⟨_, cap, hv, hlc, .inr ⟨⟨b, 0, none⟩, rfl, fun j u hj => by
                rw [addOff]
                have hj' : j < l.length := by simpa using (List.getElem?_eq_some_iff.1 hj).1
                rw [Nat.zero_add, cell_own hblk, hcells j hj', ← hj]
                simp [hj', List.getD_eq_getElem?_getD]⟩⟩
              have hcells2 : ∀ (j : Nat) u, (l.map (Value.int k1))[j]? = some u → c[j]? = some u := fun j u hj => by
                have hj' : j < l.length := by simpa using (List.getElem?_eq_some_iff.1 hj).1
                rw [hcells j hj', ← hj]
                simp [hj', List.getD_eq_getElem?_getD]
              obtain ⟨v', w', hr, ap⟩ := append_sem (ty := type) hu hi hz hzs hw w hvs (by simp [hk2]) sy hyl h1 (.inr (.inr ⟨b, cap, c, hv, hblk, by rw [hk2, Nat.mul_one]; exact hcs, hcells2⟩)) hb h63 (fun c hc => by rw [hv] at hc; cases hc)
              have htk : c.toList.take (l.length * P.cellsOf ty) = l.map (Value.int k1) := by
                rw [hk2, Nat.mul_one]
                apply List.ext_getElem?
                intro j
                rcases Nat.lt_or_ge j l.length with hj | hj
                · rw [List.getElem?_take_of_lt hj]
                  have hj2 : j < (l.map (Value.int k1)).length := by simpa using hj
                  have := hcells2 j _ (List.getElem?_eq_getElem hj2)
                  rw [List.getElem?_eq_getElem hj2]
                  simpa using this
                · rw [List.getElem?_eq_none (by simp; omega), List.getElem?_eq_none (by simpa using hj)]
              obtain ⟨s2, ho⟩ := app_own s hid gx.1 (by rw [hv]; rfl) hv hblk (by rw [hk2, Nat.mul_one]; exact hcs) htk hlc hyl ap (ob1 := .irow ty k1 false false (l ++ m)) ofSlice_irow (fun W b cap c a1 a2 a3 a4 => by
                have := sat_irow (ρ := ρ ++ [.slice (some ⟨b, 0, none⟩) (l.length + m.length) cap]) (h := h) (L := l ++ m) (k := k1) a1 (by rw [a2, hk2, Nat.mul_one]) (by simpa using a3) (by rw [hk2, Nat.mul_one] at a4; simpa using a4)
                simpa using this)
              simp only [Bool.false_and] at hK
              exact ⟨v', w', hrun hr, _, _, _, h, hK, ⟨by have := s.env_new (ρ := ρ) v'; simpa using this, ho⟩, s2, Env.le_snoc _ _, Heap.le_refl _⟩
          · exact hp.elim
        · rename_i nil ex k1 l e2
          obtain ⟨rfl, rfl, hb, h63, hp⟩ := hp
          rw [e2] at gx
          have gx' : (PV.isl nil true k1 l).rel h (a.eval x) := gx
          have sx := shows_isl s.sub gx'
          obtain ⟨ad, cap, hv, hc1, hc2, hc3, hc4, hc5⟩ := gx'
          have hcap := hc2 rfl
          subst hcap
          cases nil with
          | true =>
            dsimp only at hp
            have hn : ad = none := hc3.1 rfl
            subst hn
            have h0 := hc4 rfl
            have hl : l = [] := List.eq_nil_of_length_eq_zero h0
            subst hl
            obtain ⟨v', w', hr, ap⟩ := append_sem (ty := type) hu hi hz hzs hw w (vx := a.eval x) (n := 0) (xs := []) (m := m.length) ⟨none, 0, hv, Nat.le_refl _, .inl ⟨rfl, rfl, rfl⟩⟩ (by simp) sy hyl h1 (.inl ⟨0, hv⟩) (by simpa using hb) (by simpa using h63) (fun c hc => by rw [hv] at hc; cases hc; rfl)
            rw [hv] at ap
            obtain ⟨s2, ho⟩ := app_nil s ap (ob1 := .irow el k1 m.isEmpty false m) ofSlice_irow (fun W b cap c hm a1 a2 a3 a4 => by
                have : m.isEmpty = false := by cases m <;> simp at hm ⊢
                rw [this]
                exact sat_irow a1 (by rw [a2, hk2, Nat.mul_one]) a3 (by rw [hk2, Nat.mul_one] at a4; exact a4)) (fun h0 => by
                have : m = [] := List.eq_nil_of_length_eq_zero h0
                subst this
                exact .inl ⟨rfl, rfl, rfl⟩)
            exact ⟨v', w', hrun hr, _, _, _, h, hp, ⟨s.env_new v', ho⟩, s2, Env.le_snoc _ _, Heap.le_refl _⟩
          | false =>
            have hn0 : ∀ c, a.eval x = .slice none l.length c → c = 0 := fun c hc => by
              rw [hv] at hc
              injection hc with e1 e2 e3
              have := hc4 e1
              omega
            dsimp only at hp
            obtain ⟨v', w', hr, ap⟩ := append_sem (ty := type) hu hi hz hzs hw w sx (by simp [hk2]) sy hyl h1 (.inr (.inl ⟨ad, hv⟩)) hb h63 hn0
            cases m with
            | nil =>
              dsimp only at hp
              have : v' = a.eval x ∧ w' = w := by
                cases ap with
                | same _ => exact ⟨rfl, rfl⟩
                | new _ _ hm => simp at hm
                | room _ _ _ _ hm => simp at hm
              obtain ⟨rfl, rfl⟩ := this
              exact ⟨_, _, hrun hr, _, _, ρ, h, hp, gx, s, Env.le_refl _, Heap.le_refl _⟩
            | cons n m =>
              dsimp only at hp
              rw [hv] at ap
              obtain ⟨s2, ho⟩ := app_full s ap (by simp) (ob1 := .irow el k1 false false (l ++ n :: m)) ofSlice_irow (fun W b cap c a1 a2 a3 a4 => by
                have := sat_irow (ρ := ρ ++ [.slice (some ⟨b, 0, none⟩) (l.length + (n :: m).length) cap]) (h := h) (L := l ++ n :: m) (k := k1) a1 (by rw [a2, hk2, Nat.mul_one]) (by simpa using a3) (by rw [hk2, Nat.mul_one] at a4; simpa using a4)
                simpa using this)
              exact ⟨v', w', hrun hr, _, _, _, h, hp, ⟨s.env_new v', ho⟩, s2, Env.le_snoc _ _, Heap.le_refl _⟩
        · exact hp.elim
      · exact hp.elim
    | none =>
      dsimp only at hp
      split at hp
      · rename_i nil0 ex0 k2 m e1
        obtain ⟨rfl, hp⟩ := hp
        obtain ⟨ys, gys, sy⟩ := see_sl s gy e1
        have hyl := PV.relE_len gys
        unfold appS at hp
        split at hp
        · rename_i id e2
          rw [e2] at gx
          split at hp
          · rename_i ty k1 nil ex l e3
            obtain ⟨rfl, rfl, hb, h63, hsc, hK⟩ := hp
            have h1 := relE_one gys hsc
            obtain ⟨hid, hsat⟩ := s.look gx.1 e3 (by simp)
            rcases hsat with ⟨hn, hl, hv⟩ | ⟨hn, b, c, cap, xs, hv, hlc, hex, hblk, hcs, gxs, hcells⟩
            · subst hn; subst hl
              obtain ⟨v', w', hr, ap⟩ := append_sem (ty := type) hu hi hz hzs hw w (vx := a.eval x) (n := 0) (xs := []) (m := m.length) ⟨none, 0, hv, Nat.le_refl _, .inl ⟨rfl, rfl, rfl⟩⟩ (by simp) sy hyl h1 (.inl ⟨0, hv⟩) (by simpa using hb) (by simpa using h63) (fun c hc => by rw [hv] at hc; cases hc; rfl)
              rw [hv] at ap
              obtain ⟨s2, ho⟩ := app_nil (s.drop hid gx.1) ap (ob1 := .row ty (P.cellsOf ty) m.isEmpty false m) ofSlice_row (fun W b cap c hm a1 a2 a3 a4 => by
                have : m.isEmpty = false := by cases m <;> simp at hm ⊢
                rw [this]
                exact sat_row a1 a2 a3 a4 gys) (fun h0 => by
                have : m = [] := List.eq_nil_of_length_eq_zero h0
                subst this
                exact .inl ⟨rfl, rfl, rfl⟩)
              simp only [Bool.true_and, List.nil_append] at hK
              exact ⟨v', w', hrun hr, _, _, _, h, hK, ⟨by have := s.env_new (ρ := ρ) v'; simpa using this, ho⟩, s2, Env.le_snoc _ _, Heap.le_refl _⟩
            · subst hn
              have hxl := PV.relE_len gxs
              have hvs : Shows w (a.eval x) l.length xs := ⟨_, cap, hv, hlc, .inr ⟨⟨b, 0, none⟩, rfl, fun j u hj => by
                rw [addOff]
                rw [Nat.zero_add, cell_own hblk, hcells j u hj]⟩⟩
              obtain ⟨v', w', hr, ap⟩ := append_sem (ty := type) hu hi hz hzs hw w hvs hxl sy hyl h1 (.inr (.inr ⟨b, cap, c, hv, hblk, hcs, hcells⟩)) hb h63 (fun c hc => by rw [hv] at hc; cases hc)
              have htk : c.toList.take (l.length * P.cellsOf ty) = xs := by
                apply List.ext_getElem?
                intro j
                rcases Nat.lt_or_ge j (l.length * P.cellsOf ty) with hj | hj
                · rw [List.getElem?_take_of_lt hj]
                  have hj2 : j < xs.length := by omega
                  have := hcells j _ (List.getElem?_eq_getElem hj2)
                  rw [List.getElem?_eq_getElem hj2]
                  simpa using this
                · rw [List.getElem?_eq_none (by simp; omega), List.getElem?_eq_none (by omega)]
              obtain ⟨s2, ho⟩ := app_own s hid gx.1 (by rw [hv]; rfl) hv hblk hcs htk hlc hyl ap (ob1 := .row ty (P.cellsOf ty) false false (l ++ m)) ofSlice_row (fun W b cap c a1 a2 a3 a4 => by
                have := sat_row (ρ := ρ ++ [.slice (some ⟨b, 0, none⟩) (l.length + m.length) cap]) (h := h) (L := l ++ m) a1 a2 (by simpa using a3) (by simpa using a4) (PV.relE_append gxs gys)
                simpa using this)
              simp only [Bool.false_and] at hK
              exact ⟨v', w', hrun hr, _, _, _, h, hK, ⟨by have := s.env_new (ρ := ρ) v'; simpa using this, ho⟩, s2, Env.le_snoc _ _, Heap.le_refl _⟩
          · exact hp.elim
        · rename_i nil ex k1 l e2
          obtain ⟨rfl, rfl, hb, h63, hsc, hp⟩ := hp
          have h1 := relE_one gys hsc
          rw [e2] at gx
          have gx' : (PV.sl nil true (P.cellsOf el) l).rel h (a.eval x) := gx
          obtain ⟨xs, gxs, sx⟩ := shows_sl s.sub gx'
          have hxl := PV.relE_len gxs
          obtain ⟨ad, cap, hv, hc1, hc2, hc3, hc4, hc5⟩ := gx'
          have hcap := hc2 rfl
          subst hcap
          cases nil with
          | true =>
            dsimp only at hp
            have hn : ad = none := hc3.1 rfl
            subst hn
            have h0 := hc4 rfl
            have hl : l = [] := List.eq_nil_of_length_eq_zero h0
            subst hl
            obtain ⟨v', w', hr, ap⟩ := append_sem (ty := type) hu hi hz hzs hw w (vx := a.eval x) (n := 0) (xs := []) (m := m.length) ⟨none, 0, hv, Nat.le_refl _, .inl ⟨rfl, rfl, rfl⟩⟩ (by simp) sy hyl h1 (.inl ⟨0, hv⟩) (by simpa using hb) (by simpa using h63) (fun c hc => by rw [hv] at hc; cases hc; rfl)
            rw [hv] at ap
            obtain ⟨s2, ho⟩ := app_nil s ap (ob1 := .row el (P.cellsOf el) m.isEmpty false m) ofSlice_row (fun W b cap c hm a1 a2 a3 a4 => by
                have : m.isEmpty = false := by cases m <;> simp at hm ⊢
                rw [this]
                exact sat_row a1 a2 a3 a4 gys) (fun h0 => by
                have : m = [] := List.eq_nil_of_length_eq_zero h0
                subst this
                exact .inl ⟨rfl, rfl, rfl⟩)
            exact ⟨v', w', hrun hr, _, _, _, h, hp, ⟨s.env_new v', ho⟩, s2, Env.le_snoc _ _, Heap.le_refl _⟩
          | false =>
            have hn0 : ∀ c, a.eval x = .slice none l.length c → c = 0 := fun c hc => by
              rw [hv] at hc
              injection hc with e1 e2 e3
              have := hc4 e1
              omega
            dsimp only at hp
            obtain ⟨v', w', hr, ap⟩ := append_sem (ty := type) hu hi hz hzs hw w sx hxl sy hyl h1 (.inr (.inl ⟨ad, hv⟩)) hb h63 hn0
            cases m with
            | nil =>
              dsimp only at hp
              have : v' = a.eval x ∧ w' = w := by
                cases ap with
                | same _ => exact ⟨rfl, rfl⟩
                | new _ _ hm => simp at hm
                | room _ _ _ _ hm => simp at hm
              obtain ⟨rfl, rfl⟩ := this
              exact ⟨_, _, hrun hr, _, _, ρ, h, hp, gx, s, Env.le_refl _, Heap.le_refl _⟩
            | cons n m =>
              dsimp only at hp
              rw [hv] at ap
              obtain ⟨s2, ho⟩ := app_full s ap (by simp) (ob1 := .row el (P.cellsOf el) false false (l ++ n :: m)) ofSlice_row (fun W b cap c a1 a2 a3 a4 => by
                have := sat_row (ρ := ρ ++ [.slice (some ⟨b, 0, none⟩) (l.length + (n :: m).length) cap]) (h := h) (L := l ++ n :: m) a1 a2 (by simpa using a3) (by simpa using a4) (PV.relE_append gxs gys)
                simpa using this)
              exact ⟨v', w', hrun hr, _, _, _, h, hp, ⟨s.env_new v', ho⟩, s2, Env.le_snoc _ _, Heap.le_refl _⟩
        · exact hp.elim
      · exact hp.elim
  case cvtSB t el x x' hu hu8 hx =>
    left
    have gx := he _ _ hx (by simp [Ins.opds])
    rw [show execOp a.eval ⟨dst, .convert t t x, type, pos, after, guard⟩ = (do pure (Next.value (← convert t t (a.eval x))) : Sem Next) from rfl]
    split at hp
    · rename_i id e1
      rw [e1] at gx
      split at hp
      · rename_i ty k nil ex l e2
        obtain ⟨rfl, hK⟩ := hp
        obtain ⟨hi, hsat⟩ := s.look gx.1 e2 (by simp)
        rcases hsat with ⟨h0, _⟩ | ⟨_, b, c, cap, ev, h1, h2, h3, h4, h5⟩
        · cases h0
        have hlt : b < w.heap.size := (Array.getElem?_eq_some_iff.1 h3).1
        have hsh : w.shape? b = some (ty, c.size) := by unfold World.shape?; rw [h3]
        have hrun : (convert t t (a.eval x)).run P w = .ok (a.eval x) (w.freeze ⟨b, c.size, none⟩ 1) := by
          rw [ev]; simp [convert, run_underlying hu, run_underlying hu8, markStringish, hsh]
        have hw' : (w.freeze ⟨b, c.size, none⟩ 1).heap[b]? = some (.cells c ty (c.size, c.size + 1)) := by
          unfold World.freeze
          rw [if_neg (by decide)]
          show (w.heap.modify b _)[b]? = _
          rw [Array.getElem?_eq_getElem (by rw [Array.size_modify]; exact hlt), Array.getElem_modify_self]
          have := (Array.getElem?_eq_some_iff.1 h3).2
          rw [this]
          rfl
        have hwo : ∀ b' : Nat, b' ≠ b → (w.freeze ⟨b, c.size, none⟩ 1).heap[b']? = w.heap[b']? := fun b' hb => by
          unfold World.freeze
          rw [if_neg (by decide)]
          show (w.heap.modify b _)[b']? = _
          rw [Array.getElem?_modify, if_neg (Ne.symm hb)]
        have hws : (w.freeze ⟨b, c.size, none⟩ 1).heap.size = w.heap.size := by
          unfold World.freeze
          rw [if_neg (by decide)]
          show (w.heap.modify b _).size = _
          rw [Array.size_modify]
        have hwout : Out w (w.freeze ⟨b, c.size, none⟩ 1) := by unfold World.freeze; rw [if_neg (by decide)]; exact ⟨rfl, rfl⟩
        have hfp : (OB.irow ty k false ex l).fp (a.eval x) = some b := by rw [ev]; rfl
        have s1 := s.replace hi gx.1 (w' := w.freeze ⟨b, c.size, none⟩ 1) hws hwout (fun b' hb => hwo b' fun e => hb (by rw [e]; exact hfp)) (ob' := .gone) trivial (fun b' e => by rw [ev] at e; cases e)
        have hnf : ∀ (i : Nat) ob1 (u : Value), (own.set id .gone)[i]? = some ob1 → ρ[i]? = some u → ob1.fp u ≠ some b := fun i ob1 u f1 f2 f3 => by
          by_cases hid : i = id
          · subst hid
            rw [List.getElem?_set_self (List.getElem?_eq_some_iff.1 hi).1] at f1
            cases f1
            cases u <;> cases f3
          · rw [List.getElem?_set_ne (Ne.symm hid)] at f1
            exact hid (s.nodup i id ob1 _ u _ b f1 f2 hi gx.1 f3 hfp)
        obtain ⟨l2, s2⟩ := s1.adopt (x := .isl false ex k l) (v := a.eval x) (id := id) hw' (s.mine id _ _ b hi gx.1 hfp) hnf (List.getElem?_set_self (List.getElem?_eq_some_iff.1 hi).1) gx.1 (by
          rw [ev]
          refine ⟨some ⟨b, 0, none⟩, cap, rfl, h1, h2, by simp, fun e => by simp at e, fun ad e => ?_⟩
          cases e
          refine ⟨fun _ => rfl, fun j u hj => ⟨c, ty, (c.size, c.size + 1), if_pos rfl, ?_⟩⟩
          have hlj : j < l.length := by simpa using (List.getElem?_eq_some_iff.1 hj).1
          rw [Nat.zero_add, h5 j hlj, ← hj]
          simp [hlj, List.getD_eq_getElem?_getD])
        rw [List.set_set] at s2
        refine ⟨_, _, ans_v hrun, _, _, ρ, _, hK, ?_, s2, Env.le_refl _, l2⟩
        have := s2.ent id _ _ (List.getElem?_set_self (List.getElem?_eq_some_iff.1 hi).1) gx.1
        exact this
      · exact hp.elim
    · exact hp.elim
  case mkMap t =>
    left
    refine ⟨.map (some w.heap.size), w.alloc (.map #[] 0), ?_, _, _, _, h, hp, ⟨by rw [← s.len]; simp, rfl⟩, s.alloc (ob := .map []) (v := .map (some w.heap.size)) ⟨_, #[], 0, rfl, push_new .., rfl⟩ (fun b e => by cases e; rfl), Env.le_snoc _ _, Heap.le_refl _⟩
    rw [show execOp a.eval ⟨dst, .makeMap t none, type, pos, after, guard⟩ = (do pure (Next.value (← Instr.makeMap t none)) : Sem Next) from rfl]
    exact ans_v (by simp [Instr.makeMap, newObj, Sem.run, Sem.run_bind, Result.andThen])
  case insm t m k v m' k' v' kt elem q hu hk hm hkk hv =>
    right
    have gm := he _ _ hm (by simp [Ins.opds])
    have gk := he _ _ hkk (by simp [Ins.opds])
    have gv := he _ _ hv (by simp [Ins.opds])
    rw [show execOp a.eval ⟨dst, .insert t m k v, type, pos, after, guard⟩ = (do Instr.mapUpdate t (a.eval m) (a.eval k) (a.eval v); pure Next.skip : Sem Next) from rfl]
    split at hp
    · rename_i id kk e1 e2
      rw [e1] at gm
      rw [e2] at gk
      split at hp
      · rename_i es e3
        obtain ⟨hnew, hint, hK⟩ := hp
        cases kk <;> dsimp only at hint <;> first | exact hint.elim | skip
        rename_i q' n'
        have gk' : a.eval k = .int q' n' := gk
        obtain ⟨hi2, r, ms, clock, e4, h3, h4⟩ := s.look gm.1 e3 (by simp)
        have hf := find_new (d := q) 0 hnew h4
        let w' : World := { w with heap := w.heap.setIfInBounds r (.map (ms.push { key := .int q' n', val := a.eval v, born := clock }) (clock + 1)) }
        have hlt : r < w.heap.size := (Array.getElem?_eq_some_iff.1 h3).1
        have hw : ∀ b : Nat, b ≠ r → w'.heap[b]? = w.heap[b]? := fun b hb => by simp only [w']; rw [Array.getElem?_setIfInBounds_ne (Ne.symm hb)]
        have hw2 : w'.heap[r]? = some (.map (ms.push { key := .int q' n', val := a.eval v, born := clock }) (clock + 1)) := by simp only [w']; rw [Array.getElem?_setIfInBounds_self_of_lt hlt]
        refine ⟨w', ?_, _, _, ρ, h, hK, trivial, s.replace hi2 gm.1 (w' := w') (by simp [w']) ⟨rfl, rfl⟩ (fun b hb => hw b fun e => hb (by rw [e4, e]; rfl)) (ob' := .map (es ++ [(.int q' n', e v')])) ⟨r, _, _, e4, hw2, by simpa using relEntries_snoc (k := .int q' n') (e := { key := .int q' n', val := a.eval v, born := clock }) (show Value.int q' n' = Value.int q' n' from rfl) gv h4⟩ (fun b hb => by rw [e4] at hb ⊢; exact hb), Env.le_refl _, Heap.le_refl _⟩
        rw [e4, gk']
        simp only [Instr.mapUpdate, Sem.run_bind, run_underlying hu, Result.andThen_ok, getObj_run h3, checkKey_int' hk, findKey_run hk hf]
        simp [setObj, Sem.run, Result.andThen, w', h3]
      · exact hp.elim
    · exact hp.elim
  case inss t m k v m' k' v' kt elem hu hk hm hkk hv =>
    right
    have gm := he _ _ hm (by simp [Ins.opds])
    have gk := he _ _ hkk (by simp [Ins.opds])
    have gv := he _ _ hv (by simp [Ins.opds])
    rw [show execOp a.eval ⟨dst, .insert t m k v, type, pos, after, guard⟩ = (do Instr.mapUpdate t (a.eval m) (a.eval k) (a.eval v); pure Next.skip : Sem Next) from rfl]
    split at hp
    · rename_i id kk e1 e2
      rw [e1] at gm
      rw [e2] at gk
      split at hp
      · rename_i es e3
        obtain ⟨hnew, hK⟩ := hp
        obtain ⟨ks, gk', rfl⟩ := gk
        obtain ⟨hi2, r, ms, clock, e4, h3, h4⟩ := s.look gm.1 e3 (by simp)
        have hf := find_newS 0 hnew h4
        let w' : World := { w with heap := w.heap.setIfInBounds r (.map (ms.push { key := .string ks, val := a.eval v, born := clock }) (clock + 1)) }
        have hlt : r < w.heap.size := (Array.getElem?_eq_some_iff.1 h3).1
        have hw : ∀ b : Nat, b ≠ r → w'.heap[b]? = w.heap[b]? := fun b hb => by simp only [w']; rw [Array.getElem?_setIfInBounds_ne (Ne.symm hb)]
        have hw2 : w'.heap[r]? = some (.map (ms.push { key := .string ks, val := a.eval v, born := clock }) (clock + 1)) := by simp only [w']; rw [Array.getElem?_setIfInBounds_self_of_lt hlt]
        refine ⟨w', ?_, _, _, ρ, h, hK, trivial, s.replace hi2 gm.1 (w' := w') (by simp [w']) ⟨rfl, rfl⟩ (fun b hb => hw b fun e => hb (by rw [e4, e]; rfl)) (ob' := .map (es ++ [(.str (ks.data.toList.map fun x => (x.toNat : Int)), e v')])) ⟨r, _, _, e4, hw2, by simpa using relEntries_snoc (k := .str (ks.data.toList.map fun x => (x.toNat : Int))) (e := { key := .string ks, val := a.eval v, born := clock }) ⟨ks, rfl, rfl⟩ gv h4⟩ (fun b hb => by rw [e4] at hb ⊢; exact hb), Env.le_refl _, Heap.le_refl _⟩
        rw [e4, gk']
        simp only [Instr.mapUpdate, Sem.run_bind, run_underlying hu, Result.andThen_ok, getObj_run h3, checkKey_str hk, findKey_runS hk hf]
        simp [setObj, Sem.run, Result.andThen, w', h3]
      · exact hp.elim
    · exact hp.elim
  case looks t m k m' k' kt elem i z x hu hk hi hz hx hm hkk =>
    left
    have gm := he _ _ hm (by simp [Ins.opds])
    have gk := he _ _ hkk (by simp [Ins.opds])
    rw [show execOp a.eval ⟨dst, .lookup t m k true, type, pos, after, guard⟩ = (do pure (Next.value (← Instr.lookup t (a.eval m) (a.eval k) true)) : Sem Next) from rfl]
    split at hp
    · rename_i id kk e1 e2
      rw [e1] at gm
      rw [e2] at gk
      split at hp
      · rename_i es e3
        obtain ⟨ks, gk', rfl⟩ := gk
        obtain ⟨hi2, r, ms, clock, e4, h3, h4⟩ := s.look gm.1 e3 (by simp)
        have h0 : ∀ W : World, (zeroValue elem).run P W = .ok z W := fun W => by simp [zeroValue, typeInfo, hi, hz]
        rcases find_lookS 0 hp h4 with ⟨j, v, y, hf, hy, hF⟩ | ⟨hf, hZ⟩
        · refine ⟨.tuple #[v, .bool true], w, ans_v ?_, Goes.here' s hF ⟨[v, .bool true], rfl, _, _, rfl, hy, _, _, rfl, rfl, rfl⟩⟩
          rw [e4, gk']
          simp only [Instr.lookup, Sem.run_bind, run_underlying hu, Result.andThen_ok, getObj_run h3, Sem.run_pure, checkKey_str hk, findKey_runS hk hf, if_true]
        · refine ⟨.tuple #[z, .bool false], w, ans_v ?_, Goes.here' s hZ ⟨[z, .bool false], rfl, _, _, rfl, hx h, _, _, rfl, rfl, rfl⟩⟩
          rw [e4, gk']
          simp only [Instr.lookup, Sem.run_bind, run_underlying hu, Result.andThen_ok, getObj_run h3, Sem.run_pure, checkKey_str hk, findKey_runS hk hf, h0, if_true]
      · exact hp.elim
    · exact hp.elim
  case lookm t m k m' k' kt elem q i z x hu hk hi hz hx hm hkk =>
    left
    have gm := he _ _ hm (by simp [Ins.opds])
    have gk := he _ _ hkk (by simp [Ins.opds])
    rw [show execOp a.eval ⟨dst, .lookup t m k false, type, pos, after, guard⟩ = (do pure (Next.value (← Instr.lookup t (a.eval m) (a.eval k) false)) : Sem Next) from rfl]
    split at hp
    · rename_i id kk e1 e2
      rw [e1] at gm
      rw [e2] at gk
      split at hp
      · rename_i es e3
        obtain ⟨hint, hK⟩ := hp
        cases kk <;> dsimp only at hint <;> first | exact hint.elim | skip
        rename_i q' n'
        have gk' : a.eval k = .int q' n' := gk
        obtain ⟨hi2, r, ms, clock, e4, h3, h4⟩ := s.look gm.1 e3 (by simp)
        have h0 : ∀ W : World, (zeroValue elem).run P W = .ok z W := fun W => by simp [zeroValue, typeInfo, hi, hz]
        rcases find_look (d := q) 0 hK h4 with ⟨j, v, y, hf, hy, hF⟩ | ⟨hf, hZ⟩
        · refine ⟨v, w, ans_v ?_, Goes.here' s hF hy⟩
          rw [e4, gk']
          simp only [Instr.lookup, Sem.run_bind, run_underlying hu, Result.andThen_ok, getObj_run h3, Sem.run_pure, checkKey_int' hk, findKey_run hk hf, Bool.false_eq_true, if_false]
        · refine ⟨z, w, ans_v ?_, Goes.here' s hZ (hx h)⟩
          rw [e4, gk']
          simp only [Instr.lookup, Sem.run_bind, run_underlying hu, Result.andThen_ok, getObj_run h3, Sem.run_pure, checkKey_int' hk, findKey_run hk hf, h0, Bool.false_eq_true, if_false]
      · exact hp.elim
    · exact hp.elim
end Go.Fx
