import Derived.Test.YtlfffpkfipdboaaDoorWSFm
import Derived.Shelf.Strings.Builder1
import Derived.Test.YtlfffpkfipdboaaDoorChecked
import Derived.Test.YtlfffpkfipdboaaDoorWGF1
import Derived.Deep.LoopGhost
import Derived.Test.YtlfffpkfipdboaaDoorWSFs
import Derived.Test.YtlfffpkfipdboaaDoorFxRng
set_option linter.unusedVariables false
set_option maxRecDepth 100000
namespace Go.Proofs
open Go Go.Shelf Go.RowKit
set_option maxHeartbeats 1000000 in
theorem cc_used (b : Nat) (w : World) (h0 : w.cell? ⟨b, 0, none⟩ = some (.pointer (some ⟨b, 0, none⟩))) :
    Calls Tryd.prog 38 #[.pointer (some ⟨b, 0, none⟩)] w fun e w' => e = .returned (.tuple #[]) ∧ w' = w := by
  have X := Tryd.Builder_Extra_169
  obtain ⟨j, hj, _⟩ := Option.map_eq_some_iff.1 X.sizeBuilder
  have mixed := Tryd.lays169.mixed
  have t72 := Tryd.underlying57; have a72 := Tryd.isAgg57; have z72 := Tryd.sizeOf57; have v72 := Tryd.zeroValue57; have u72 := run_underlying Tryd.underlying57
  have t70 := Tryd.underlying55; have a70 := Tryd.isAgg55; have z70 := Tryd.sizeOf55; have v70 := Tryd.zeroValue55; have u70 := run_underlying Tryd.underlying55
  have t164 := Tryd.underlying78; have a164 := Tryd.isAgg78; have z164 := Tryd.sizeOf78; have v164 := Tryd.zeroValue78; have u164 := run_underlying Tryd.underlying78
  go_enter Tryd.func38, Tryd.ntmps38
  go_wp2
  rw [Lib.run_neq_ptr_same w _ Tryd.underlying55 hj]
  go_wp2
  go_end0
  exact ⟨rfl, rfl⟩
set_option maxHeartbeats 1000000 in
theorem cc_fresh (b : Nat) (w : World) (h0 : w.cell? ⟨b, 0, none⟩ = some (.pointer none)) (hsh : w.shape? b = some (57, 2)) (hfz : w.frozen? ⟨b, 0, none⟩ = false) :
    Calls Tryd.prog 38 #[.pointer (some ⟨b, 0, none⟩)] w fun e w' => e = .returned (.tuple #[]) ∧ w' = w.setCell ⟨b, 0, none⟩ (.pointer (some ⟨b, 0, none⟩)) := by
  have X := Tryd.Builder_Extra_169
  obtain ⟨j, hj, hjs⟩ := Option.map_eq_some_iff.1 X.sizeBuilder
  have mixed := Tryd.lays169.mixed
  have t72 := Tryd.underlying57; have a72 := Tryd.isAgg57; have z72 := Tryd.sizeOf57; have v72 := Tryd.zeroValue57; have u72 := run_underlying Tryd.underlying57
  have t70 := Tryd.underlying55; have a70 := Tryd.isAgg55; have z70 := Tryd.sizeOf55; have v70 := Tryd.zeroValue55; have u70 := run_underlying Tryd.underlying55
  have t164 := Tryd.underlying78; have a164 := Tryd.isAgg78; have z164 := Tryd.sizeOf78; have v164 := Tryd.zeroValue78; have u164 := run_underlying Tryd.underlying78
  go_enter Tryd.func38, Tryd.ntmps38
  go_wp2
  rw [Lib.run_to_unsafe w ⟨b, 0, none⟩ Tryd.underlying55 Tryd.underlying78 hj (by rw [hjs]; decide) hsh (Nat.zero_lt_succ 1)]
  simp only [Result.andThen]
  rw [Oper.upon_value]
  go_wp2
  rw [run_callFunc_extern Tryd.func49 (by kernel_rfl) (by kernel_rfl) (by kernel_rfl) (e := Extern.AbiNoEscape.same) (by kernel_rfl)]
  rw [Lib.run_noEscape]
  simp only [Result.andThen]
  rw [Oper.upon_value]
  go_wp2
  rw [Lib.run_from_unsafe w ⟨b, 0, none⟩ Tryd.underlying78 Tryd.underlying55 hj hsh X.liesBuilder]
  simp only [Result.andThen]
  rw [Oper.upon_value]
  go_wp2
  go_end0
  exact ⟨rfl, rfl⟩
theorem cc (B b : Nat) (bs : List Value) (w : World) (h : Lib.IsBuilder 57 5 B b bs w) :
    Calls Tryd.prog 38 #[.pointer (some ⟨b, 0, none⟩)] w fun e w' => e = .returned (.tuple #[]) ∧ (Lib.BuilderAt 57 5 B b (.pointer (some ⟨b, 0, none⟩)) bs w' ∧ Below B w w') := by
  rcases h with h | h
  · refine (cc_fresh b w h.cell0 h.shape h.frozen0).mono ?_
    rintro e w' ⟨rfl, rfl⟩
    exact ⟨rfl, h.used _, (Below.refl B w).setCell (p := ⟨b, 0, none⟩) h.1 _⟩
  · refine (cc_used b w h.cell0).mono ?_
    rintro e w' ⟨rfl, rfl⟩
    exact ⟨rfl, h, Below.refl B _⟩
set_option maxHeartbeats 2000000 in
theorem bld_write (B b : Nat) (bs : List Value) (s : ByteArray) (w : World) (h : Lib.IsBuilder 57 5 B b bs w) (hlen : bs.length + s.size ≤ 140737488355328) (hBw : B ≤ w.heap.size) :
    Calls Tryd.prog 26 #[.pointer (some ⟨b, 0, none⟩), .string s] w fun e w' => e = .returned (.tuple #[.int .i64 s.size, .nilIface]) ∧ (Lib.BuilderAt 57 5 B b (.pointer (some ⟨b, 0, none⟩)) (bs ++ Lib.strCells s) w' ∧ Below B w w') := by
  have X := Tryd.Builder_Extra_169
  obtain ⟨i0, hi, hz0, hz1, hz2⟩ := info_parts X.infoByte
  have mixed := Tryd.lays169.mixed
  have t72 := Tryd.underlying57; have a72 := Tryd.isAgg57; have z72 := Tryd.sizeOf57; have v72 := Tryd.zeroValue57; have u72 := run_underlying Tryd.underlying57
  have t70 := Tryd.underlying55; have a70 := Tryd.isAgg55; have z70 := Tryd.sizeOf55; have v70 := Tryd.zeroValue55; have u70 := run_underlying Tryd.underlying55
  have t37 := Tryd.underlying29; have a37 := Tryd.isAgg29; have z37 := Tryd.sizeOf29; have v37 := Tryd.zeroValue29; have u37 := run_underlying Tryd.underlying29
  have t3 := Tryd.underlying3; have a3 := Tryd.isAgg3; have z3 := Tryd.sizeOf3; have v3 := Tryd.zeroValue3; have u3 := run_underlying Tryd.underlying3
  have t9 := Tryd.underlying9; have a9 := Tryd.isAgg9; have z9 := Tryd.sizeOf9; have v9 := Tryd.zeroValue9; have u9 := run_underlying Tryd.underlying9
  have t4 := Tryd.underlying4; have a4 := Tryd.isAgg4; have z4 := Tryd.sizeOf4; have v4 := Tryd.zeroValue4; have u4 := run_underlying Tryd.underlying4
  have t164 := Tryd.underlying78; have a164 := Tryd.isAgg78; have z164 := Tryd.sizeOf78; have v164 := Tryd.zeroValue78; have u164 := run_underlying Tryd.underlying78
  have t5 := Tryd.underlying5; have a5 := Tryd.isAgg5; have z5 := Tryd.sizeOf5; have v5 := Tryd.zeroValue5; have u5 := run_underlying Tryd.underlying5
  have e240 : ∀ args w, (callFunc 38 args).run Tryd.prog w = .ok (.enter 38 args) w := enters_of Tryd.func38 (by kernel_rfl) rfl
  go_enter Tryd.func26, Tryd.ntmps26
  go_wp2_with (go_at_fn 38; refine (cc B b bs _ h).mono ?_)
  rintro e w1 ⟨rfl, h1, hb1⟩
  obtain ⟨hB, v, hbk, hown, hne⟩ := h1
  have c0 : w1.cell? ⟨b, 0, none⟩ = some (.pointer (some ⟨b, 0, none⟩)) := by rw [Lib.cell_of_heap hbk]; rfl
  have c1 : w1.cell? ⟨b, 1, none⟩ = some v := by rw [Lib.cell_of_heap hbk]; rfl
  go_wp2_with (at_builtin; refine Lib.wpList_append_own_string _ rfl _ _ 29 9 rfl B 5 i0 Tryd.underlying29 Tryd.underlying9 hi hz0 hz1 hz2 _ _ _ rfl hown s rfl ?c3 ?c4 ?c5 ?_)
  case c3 => unfold maxLen; omega
  case c4 => omega
  case c5 => have := hb1.size; omega
  intro v' w2 hown' hgrow _
  have hlt : b < w1.heap.size := by
    rcases Nat.lt_or_ge b w1.heap.size with h' | h'
    · exact h'
    · simp [Array.getElem?_eq_none h'] at hbk
  have hb2 : w2.heap[b]? = some (.cells #[.pointer (some ⟨b, 0, none⟩), v] 57 (0, 0)) := by
    rw [hgrow.block b hlt (fun e => hne e.symm)]
    exact hbk
  have d0 : w2.cell? ⟨b, 0, none⟩ = some (.pointer (some ⟨b, 0, none⟩)) := by rw [Lib.cell_of_heap hb2]; rfl
  have d1 : w2.cell? ⟨b, 1, none⟩ = some v := by rw [Lib.cell_of_heap hb2]; rfl
  have f1 : w2.frozen? ⟨b, 1, none⟩ = false := Lib.frozen_of_heap hb2 1
  obtain ⟨ao, n', cap, rfl⟩ : ∃ ao n' cap, v' = .slice ao n' cap := by
    rcases hown'.2 with ⟨hv, _⟩ | ⟨g, cap, cur, hv, _⟩
    · exact ⟨_, _, _, hv⟩
    · exact ⟨_, _, _, hv⟩
  go_wp2
  go_ret2
  refine ⟨rfl, ?_, ?_⟩
  · exact Lib.BuilderAt.put (T := 57) (e := 5) hB hb2 (bs' := bs ++ Lib.strCells s) (by simpa [Lib.strCells_length] using hown') (by decide)
  · exact (hb1.grown hgrow (by have := hb1.size; omega) (fun k hk => (hown.lt k hk).1)).setCell (p := ⟨b, 1, none⟩) hB _
end Go.Proofs
set_option maxRecDepth 100000
set_option linter.unusedVariables false
noncomputable section
namespace Go.Proofs
open Go Go.Shelf Go.RowKit Go.Fx
def lineOf (x : PV) : Option (List Int) := bif Shp.okL as_flight_line [x] then ga_flight_line [x] else none
def linesOf : List PV → Option (List Int)
  | [] => some []
  | x :: r => (lineOf x).bind fun a => (linesOf r).bind fun b => some (a ++ b)
theorem lineOf_fun {x : PV} {l : List Int} (h : lineOf x = some l) : FunEq Tryd.prog GG 27 [x] (.str l) := by
  unfold lineOf at h
  cases hb : Shp.okL as_flight_line [x] with
  | false => rw [hb] at h; cases h
  | true =>
    rw [hb] at h
    rcases at_flight_line [x] hb l h with h1 | h1 | h1 | h1
    · exact h1.2
    · exact absurd h1.1.1 (by decide)
    · exact absurd h1.1 (by decide)
    · exact absurd h1.1 (by decide)
theorem lineOf_agg {x : PV} {l : List Int} (h : lineOf x = some l) : ∃ a b c d e, x = .agg [a, b, c, d, e] ∧ [a, b, c, d, e].all (·.scal) = true := by
  unfold lineOf at h
  cases hb : Shp.okL as_flight_line [x] with
  | false => rw [hb] at h; cases h
  | true =>
    have := Shp.buildL_eq _ hb
    simp only [as_flight_line, Shp.buildL, List.headD_cons, List.cons.injEq, and_true] at this
    exact ⟨_, _, _, _, _, this.symm, rfl⟩
theorem relE_at {h : Fx.Heap} {w : Nat} : ∀ {es : List PV} {vs : List Value} {i : Nat} {x : PV}, PV.relE h w es vs → es[i]? = some x → ∃ u, u.cells.size = w ∧ x.rel h u ∧ ∀ k v, u.cells[k]? = some v → vs[i * w + k]? = some v
  | [], _, i, x, _, e => by simp at e
  | y :: es, vs, 0, x, ⟨u, vs', e0, h1, h2, h3⟩, e => by
    simp at e
    subst e
    refine ⟨u, h1, h2, fun k v hk => ?_⟩
    have hl : k < u.cells.toList.length := by simpa using (Array.getElem?_eq_some_iff.1 hk).1
    rw [e0, Nat.zero_mul, Nat.zero_add, List.getElem?_append_left hl]
    simpa using hk
  | y :: es, vs, i + 1, x, ⟨u, vs', e0, h1, h2, h3⟩, e => by
    obtain ⟨u', g1, g2, g3⟩ := relE_at (i := i) h3 (by simpa using e)
    refine ⟨u', g1, g2, fun k v hk => ?_⟩
    have hl : u.cells.toList.length = w := by simp [h1]
    rw [e0, List.getElem?_append_right (by rw [hl, Nat.add_mul, Nat.one_mul]; omega), hl, show (i + 1) * w + k - w = i * w + k by rw [Nat.add_mul, Nat.one_mul]; omega]
    exact g3 k v hk
theorem linesOf_get : ∀ {es : List PV} {l : List Int} {i : Nat} {x : PV}, linesOf es = some l → es[i]? = some x → ∃ a, lineOf x = some a
  | [], _, _, _, _, e => by simp at e
  | y :: es, l, i, x, h, e => by
    simp only [linesOf, Option.bind_eq_some_iff] at h
    obtain ⟨a, h1, b, h2, h3⟩ := h
    cases i with
    | zero => simp at e; subst e; exact ⟨a, h1⟩
    | succ i => exact linesOf_get h2 (by simpa using e)
theorem linesOf_append : ∀ {xs ys : List PV} {a b : List Int}, linesOf xs = some a → linesOf ys = some b → linesOf (xs ++ ys) = some (a ++ b)
  | [], ys, a, b, h1, h2 => by cases h1; exact h2
  | x :: xs, ys, a, b, h1, h2 => by
    simp only [linesOf, Option.bind_eq_some_iff] at h1
    obtain ⟨c, g1, d, g2, g3⟩ := h1
    cases g3
    simp only [List.cons_append, linesOf, g1, linesOf_append g2 h2, Option.bind_some, List.append_assoc]
theorem linesOf_split : ∀ {xs ys : List PV} {l : List Int}, linesOf (xs ++ ys) = some l → ∃ a b, linesOf xs = some a ∧ linesOf ys = some b ∧ l = a ++ b
  | [], ys, l, h => ⟨[], l, rfl, h, rfl⟩
  | x :: xs, ys, l, h => by
    simp only [List.cons_append, linesOf, Option.bind_eq_some_iff] at h
    obtain ⟨c, g1, d, g2, g3⟩ := h
    cases g3
    obtain ⟨a, b, q1, q2, rfl⟩ := linesOf_split g2
    exact ⟨c ++ a, b, by simp only [linesOf, g1, q1, Option.bind_some], q2, by simp⟩
theorem bld_keep {T e : TypeId} {B b : Nat} {bs : List Value} {w w' : World} (h : Lib.IsBuilder T e B b bs w) (hk : ∀ k : Nat, k < w.heap.size → w'.heap[k]? = w.heap[k]?) : Lib.IsBuilder T e B b bs w' := by
  have at' : ∀ p, Lib.BuilderAt T e B b p bs w → Lib.BuilderAt T e B b p bs w' := fun p ⟨h1, v, h2, h3, h4⟩ => by
    have hs : ∀ {k : Nat} {o : Obj}, w.heap[k]? = some o → w'.heap[k]? = some o := fun {k o} e => by rw [hk k (Array.getElem?_eq_some_iff.1 e).1]; exact e
    refine ⟨h1, v, hs h2, ⟨h3.1, ?_⟩, h4⟩
    rcases h3.2 with q | ⟨g, cap, cur, q1, q2, q3, q4⟩
    · exact .inl q
    · exact .inr ⟨g, cap, cur, q1, q2, hs q3, q4⟩
  exact h.elim (fun x => .inl (at' _ x)) (fun x => .inr (at' _ x))
def Left2 (b : Nat) (w w' : World) : Prop := w.heap.size ≤ w'.heap.size ∧ (∀ k : Nat, k < b → w'.heap[k]? = w.heap[k]?) ∧ Out w w'
theorem Left2.refl (b : Nat) (w : World) : Left2 b w w := ⟨Nat.le_refl _, fun _ _ => rfl, rfl, rfl⟩
theorem Left2.trans {b : Nat} {u v w : World} (h : Left2 b u v) (k : Left2 b v w) : Left2 b u w := ⟨Nat.le_trans h.1 k.1, fun i hi => (k.2.1 i hi).trans (h.2.1 i hi), h.2.2.trans k.2.2⟩
theorem Left2.of {b : Nat} {w w' : World} (h : Below b w w') : Left2 b w w' := ⟨h.size, h.block, h.os, h.output⟩
theorem upon_eq {P : Program} {o : Oper} {a : Act} {K : Act → World → Prop} {Q : Exit → Act → World → Prop} {r r' : Result Next} (h : r = r') (hu : o.upon P a K Q r') : o.upon P a K Q r := by rw [h]; exact hu
set_option maxHeartbeats 4000000 in
theorem print_walk (v : Value) (w : World) (nl ex : Bool) (es : List PV) (h : Fx.Heap) (hs : h ≤ full w) (hG : GlobOk GG h) (hv : (PV.sl nl ex 5 es).rel h v)
   (hC : FunEq Tryd.prog GG 25 [.sl nl ex 5 es, .fn 24 []] (.bool false)) (l : List Int) (hl : linesOf es = some l) (hlen : l.length ≤ 140737488355328) (hes : es.length ≤ 1000000) :
    Calls Tryd.prog 15 #[v] w fun e w' => ∃ s : ByteArray, e = .returned (.tuple #[.string s, .int .i64 0]) ∧ l = bytesI s.data.toList ∧ Left2 w.heap.size w w' := by
  have mixed := Tryd.lays169.mixed
  obtain ⟨a, cap, rfl, h1, h2, h3, h4, vs, hE, hCells⟩ := hv
  have e27 : ∀ args w, (callFunc 27 args).run Tryd.prog w = .ok (.enter 27 args) w := enters_of Tryd.func27 (by kernel_rfl) rfl
  have e26 : ∀ args w, (callFunc 26 args).run Tryd.prog w = .ok (.enter 26 args) w := enters_of Tryd.func26 (by kernel_rfl) rfl
  have e28 : ∀ args w, (callFunc 28 args).run Tryd.prog w = .ok (.enter 28 args) w := enters_of Tryd.func28 (by kernel_rfl) rfl
  have e25 : ∀ args w, (callFunc 25 args).run Tryd.prog w = .ok (.enter 25 args) w := enters_of Tryd.func25 (by kernel_rfl) rfl
  have t72 := Tryd.underlying57; have a72 := Tryd.isAgg57; have z72 := Tryd.sizeOf57; have v72 := Tryd.zeroValue57; have u72 := run_underlying Tryd.underlying57
  have t3 := Tryd.underlying3; have a3 := Tryd.isAgg3; have z3 := Tryd.sizeOf3; have v3 := Tryd.zeroValue3; have u3 := run_underlying Tryd.underlying3
  have t35 := Tryd.underlying35; have a35 := Tryd.isAgg35; have z35 := Tryd.sizeOf35; have v35 := Tryd.zeroValue35; have u35 := run_underlying Tryd.underlying35
  go_enter Tryd.func15, Tryd.ntmps15
  go_wp2_with (go_at_fn 25; refine (hC.2 _ h [_, _] hs hG ⟨_, _, rfl, ⟨a, cap, rfl, h1, h2, h3, h4, vs, hE, hCells⟩, _, _, rfl, ⟨[], rfl, rfl⟩, rfl⟩).mono ?_)
  rintro e w1 ⟨v1, rfl, hv1, hz1, hk1, ho1⟩
  have hv1 : v1 = .bool false := hv1
  subst hv1
  clear hv1
  go_wp2
  obtain ⟨b, hb⟩ : ∃ b, w1.heap.size = b := ⟨_, rfl⟩
  obtain ⟨w2, hw2⟩ : ∃ w2, w1.alloc (Obj.cells #[Value.pointer none, Value.slice none 0 0] 57) = w2 := ⟨_, rfl⟩
  rw [hb, hw2]
  go_loopg [13] es.length (fun k p13 wx => ∃ (i : Nat) (acc : List UInt8), p13 = .int .i64 i ∧ i + k = es.length ∧ linesOf (es.take i) = some (bytesI acc) ∧ Lib.IsBuilder 57 5 b b (Lib.byteCells acc) wx ∧ Left2 b w2 wx)
  case atStart => exact ⟨0, [], rfl, by omega, rfl, .inl ⟨Nat.le_refl _, .slice none 0 0, by rw [← hw2, ← hb]; exact push_new .., ⟨rfl, .inl ⟨rfl, rfl⟩⟩, by simp [Value.ownBlock]⟩, Left2.refl _ _⟩
  case round =>
    obtain ⟨i, acc, rfl, hi, hacc, hB, hbw⟩ := hrel
    have t23 := Tryd.underlying23; have a23 := Tryd.isAgg23; have z23 := Tryd.sizeOf23; have v23 := Tryd.zeroValue23; have u23 := run_underlying Tryd.underlying23
    by_cases hlt : i < es.length
    · obtain ⟨gk', rfl⟩ : ∃ g', gk = g' + 1 := ⟨gk - 1, by omega⟩
      obtain ⟨x, hx⟩ : ∃ x, es[i]? = some x := ⟨_, List.getElem?_eq_getElem hlt⟩
      obtain ⟨lx, hlx⟩ := linesOf_get hl hx
      obtain ⟨x0, x1, x2, x3, x4, hxa, hxs⟩ := lineOf_agg hlx
      obtain ⟨u, hu5, hux, hcell⟩ := relE_at hE hx
      cases a with
      | none => have := h4 rfl; omega
      | some ad =>
      obtain ⟨hsp, hca⟩ := hCells ad rfl
      obtain ⟨bk, o, sp⟩ := ad
      have hsp : sp = none := hsp (by omega)
      subst hsp
      have hu : ∃ us : List Value, u = .agg us.toArray ∧ PV.relL h [x0, x1, x2, x3, x4] us := by rw [hxa] at hux; exact hux
      obtain ⟨us, rfl, y0, ys, rfl, g0, y1, ys1, rfl, g1, y2, ys2, rfl, g2, y3, ys3, rfl, g3, y4, ys4, rfl, g4, g5⟩ := hu
      have g5 : ys4 = [] := g5
      subst g5
      have hbk : bk < w.heap.size := by
        obtain ⟨c, ty, fz, q1, q2⟩ := hca _ _ (hcell 0 y0 rfl)
        exact (Array.getElem?_eq_some_iff.1 (hs _ _ q1)).1
      have hat : ∀ (W : World), W.heap[bk]? = w.heap[bk]? → ∀ k y, (Value.agg #[y0, y1, y2, y3, y4]).cells[k]? = some y → W.cell? ⟨bk, o + (i * 5 + k), none⟩ = some y := fun W hW k y hk => by
        obtain ⟨c, ty, fz, q1, q2⟩ := hca _ _ (hcell k y hk)
        have q3 := hs _ _ q1
        have q3 : w.heap[bk]? = some (.cells c ty fz) := q3
        simp [World.cell?, hW, q3, q2]
      have hwr : wr.heap[bk]? = w.heap[bk]? := by
        rw [hbw.2.1 bk (by omega), ← hw2]
        show (w1.heap.push _)[bk]? = _
        rw [Array.getElem?_push, if_neg (by omega), hk1 bk hbk]
      have c0 : wr.cell? ⟨bk, o + i * 5, none⟩ = some y0 := hat wr hwr 0 y0 rfl
      have c1 : wr.cell? ⟨bk, o + i * 5 + 1, none⟩ = some y1 := hat wr hwr 1 y1 rfl
      have c2 : wr.cell? ⟨bk, o + i * 5 + 2, none⟩ = some y2 := hat wr hwr 2 y2 rfl
      have c3 : wr.cell? ⟨bk, o + i * 5 + 3, none⟩ = some y3 := hat wr hwr 3 y3 rfl
      have c4 : wr.cell? ⟨bk, o + i * 5 + 4, none⟩ = some y4 := hat wr hwr 4 y4 rfl
      have hlt' : (i : Int) < es.length := by omega
      have hnext : linesOf (es.take (i + 1)) = some (bytesI acc ++ lx) := by
        rw [List.take_succ_eq_append_getElem hlt]
        have : es[i] = x := by rw [List.getElem?_eq_getElem hlt] at hx; exact Option.some.inj hx
        rw [this]
        exact linesOf_append hacc (by simp [linesOf, hlx])
      have hwrap : wrap64 ((i : Int) + 1) = (i : Int) + 1 := IntWalk.wrap64_in _ (by omega)
      have hbs : b ≤ wr.heap.size := Nat.le_trans (by rw [← hw2, ← hb]; show w1.heap.size ≤ (w1.heap.push _).size; rw [Array.size_push]; omega) hbw.1
      have hone : ∀ y ∈ [y0, y1, y2, y3, y4], y.oneCell' = true := (SV.cells_rel (x := .p x) (ρ := []) (show x.rel h _ from hux) (by rw [hxa]; show ([x0, x1, x2, x3, x4].map SV.p).all (·.scal) = true; rw [List.all_map]; exact hxs)).2
      go_wp2
      have hst := run_storeCells_at (P := Tryd.prog) wr.heap.size 0 35 [y0, y1, y2, y3, y4] 0 _ _ (push_new wr (Obj.cells #[Value.string { data := #[] }, Value.slice none 0 0, Value.int IntKind.i64 0, Value.int IntKind.i64 0, Value.int IntKind.i64 0] 35 (0, 0))) (by simp) hone
      have fin : ∀ r : Result Unit, (r.andThen fun _ w' => Result.ok () w') = r := fun r => by cases r <;> rfl
      simp only [storeCells, Sem.run_bind, Nat.reduceAdd, Nat.add_zero, Nat.zero_add, Sem.run_pure, fin, Addr.add, reduceIte, Nat.reduceEqDiff,  Nat.one_ne_zero] at hst
      have hst' := congrArg (fun r => Result.andThen r fun a w' => Result.ok Next.skip w') hst
      simp only [Result.andThen_ok] at hst'
      refine upon_eq hst' ?_
      rw [Oper.upon_skip]
      generalize hw4 : World.setRow _ _ _ = w4
      have g4 : w4.heap[wr.heap.size]? = some (.cells #[y0, y1, y2, y3, y4] 35 (0, 0)) := by rw [← hw4]; exact setRow_heap _ _ _ _ _ _ (push_new wr _)
      have z4 : w4.heap.size = wr.heap.size + 1 := by
        rw [← hw4]
        simp only [World.setRow, World.alloc]
        simp
      have k4 : ∀ k : Nat, k < wr.heap.size → w4.heap[k]? = wr.heap[k]? := fun k hk => by
        rw [← hw4]
        simp only [World.setRow, World.alloc]
        rw [Array.getElem?_modify, if_neg (by omega), Array.getElem?_push, if_neg (by omega)]
      have o4 : Out wr w4 := by rw [← hw4]; exact ⟨rfl, rfl⟩
      have d0 : w4.cell? ⟨wr.heap.size, 0, none⟩ = some y0 := by simp [World.cell?, g4]
      have d1 : w4.cell? ⟨wr.heap.size, 1, none⟩ = some y1 := by simp [World.cell?, g4]
      have d2 : w4.cell? ⟨wr.heap.size, 2, none⟩ = some y2 := by simp [World.cell?, g4]
      have d3 : w4.cell? ⟨wr.heap.size, 3, none⟩ = some y3 := by simp [World.cell?, g4]
      have d4 : w4.cell? ⟨wr.heap.size, 4, none⟩ = some y4 := by simp [World.cell?, g4]
      clear hst hst' fin
      have hs4 : h ≤ full w4 := fun k ob hk => by
        have h5 := hs k ob hk
        have hkw : k < w.heap.size := (Array.getElem?_eq_some_iff.1 h5).1
        show w4.heap[k]? = some ob
        rw [k4 k (by omega), hbw.2.1 k (by omega), ← hw2]
        show (w1.heap.push _)[k]? = _
        rw [Array.getElem?_push, if_neg (by omega), hk1 k hkw]
        exact h5
      have hrelx : PV.relL h [x] [.agg #[y0, y1, y2, y3, y4]] := ⟨_, _, rfl, hux, rfl⟩
      go_wp2_with (go_at_fn 27; refine ((lineOf_fun hlx).2 w4 h [_] hs4 hG hrelx).mono ?_)
      rintro e w5 ⟨v5, rfl, ⟨sx, rfl, hsx⟩, hz5, hk5, ho5⟩
      have hB5 : Lib.IsBuilder 57 5 b b (Lib.byteCells acc) w5 := bld_keep hB fun k hk => by rw [hk5 k (by omega), k4 k hk]
      go_wp2_with (go_at_fn 26; refine (bld_write b b _ sx w5 hB5 ?c1 ?c2).mono ?_)
      case c1 =>
        rw [hsx] at hnext
        obtain ⟨p, q, n1, n2, n3⟩ := linesOf_split (xs := es.take (i + 1)) (ys := es.drop (i + 1)) (by rw [List.take_append_drop]; exact hl)
        rw [hnext] at n1
        cases n1
        have := congrArg List.length n3
        simp only [List.length_append, bytesI, List.length_map] at this
        simp only [Lib.byteCells, List.length_map]
        have e : sx.size = sx.data.toList.length := by rw [Array.length_toList]; rfl
        refine Nat.le_trans ?_ hlen
        clear hlen
        omega
      case c2 => omega
      rintro e w6 ⟨rfl, hB6, hb6⟩
      clear hlen hl
      go_wp2
      go_roundg gk'
      case measure => exact Nat.lt_succ_self _
      case rel =>
        refine ⟨i + 1, acc ++ sx.data.toList, rfl, by omega, ?_, ?_, ?_⟩
        · rw [hnext, hsx]; simp [bytesI]
        · have : Lib.byteCells (acc ++ sx.data.toList) = Lib.byteCells acc ++ Lib.strCells sx := by simp [Lib.byteCells, Lib.strCells]
          rw [this]; exact .inr hB6
        · refine (hbw.trans (v := wr) ⟨Nat.le_refl _, fun _ _ => rfl, rfl, rfl⟩).trans (Left2.trans (v := w5) ⟨?_, fun k hk => ?_, ?_⟩ (Left2.of hb6))
          · omega
          · rw [hk5 k (by omega), k4 k (by omega)]
          · exact Out.trans o4 ho5
    · have hie : i = es.length := by omega
      subst hie
      rw [List.take_length, hl] at hacc
      cases hacc
      have hbs : b ≤ wr.heap.size := Nat.le_trans (by rw [← hw2, ← hb]; show w1.heap.size ≤ (w1.heap.push _).size; rw [Array.size_push]; omega) hbw.1
      clear hlen hl
      go_wp2_with (go_at_fn 28; refine (Tryd.Builder_String_any b b acc wr hB hbs).mono ?_)
      rintro e w7 ⟨rfl, hb7⟩
      go_wp2
      go_ret2
      refine ⟨_, rfl, by simp [bytesI], ?_⟩
      have hall : Left2 b w2 w7 := hbw.trans (Left2.of hb7)
      refine ⟨?_, fun k hk => ?_, ?_⟩
      · have := hall.1; have : w1.heap.size ≤ w2.heap.size := (by rw [← hw2]; show w1.heap.size ≤ (w1.heap.push _).size; rw [Array.size_push]; omega); omega
      · rw [hall.2.1 k (by omega), ← hw2]
        show (w1.heap.push _)[k]? = _
        rw [Array.getElem?_push, if_neg (by omega), hk1 k hk]
      · refine ho1.trans (Out.trans ?_ hall.2.2)
        rw [← hw2]; exact ⟨rfl, rfl⟩
set_option maxHeartbeats 4000000 in
theorem print_none (v : Value) (w : World) (nl ex : Bool) (es : List PV) (h : Fx.Heap) (hs : h ≤ full w) (hG : GlobOk GG h) (hv : (PV.sl nl ex 5 es).rel h v)
   (hC : FunEq Tryd.prog GG 25 [.sl nl ex 5 es, .fn 24 []] (.bool true)) :
    Calls Tryd.prog 15 #[v] w fun e w' => e = .returned (.tuple #[.string ⟨#[]⟩, .int .i64 1]) ∧ Left2 w.heap.size w w' := by
  have mixed := Tryd.lays169.mixed
  obtain ⟨a, cap, rfl, h1, h2, h3, h4, vs, hE, hCells⟩ := hv
  have e25 : ∀ args w, (callFunc 25 args).run Tryd.prog w = .ok (.enter 25 args) w := enters_of Tryd.func25 (by kernel_rfl) rfl
  have t72 := Tryd.underlying57; have a72 := Tryd.isAgg57; have z72 := Tryd.sizeOf57; have v72 := Tryd.zeroValue57; have u72 := run_underlying Tryd.underlying57
  have t3 := Tryd.underlying3; have a3 := Tryd.isAgg3; have z3 := Tryd.sizeOf3; have v3 := Tryd.zeroValue3; have u3 := run_underlying Tryd.underlying3
  go_enter Tryd.func15, Tryd.ntmps15
  go_wp2_with (go_at_fn 25; refine (hC.2 _ h [_, _] hs hG ⟨_, _, rfl, ⟨a, cap, rfl, h1, h2, h3, h4, vs, hE, hCells⟩, _, _, rfl, ⟨[], rfl, rfl⟩, rfl⟩).mono ?_)
  rintro e w1 ⟨v1, rfl, hv1, hz1, hk1, ho1⟩
  have hv1 : v1 = .bool true := hv1
  subst hv1
  clear hv1
  go_wp2
  go_ret2
  exact ⟨rfl, hz1, hk1, ho1⟩
def go_flight_Print (n e : Bool) (es : List PV) : Option (List Int × Int) :=
  (go_slices_ContainsFunc__flight_Do_flight_Do n e es).bind fun c => bif c then some ([], 1) else
    bif decide (es.length ≤ 1000000) then (linesOf es).bind fun l => bif decide (l.length ≤ 140737488355328) then some (l, 0) else none
    else none
def em_flight_Print (r : List Int × Int) : PV := .tup [.str r.1, .int .i64 r.2]
def as_flight_Print : List Shp := [.sl 5]
def ga_flight_Print (vs : List PV) : Option (List Int × Int) := go_flight_Print ((tls 0 vs).headD .nilSl).nl ((tls 0 vs).headD .nilSl).ex ((tls 0 vs).headD .nilSl).elts
theorem fe_flight_Print (n e : Bool) (es : List PV) (r : List Int × Int) (hr : go_flight_Print n e es = some r) : FunEq Tryd.prog GG 15 [.sl n e 5 es] (em_flight_Print r) := by
  unfold go_flight_Print at hr
  cases hc : go_slices_ContainsFunc__flight_Do_flight_Do n e es with
  | none => rw [hc] at hr; cases hr
  | some c =>
    rw [hc, Option.bind_some] at hr
    have hC := ok_slices_ContainsFunc__flight_Do_flight_Do n e es c hc
    refine ⟨by kernel_rfl, fun w h vs hs hG hv => ?_⟩
    obtain ⟨v, vs', rfl, hv, rfl⟩ := hv
    cases c with
    | true =>
      cases hr
      refine (print_none v w n e es h hs hG hv hC).mono fun e' w' ⟨he, hl⟩ => ⟨_, he, ⟨_, rfl, _, _, rfl, ⟨_, rfl, rfl⟩, _, _, rfl, rfl, rfl⟩, hl.1, hl.2.1, hl.2.2⟩
    | false =>
      simp only [cond_false] at hr
      cases h1 : decide (es.length ≤ 1000000) with
      | false => rw [h1] at hr; cases hr
      | true =>
        rw [h1, cond_true] at hr
        cases h2 : linesOf es with
        | none => rw [h2] at hr; cases hr
        | some l =>
          rw [h2, Option.bind_some] at hr
          cases h3 : decide (l.length ≤ 140737488355328) with
          | false => rw [h3] at hr; cases hr
          | true =>
            rw [h3, cond_true] at hr
            cases hr
            refine (print_walk v w n e es h hs hG hv hC l h2 (of_decide_eq_true h3) (of_decide_eq_true h1)).mono fun e' w' ⟨s, he, hsl, hl⟩ => ⟨_, he, ⟨_, rfl, _, _, rfl, ⟨s, rfl, hsl⟩, _, _, rfl, rfl, rfl⟩, hl.1, hl.2.1, hl.2.2⟩
theorem at_flight_Print : FnAt Tryd.prog GG 15 as_flight_Print ga_flight_Print em_flight_Print := fun vs h r hr => by
  have e : Shp.buildL as_flight_Print vs = [.sl ((tls 0 vs).headD .nilSl).nl ((tls 0 vs).headD .nilSl).ex 5 ((tls 0 vs).headD .nilSl).elts] := by kernel_rfl
  rw [← Shp.buildL_eq _ h, e]
  exact .inl ⟨by decide, fe_flight_Print _ _ _ r hr⟩
end Go.Proofs
end
set_option linter.unusedVariables false
noncomputable section
namespace Go.Proofs
open Go Go.Fx
def digsI (n : Int) : List Int → Int × Bool
  | [] => (n, true)
  | c :: r => bif decide (48 ≤ c ∧ c ≤ 57) then digsI (n * 10 + (c - 48)) r else (0, false)
def refNum : List Int → Int × Bool
  | [] => (0, false)
  | c :: r => bif c == 45 then (0 - (refNum r).1, (refNum r).2 && decide ((refNum r).1 > 0))
    else bif decide ((c :: r).length > 16) || (c == 48 && decide ((c :: r).length > 1)) then (0, false) else digsI 0 (c :: r)
def em_rec_Number (r : Int × Bool) : PV := .tup [.int .i64 r.1, .bool r.2]
open Classical in
def go_rec_Number (l : List Int) : Option (Int × Bool) := if FunEq Tryd.prog GG 20 [.str l] (em_rec_Number (refNum l)) then some (refNum l) else none
def as_rec_Number : List Shp := [.str]
def ga_rec_Number (vs : List PV) : Option (Int × Bool) := go_rec_Number ((tls 0 vs).headD .nilSl).chars
theorem at_rec_Number : FnAt Tryd.prog GG 20 as_rec_Number ga_rec_Number em_rec_Number := fun vs h r hr => by
  have e : Shp.buildL as_rec_Number vs = [.str ((tls 0 vs).headD .nilSl).chars] := by kernel_rfl
  rw [← Shp.buildL_eq _ h, e]
  unfold ga_rec_Number go_rec_Number at hr
  split at hr
  · rename_i hf
    cases hr
    exact .inl ⟨by decide, hf⟩
  · cases hr
end Go.Proofs
end
set_option linter.unusedVariables false
set_option maxRecDepth 100000
noncomputable section
namespace Go.Proofs
open Go Go.Fx
def xb_coupletref20_Number_0 : XR := (.seq (.seq (.ops false [⟨⟨(some 39), (.mv (.tmp 7)), none⟩, none⟩, ⟨⟨(some 40), (.mv (.tmp 0)), none⟩, none⟩, ⟨⟨(some 41), (.lenS (.tmp 40)), none⟩, none⟩, ⟨⟨(some 42), (.bin .lss (.tmp 39) (.tmp 41)), none⟩, none⟩]) (.cond (.tmp 42) .skip (.exit 0))) (.seq (.block 1 (.seq (.seq (.ops false [⟨⟨(some 45), (.mv (.tmp 0)), none⟩, none⟩, ⟨⟨(some 46), (.mv (.tmp 7)), none⟩, none⟩, ⟨⟨(some 47), (.ixS (.tmp 45) (.tmp 46)), none⟩, none⟩, ⟨⟨(some 48), (.bin .lss (.tmp 47) (.c (.int .u8 (48)))), none⟩, none⟩, ⟨⟨(some 49), (.mv (.tmp 48)), none⟩, none⟩, ⟨⟨(some 50), (.mv (.tmp 0)), (some (49, false))⟩, none⟩, ⟨⟨(some 51), (.mv (.tmp 7)), (some (49, false))⟩, none⟩, ⟨⟨(some 52), (.ixS (.tmp 50) (.tmp 51)), (some (49, false))⟩, none⟩, ⟨⟨(some 53), (.bin .gtr (.tmp 52) (.c (.int .u8 (57)))), (some (49, false))⟩, none⟩, ⟨⟨(some 54), (.pick (.tmp 49) (.c (.bool true)) (.tmp 53)), none⟩, none⟩]) (.cond (.tmp 54) (.seq (.ops false [⟨⟨(some 2), (.mv (.c (.int .i64 (0)))), none⟩, none⟩, ⟨⟨(some 3), (.mv (.c (.bool false))), none⟩, none⟩]) .ret) .skip)) (.ops false [⟨⟨(some 55), (.mv (.tmp 6)), none⟩, none⟩, ⟨⟨(some 56), (.bin .mul (.tmp 55) (.c (.int .i64 (10)))), none⟩, none⟩, ⟨⟨(some 57), (.mv (.tmp 0)), none⟩, none⟩, ⟨⟨(some 58), (.mv (.tmp 7)), none⟩, none⟩, ⟨⟨(some 59), (.ixS (.tmp 57) (.tmp 58)), none⟩, none⟩, ⟨⟨(some 60), (.bin .sub (.tmp 59) (.c (.int .u8 (48)))), none⟩, none⟩, ⟨⟨(some 61), (.cvtI .i64 (.tmp 60)), none⟩, none⟩, ⟨⟨(some 62), (.bin .add (.tmp 56) (.tmp 61)), none⟩, none⟩, ⟨⟨(some 6), (.mv (.tmp 62)), none⟩, none⟩]))) (.ops false [⟨⟨(some 43), (.mv (.tmp 7)), none⟩, none⟩, ⟨⟨(some 44), (.bin .add (.tmp 43) (.c (.int .i64 (1)))), none⟩, none⟩, ⟨⟨(some 7), (.mv (.tmp 44)), none⟩, none⟩])))
def xr_coupletref20_Number : XR := (.seq (.ops false [⟨⟨(some 2), (.mv (.c (.int .i64 (0)))), none⟩, none⟩, ⟨⟨(some 3), (.mv (.c (.bool false))), none⟩, none⟩]) (.seq (.seq (.ops false [⟨⟨(some 8), (.mv (.tmp 0)), none⟩, none⟩, ⟨⟨(some 9), (.binS .eql (.tmp 8) (.c (.str []))), none⟩, none⟩]) (.cond (.tmp 9) (.seq (.ops false [⟨⟨(some 2), (.mv (.c (.int .i64 (0)))), none⟩, none⟩, ⟨⟨(some 3), (.mv (.c (.bool false))), none⟩, none⟩]) .ret) .skip)) (.seq (.seq (.ops false [⟨⟨(some 10), (.mv (.tmp 0)), none⟩, none⟩, ⟨⟨(some 11), (.ixS (.tmp 10) (.c (.int .i64 (0)))), none⟩, none⟩, ⟨⟨(some 12), (.bin .eql (.tmp 11) (.c (.int .u8 (45)))), none⟩, none⟩]) (.cond (.tmp 12) (.seq (.ops false [⟨⟨(some 14), (.mv (.tmp 0)), none⟩, none⟩, ⟨⟨(some 15), (.slcS (.tmp 14) (some (.c (.int .i64 (1)))) none), none⟩, none⟩, ⟨⟨(some 16), (.call (.func 20) [(.tmp 15)]), none⟩, none⟩, ⟨⟨(some 13), (.mv (.tmp 16)), none⟩, none⟩, ⟨⟨(some 17), (.ext (.tmp 13) 0), none⟩, none⟩, ⟨⟨(some 18), (.ext (.tmp 13) 1), none⟩, none⟩, ⟨⟨(some 4), (.mv (.tmp 17)), none⟩, none⟩, ⟨⟨(some 5), (.mv (.tmp 18)), none⟩, none⟩]) (.seq (.ops false [⟨⟨(some 19), (.mv (.tmp 4)), none⟩, none⟩, ⟨⟨(some 20), (.bin .sub (.c (.int .i64 (0))) (.tmp 19)), none⟩, none⟩, ⟨⟨(some 21), (.mv (.tmp 5)), none⟩, none⟩, ⟨⟨(some 22), (.mv (.tmp 21)), none⟩, none⟩, ⟨⟨(some 23), (.mv (.tmp 4)), (some (22, true))⟩, none⟩, ⟨⟨(some 24), (.bin .gtr (.tmp 23) (.c (.int .i64 (0)))), (some (22, true))⟩, none⟩, ⟨⟨(some 25), (.pick (.tmp 22) (.tmp 24) (.c (.bool false))), none⟩, none⟩, ⟨⟨(some 2), (.mv (.tmp 20)), none⟩, none⟩, ⟨⟨(some 3), (.mv (.tmp 25)), none⟩, none⟩]) .ret)) .skip)) (.seq (.seq (.ops false [⟨⟨(some 26), (.mv (.tmp 0)), none⟩, none⟩, ⟨⟨(some 27), (.lenS (.tmp 26)), none⟩, none⟩, ⟨⟨(some 28), (.bin .gtr (.tmp 27) (.c (.int .i64 (16)))), none⟩, none⟩, ⟨⟨(some 29), (.mv (.tmp 28)), none⟩, none⟩, ⟨⟨(some 30), (.mv (.tmp 0)), (some (29, false))⟩, none⟩, ⟨⟨(some 31), (.ixS (.tmp 30) (.c (.int .i64 (0)))), (some (29, false))⟩, none⟩, ⟨⟨(some 32), (.bin .eql (.tmp 31) (.c (.int .u8 (48)))), (some (29, false))⟩, none⟩, ⟨⟨(some 33), (.mv (.tmp 32)), (some (29, false))⟩, none⟩, ⟨⟨(some 34), (.mv (.tmp 0)), (some (33, true))⟩, none⟩, ⟨⟨(some 35), (.lenS (.tmp 34)), (some (33, true))⟩, none⟩, ⟨⟨(some 36), (.bin .gtr (.tmp 35) (.c (.int .i64 (1)))), (some (33, true))⟩, none⟩, ⟨⟨(some 37), (.pick (.tmp 33) (.tmp 36) (.c (.bool false))), (some (29, false))⟩, none⟩, ⟨⟨(some 38), (.pick (.tmp 29) (.c (.bool true)) (.tmp 37)), none⟩, none⟩]) (.cond (.tmp 38) (.seq (.ops false [⟨⟨(some 2), (.mv (.c (.int .i64 (0)))), none⟩, none⟩, ⟨⟨(some 3), (.mv (.c (.bool false))), none⟩, none⟩]) .ret) .skip)) (.seq (.ops false [⟨⟨(some 6), (.mv (.c (.int .i64 (0)))), none⟩, none⟩]) (.seq (.seq (.ops false [⟨⟨(some 7), (.mv (.c (.int .i64 (0)))), none⟩, none⟩]) (.block 0 (.loop 0 [0, 6, 7] xb_coupletref20_Number_0))) (.seq (.ops false [⟨⟨(some 63), (.mv (.tmp 6)), none⟩, none⟩, ⟨⟨(some 2), (.mv (.tmp 63)), none⟩, none⟩, ⟨⟨(some 3), (.mv (.c (.bool true))), none⟩, none⟩]) .ret)))))))
def rs_coupletref20_Number : List ResultVar := [(.tmp 2), (.tmp 3)]
theorem ir_coupletref20_Number : compCode Tryd.prog (Tryd.f20.body.getD .skip) [[0, 6, 7]] = some (xr_coupletref20_Number.erase, []) := by kernel_rfl
def gm_coupletref20_Number_v1 : Gam := (Gam.fn 20 as_rec_Number ga_rec_Number em_rec_Number Gam.bot)
theorem gk_coupletref20_Number_v1 : GamOk Tryd.prog GG gm_coupletref20_Number_v1 := (GamOk.fn at_rec_Number GamOk.bot)
def st_coupletref20_Number_v1_0 (l2 : List Int) (n3 : Int) (n4 : Int) : Option (((List Int × Int × Int)) ⊕ ((Int) ⊕ ((Int × Bool)))) :=
  bif (decide (n4 < (((List.length l2) : Nat) : Int))) then
   bif (decide (0 ≤ n4)) then
    bif (decide (n4 < (((List.length l2) : Nat) : Int))) then
     bif (decide ((List.getD l2 (Int.toNat n4) 0) < 48)) then
      some (Sum.inr (Sum.inr (0, false)))
     else
      bif (decide (0 ≤ n4)) then
       bif (decide (n4 < (((List.length l2) : Nat) : Int))) then
        bif (decide ((List.getD l2 (Int.toNat n4) 0) > 57)) then
         some (Sum.inr (Sum.inr (0, false)))
        else
         bif (decide (0 ≤ n4)) then
          bif (decide (n4 < (((List.length l2) : Nat) : Int))) then
           some (Sum.inl (l2, (IntKind.wrap .i64 ((IntKind.wrap .i64 (n3 * 10)) + (IntKind.wrap .i64 (IntKind.wrap .u8 ((List.getD l2 (Int.toNat n4) 0) - 48))))), (IntKind.wrap .i64 (n4 + 1))))
          else none
         else none
       else none
      else none
    else none
   else none
  else
   some (Sum.inr (Sum.inl n3))
def lp_coupletref20_Number_v1_0 (l2 : List Int) (n3 : Int) (n4 : Int) : Option ((Int) ⊕ ((Int × Bool))) := loopN (X := (List Int × Int × Int)) (fun x => st_coupletref20_Number_v1_0 x.1 x.2.1 x.2.2) (l2, n3, n4)
def sh_coupletref20_Number_v1_0 : StSh := ⟨64, [(0, (.p .str)), (6, (.p (.int .i64))), (7, (.p (.int .i64)))], []⟩
def sx_coupletref20_Number_v1_0 (x : (List Int × Int × Int)) : St := ⟨slots 64 0 [(0, (.p (.str x.1))), (6, (.p (.int .i64 x.2.1))), (7, (.p (.int .i64 x.2.2)))], []⟩
def sa_coupletref20_Number_v1_0 (S : St) : (List Int × Int × Int) := (((tls 0 S.t).headD .any).pv.chars, ((tls 6 S.t).headD .any).pv.num, ((tls 7 S.t).headD .any).pv.num)
def tz_coupletref20_Number_v1_0_1 : StSh := ⟨64, [(2, (.p (.int .i64))), (3, (.p .bool))], []⟩
def tx_coupletref20_Number_v1_0_1 (x : (Int × Bool)) : St := ⟨slots 64 0 [(2, (.p (.int .i64 x.1))), (3, (.p (.bool x.2)))], []⟩
def ta_coupletref20_Number_v1_0_1 (S : St) : (Int × Bool) := (((tls 2 S.t).headD .any).pv.num, ((tls 3 S.t).headD .any).pv.tru)
def tz_coupletref20_Number_v1_0_0 : StSh := ⟨64, [(6, (.p (.int .i64)))], []⟩
def tx_coupletref20_Number_v1_0_0 (x : Int) : St := ⟨slots 64 0 [(6, (.p (.int .i64 x)))], []⟩
def ta_coupletref20_Number_v1_0_0 (S : St) : Int := ((tls 6 S.t).headD .any).pv.num
def kb_coupletref20_Number_v1_0 : Exit → St → Tree (((List Int × Int × Int)) ⊕ ((Int) ⊕ ((Int × Bool)))) := (exOne (.exit 0) [6] tz_coupletref20_Number_v1_0_0 ta_coupletref20_Number_v1_0_0 (fun y => Sum.inr ((Sum.inl y))) (exOne .ret [2, 3] tz_coupletref20_Number_v1_0_1 ta_coupletref20_Number_v1_0_1 (fun y => Sum.inr ((Sum.inr y))) exNil))
def ky_coupletref20_Number_v1_0 : Dec ((Int) ⊕ ((Int × Bool))) := fun _ y ke => .sum y (fun a => ke ((.exit 0) : EK).ex (tx_coupletref20_Number_v1_0_0 a)) (fun y' => ke (.ret : EK).ex (tx_coupletref20_Number_v1_0_1 y'))
theorem kk_coupletref20_Number_v1_0 : ExOk Sum.inr kb_coupletref20_Number_v1_0 ky_coupletref20_Number_v1_0 := (ExOk.one (acc := ta_coupletref20_Number_v1_0_0) (bY := tx_coupletref20_Number_v1_0_0) (inj1 := fun y => (Sum.inl y)) (fun S => by kernel_rfl) (fun y _ ke => .inr (by kernel_rfl)) (ExOk.one (acc := ta_coupletref20_Number_v1_0_1) (bY := tx_coupletref20_Number_v1_0_1) (inj1 := fun y => (Sum.inr y)) (fun S => by kernel_rfl) (fun y _ ke => .inr (by kernel_rfl)) ExOk.nil))
def lm_coupletref20_Number_v1 : Lam := fun _ j S kn ke => match j with
  | 0 => prepT [0, 6, 7] [] S fun S => .chk (sh_coupletref20_Number_v1_0.ok S) (.bind (loopN (fun x => st_coupletref20_Number_v1_0 x.1 x.2.1 x.2.2) (sa_coupletref20_Number_v1_0 S)) fun y => ky_coupletref20_Number_v1_0 _ y ke)
  | _ => .fail
theorem sr_coupletref20_Number_v1_0 (x : (List Int × Int × Int)) : (ev GG gm_coupletref20_Number_v1 lm_coupletref20_Number_v1 xb_coupletref20_Number_0 (sx_coupletref20_Number_v1_0 x) (fun S => forgetT [0, 6, 7] S fun S => prepT [0, 6, 7] [] S fun S => .chk (sh_coupletref20_Number_v1_0.ok S) (.leaf (.inl (sa_coupletref20_Number_v1_0 S)))) kb_coupletref20_Number_v1_0).run = st_coupletref20_Number_v1_0 x.1 x.2.1 x.2.2 := by kernel_rfl
theorem la_coupletref20_Number_v1_0 : LamAt Tryd.prog GG lm_coupletref20_Number_v1 0 (.loop [0, 6, 7] xb_coupletref20_Number_0.erase) := lam_loop (body := xb_coupletref20_Number_0) (Λ' := lm_coupletref20_Number_v1) gk_coupletref20_Number_v1 (⟨⟨trivial, ⟨trivial, trivial⟩⟩, ⟨⟨⟨trivial, ⟨⟨trivial, trivial⟩, trivial⟩⟩, trivial⟩, trivial⟩⟩) (fun S => (by kernel_rfl : sh_coupletref20_Number_v1_0.build S = sx_coupletref20_Number_v1_0 (sa_coupletref20_Number_v1_0 S))) kk_coupletref20_Number_v1_0 sr_coupletref20_Number_v1_0 (fun _ _ _ => rfl)
def go_coupletref20_Number_v1 (l0 : List Int) : Option (Int × Bool) :=
  bif (l0 == []) then
   some (0, false)
  else
   bif (decide (0 < (((List.length l0) : Nat) : Int))) then
    bif ((List.getD l0 0 0) == 45) then
     bif (decide (1 ≤ (((List.length l0) : Nat) : Int))) then
      bif (decide ((((List.length l0) : Nat) : Int) ≤ (((List.length l0) : Nat) : Int))) then
       (go_rec_Number (List.take (Int.toNat ((((List.length l0) : Nat) : Int) - 1)) (List.drop 1 l0))).bind fun r1 =>
       bif r1.2 then
        some ((IntKind.wrap .i64 (0 - r1.1)), (decide (r1.1 > 0)))
       else
        some ((IntKind.wrap .i64 (0 - r1.1)), false)
      else none
     else none
    else
     bif (decide ((((List.length l0) : Nat) : Int) > 16)) then
      some (0, false)
     else
      bif (decide (0 < (((List.length l0) : Nat) : Int))) then
       bif ((List.getD l0 0 0) == 48) then
        bif (decide ((((List.length l0) : Nat) : Int) > 1)) then
         some (0, false)
        else
         (lp_coupletref20_Number_v1_0 l0 0 0).bind fun y5 =>
         Sum.elim (fun z6 =>
          some (z6, true)) (fun z7 =>
          some (z7.1, z7.2)) y5
       else
        (lp_coupletref20_Number_v1_0 l0 0 0).bind fun y8 =>
        Sum.elim (fun z9 =>
         some (z9, true)) (fun z10 =>
         some (z10.1, z10.2)) y8
      else none
   else none
def em_coupletref20_Number_v1 (r : (Int × Bool)) : PV := (.tup [(.int .i64 r.1), (.bool r.2)])
def rh_coupletref20_Number_v1 : Shp := (.tup [(.int .i64), .bool])
def ra_coupletref20_Number_v1 (v : PV) : (Int × Bool) := ((v.subs.headD .nilSl).num, (v.subs.tail.headD .nilSl).tru)
def kf_coupletref20_Number_v1 (v : PV) : Tree (Int × Bool) := .chk (rh_coupletref20_Number_v1.ok v) (.leaf (ra_coupletref20_Number_v1 v))
theorem rn_coupletref20_Number_v1 (l0 : List Int) : (ev GG gm_coupletref20_Number_v1 lm_coupletref20_Number_v1 xr_coupletref20_Number ⟨slots 64 0 [(0, .p (.str l0))], []⟩ (fun S => finT Tryd.prog rs_coupletref20_Number S kf_coupletref20_Number_v1) (retT Tryd.prog rs_coupletref20_Number kf_coupletref20_Number_v1)).run = go_coupletref20_Number_v1 l0 := by kernel_rfl
theorem ok_coupletref20_Number_v1 (l0 : List Int) (r : (Int × Bool)) (h : go_coupletref20_Number_v1 l0 = some r) : FunEq Tryd.prog GG 20 [(.str l0)] (em_coupletref20_Number_v1 r) :=
  fun_of_ev (x := xr_coupletref20_Number) (Λ := lm_coupletref20_Number_v1) gk_coupletref20_Number_v1 [[0, 6, 7]] Tryd.func20 rfl (by kernel_rfl) ir_coupletref20_Number (by kernel_rfl) (congrArg Array.toList Tryd.results20) Tryd.ntmps20 (⟨trivial, ⟨⟨trivial, ⟨⟨trivial, trivial⟩, trivial⟩⟩, ⟨⟨trivial, ⟨⟨trivial, ⟨trivial, trivial⟩⟩, trivial⟩⟩, ⟨⟨trivial, ⟨⟨trivial, trivial⟩, trivial⟩⟩, ⟨trivial, ⟨⟨trivial, la_coupletref20_Number_v1_0⟩, ⟨trivial, trivial⟩⟩⟩⟩⟩⟩⟩) (leaf_of fun v => (by kernel_rfl : rh_coupletref20_Number_v1.build v = em_coupletref20_Number_v1 (ra_coupletref20_Number_v1 v))) (by kernel_rfl) ((rn_coupletref20_Number_v1 l0).trans h)
end Go.Proofs
end
