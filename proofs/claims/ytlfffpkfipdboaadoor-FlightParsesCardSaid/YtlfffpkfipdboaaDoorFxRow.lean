/-
  Fx, part 20: a law's row: arguments of whatever plain types, opened; what is read stays as it was.
-/
import Derived.ProofKit
import Derived.WideKeyArgs
import Derived.Test.YtlfffpkfipdboaaDoorFxFin
set_option linter.unusedSimpArgs false
set_option linter.unusedVariables false
namespace Go.Fx
open Go.ChangeShapes Go.WideShapes Go.ChangeAt Go.RowKit
/-- What a call leaves: what was there is as it was. -/
def Left' (w w' : World) : Prop := w.heap.size ≤ w'.heap.size ∧ (∀ b : Nat, b < w.heap.size → w'.heap[b]? = w.heap[b]?) ∧ Out w w'
theorem Left'.frame {W w' : World} (h : Left' W w') (may : MemPlace → Prop) : W.keptBut w' may := by
  refine ⟨h.2.2.1, h.2.2.2, fun i hi => ?_⟩
  rw [h.2.1 i hi]
  split <;> simp_all
theorem post_of_left {H : Type} {enc : TypeId × Value → H} {P : Program} {f : Func} {s : ChangeSpec} {apart fresh handsOn again : Bool} {W W' : World} {args : Array Value} {v : Value} {ds gs : List (DataW H)} {before pa pv : List MemPlace}
    (hW : DataW.Whole enc P f.params.toList s.vars apart W args.toList ds gs before)
    (hres : ∀ (b : Nat) (sp : Nat → Bool) (hd : Bool), DataW.TrodAll enc P W' b sp hd f.resultTypes.toList (v.resultList f.resultTypes.size) (s.fn H (ds ++ gs)).results [])
    (hargs : ∀ sp : Nat → Bool, (∀ p ∈ before, sp p.block = true) → DataW.TrodAll enc P W' 0 sp true f.params.toList args.toList (s.fn H (ds ++ gs)).args pa)
    (hvars : ∀ sp : Nat → Bool, (∀ p ∈ before, sp p.block = true) → DataW.TrodVars enc P W' sp s.vars (s.fn H (ds ++ gs)).vars pv)
    (hps : before = pa ++ pv) (hk : Left' W W')
    (hok : ∀ (j : Nat) (t : TypeId) (r : Value), f.resultTypes[j]? = some t → (v.resultList f.resultTypes.size)[j]? = some r → Value.okWide P W' .any 0 t r) :
    s.post enc P f apart fresh handsOn again W args v W' := by
  have hlt := hW.lt
  have hold : ∀ p ∈ before, (fun b => decide (b < W.heap.size)) p.block = true := fun p hp => by simpa using hlt p hp
  refine ⟨ds, gs, before, [], pa, pv, hW, hres _ _ _, hargs _ hold, hvars _ hold, World.keptBut_mono (fun p hp => ⟨hp, ?_⟩) (hk.frame (· ∈ before)), fun _ => ?_⟩
  · rw [hps, List.mem_append] at hp
    exact Or.inr hp
  · obtain ⟨_, _, _, _, _, hz, hn⟩ := hW
    refine ⟨hok, _, _, ([] ++ pa) ++ pv, ⟨[] ++ pa, pv, trodAll_append (hargs _ (fun _ _ => rfl)) (hres _ _ _), hvars _ (fun _ _ => rfl), rfl, ?_, ?_⟩, ?_⟩
    · intro b off hp
      have hp' : MemPlace.cell b off ∈ before := by rw [hps]; simpa using hp
      have hb : b < W.heap.size := hlt _ hp'
      rw [World.frozen?_of_block (w := W) (hk.2.1 b hb)]
      exact hz b off hp'
    · intro ha
      have := hn ha
      rw [hps] at this
      simpa using this
    · intro p hp _
      rw [hps]
      simpa using hp
/-- A law's contract, as a call where all of memory is known. -/
theorem funEq_true {P : Program} {f : FuncId} {args : List PV} {vs : List Value} (h : FunEq P (fun _ => none) f args (.bool true)) (w : World) (hv : PV.relL (full w) args vs) :
    Calls P f vs.toArray w fun e w' => e = .returned (.bool true) ∧ Left' w w' :=
  (h.2 w (full w) vs (fun _ _ e => e) (fun _ _ e => by cases e) hv).mono fun e w' ⟨v, he, hr, hz, hk, ho⟩ => by
    have hv : v = .bool true := hr
    subst hv
    exact ⟨he, hz, hk, ho⟩
/-- An argument reads as it did. -/
theorem trod_left {H : Type} {enc : TypeId × Value → H} {P : Program} {t : TypeId} (hl : laidOutB P = true) (hr : P.readableRec t = true) (hrow : t < P.types.size) {W W' : World} {sp : Nat → Bool} {v : Value} {d : DataW H} {ps : List MemPlace}
    (h : DataW.Trod enc P W 0 (fun _ => true) true t v d ps) (hk : Left' W W') (hlt : ∀ x ∈ ps, x.block < W.heap.size) (hs : ∀ x ∈ ps, sp x.block = true) : DataW.Trod enc P W' 0 sp true t v d ps :=
  WideElems.Trod_stays hl hr hrow h (fun x hx => by
    have hb := hk.2.1 _ (hlt x hx)
    have hbel : Below W.heap.size W { W' with tape := W.tape } := ⟨hk.2.2.1, rfl, hk.2.2.2, hk.1, fun k hk' => hk.2.1 k hk'⟩
    have := hbel.same (hlt x hx)
    exact this) hs
/-! ### Types of plain data -/
inductive TS where
  | int (k : IntKind)
  | bool
  | str
  | isl (k : IntKind)
  | sl (agg : Bool) (w : Nat) (ts : List TS)
def mkP : Bool → List PV → PV
  | true, ys => .agg ys
  | false, ys => ys.headD .nilSl
mutual
def TS.fits : TS → PV → Prop
  | .int k, .int k' n => k' = k ∧ (Lit.int k n).wf = true
  | .bool, .bool _ => True
  | .str, .str l => l.length ≤ maxLen ∧ ∀ c ∈ l, 0 ≤ c ∧ c < 256
  | .isl k, .isl nil _ k' l => k' = k ∧ l.length ≤ maxLen ∧ (∀ n ∈ l, (Lit.int k n).wf = true) ∧ (nil = true → l = [])
  | .sl agg w ts, .sl nil _ w' es => w' = w ∧ es.length ≤ maxLen ∧ (nil = true → es = []) ∧ ∀ e ∈ es, ∃ ys, e = mkP agg ys ∧ TS.fitsL ts ys
  | _, _ => False
def TS.fitsL : List TS → List PV → Prop
  | [], ys => ys = []
  | t :: ts, ys => ∃ y ys', ys = y :: ys' ∧ t.fits y ∧ TS.fitsL ts ys'
end
theorem TS.fitsL_append : ∀ {a b : List TS} {x y : List PV}, TS.fitsL a x → TS.fitsL b y → TS.fitsL (a ++ b) (x ++ y)
  | [], b, x, y, h, h' => by
    have h : x = [] := by simpa only [TS.fitsL] using h
    subst h; exact h'
  | t :: a, b, x, y, h, h' => by
    simp only [TS.fitsL] at h
    obtain ⟨z, zs, rfl, h1, h2⟩ := h
    show TS.fitsL (t :: (a ++ b)) _
    simp only [TS.fitsL, List.cons_append]
    exact ⟨z, zs ++ y, rfl, h1, TS.fitsL_append h2 h'⟩
theorem TS.fitsL_length : ∀ {a : List TS} {x : List PV}, TS.fitsL a x → x.length = a.length
  | [], x, h => by
    have h : x = [] := by simpa only [TS.fitsL] using h
    subst h; rfl
  | t :: a, x, h => by
    simp only [TS.fitsL] at h
    obtain ⟨z, zs, rfl, h1, h2⟩ := h
    simp [TS.fitsL_length h2]
def fldTS (P : Program) (rec : TypeId → Option (List TS)) : Nat → List Field → Nat → Option (List TS)
  | k, [], total => if k = total then some [] else none
  | k, f :: fs, total => if f.offset = k then match rec f.type, fldTS P rec (k + P.cellsOf f.type) fs total with
    | some a, some b => if a.length = P.cellsOf f.type then some (a ++ b) else none
    | _, _ => none
    else none
def tyTS (P : Program) : Nat → TypeId → Option (List TS)
  | 0, _ => none
  | n + 1, t => match P.underlying t with
    | some (.int k) => if P.cellsOf t = 1 then some [.int k] else none
    | some .bool => if P.cellsOf t = 1 then some [.bool] else none
    | some .string => if P.cellsOf t = 1 then some [.str] else none
    | some (.slice e) => if P.cellsOf t = 1 then match P.underlying e with
      | some (.int k) => if P.cellsOf e = 1 then some [.isl k] else none
      | _ => match tyTS P n e with
        | some ts => if ts.length = P.cellsOf e ∧ 0 < P.cellsOf e then some [.sl (isAggT P e) (P.cellsOf e) ts] else none
        | none => none
      else none
    | some (.struct fs) => fldTS P (tyTS P n) 0 fs.toList (P.cellsOf t)
    | _ => none
theorem choose_list {α : Type} {R : Nat → α → Prop} : ∀ (n : Nat), (∀ i, i < n → ∃ y, R i y) → ∃ l : List α, l.length = n ∧ ∀ (i : Nat) y, l[i]? = some y → R i y
  | 0, _ => ⟨[], rfl, fun i y h => by simp at h⟩
  | n + 1, h => by
    obtain ⟨l, h1, h2⟩ := choose_list n fun i hi => h i (by omega)
    obtain ⟨y, hy⟩ := h n (by omega)
    refine ⟨l ++ [y], by simp [h1], fun i z hz => ?_⟩
    rcases Nat.lt_trichotomy i n with hi | hi | hi
    · rw [List.getElem?_append_left (by omega)] at hz; exact h2 i z hz
    · subst hi
      rw [List.getElem?_append_right (by omega)] at hz
      simp [h1] at hz
      subst hz; exact hy
    · rw [List.getElem?_eq_none (by simp; omega)] at hz; cases hz
theorem flat_get {α : Type} {w : Nat} : ∀ {css : List (List α)} {j : Nat} {v : α}, (∀ c ∈ css, c.length = w) → css.flatten[j]? = some v → ∃ i k cs, css[i]? = some cs ∧ cs[k]? = some v ∧ j = i * w + k ∧ k < w
  | [], j, v, _, h => by simp at h
  | c :: css, j, v, hw, h => by
    rw [List.flatten_cons] at h
    have hc := hw c (by simp)
    rcases Nat.lt_or_ge j c.length with hj | hj
    · rw [List.getElem?_append_left hj] at h
      exact ⟨0, j, c, rfl, h, by simp, by omega⟩
    · rw [List.getElem?_append_right hj] at h
      obtain ⟨i, k, cs, h1, h2, h3, h4⟩ := flat_get (fun c hc => hw c (by simp [hc])) h
      exact ⟨i + 1, k, cs, by simpa using h1, h2, by rw [Nat.add_mul]; omega, h4⟩
theorem addr_add (a : Addr) (n : Nat) : (a.add n).block = a.block ∧ (a.add n).off = a.off + n := by
  unfold Addr.add
  split <;> simp_all
theorem cells?_get {w : World} {base : Nat} {a : Addr} {n : Nat} {cs : List Value} (h : w.cells? base a n = some cs) : base ≤ a.block ∧ cs.length = n ∧ ∀ (i : Nat) v, cs[i]? = some v → w.cell? (a.add i) = some v := by
  unfold World.cells? at h
  split at h
  · rename_i hb
    refine ⟨hb, by simpa using mapM_some_length h, fun i v hv => ?_⟩
    have hl : cs.length = n := by simpa using mapM_some_length h
    have hi : i < n := by have := (List.getElem?_eq_some_iff.1 hv).1; omega
    have := mapM_some_get h i i (by simp [hi])
    rw [this, hv]
  · cases h
theorem cell?_at {w : World} {a : Addr} {v : Value} (h : w.cell? a = some v) : a.spot = none ∧ ∃ c ty fz, full w a.block = some (.cells c ty fz) ∧ c[a.off]? = some v := by
  unfold World.cell? at h
  split at h
  · rename_i c ty fz e
    split at h
    · cases h
    · rename_i hs
      exact ⟨by simpa using hs, c, ty, fz, e, h⟩
  · cases h
section
variable {H : Type} {enc : TypeId × Value → H} {P : Program} {w : World} {held : Bool}
/-- A slice's cells, of elements that are known one by one. -/
theorem rows_of {e : TypeId} {a : Addr} {len cap wd : Nat} {agg : Bool} {ts : List TS} (hw : 0 < wd) (hts : ts.length = wd) (ha : agg = false → wd = 1)
    (hel : ∀ i, i < len → ∃ cs ys, w.cells? 0 (a.add (i * wd)) wd = some cs ∧ TS.fitsL ts ys ∧ PV.relL (full w) ys cs) :
    ∃ es vs, es.length = len ∧ PV.relE (full w) wd es vs ∧ CellsAt (full w) a.block a.off vs ∧ ∀ x ∈ es, ∃ ys, x = mkP agg ys ∧ TS.fitsL ts ys := by
  obtain ⟨l, h1, h2⟩ := choose_list (α := List Value × List PV) (R := fun i q => w.cells? 0 (a.add (i * wd)) wd = some q.1 ∧ TS.fitsL ts q.2 ∧ PV.relL (full w) q.2 q.1) len fun i hi => by
    obtain ⟨cs, ys, h⟩ := hel i hi
    exact ⟨(cs, ys), h⟩
  have hall : ∀ q ∈ l, q.1.length = wd ∧ TS.fitsL ts q.2 ∧ PV.relL (full w) q.2 q.1 := fun q hq => by
    obtain ⟨i, hi⟩ := List.getElem?_of_mem hq
    obtain ⟨h3, h4, h5⟩ := h2 i q hi
    exact ⟨(cells?_get h3).2.1, h4, h5⟩
  refine ⟨l.map fun q => mkP agg q.2, (l.map (·.1)).flatten, by simp [h1], ?_, fun j v hj => ?_, fun x hx => ?_⟩
  · clear h1 h2
    induction l with
    | nil => rfl
    | cons q l ih =>
      obtain ⟨h3, h4, h5⟩ := hall q (by simp)
      refine ⟨match agg with
        | true => .agg q.1.toArray
        | false => q.1.headD undef, _, ?_, ?_, ?_, ih fun q hq => hall q (by simp [hq])⟩
      · cases agg with
        | true => simp [Value.cells]
        | false =>
          have hwd := ha rfl
          obtain ⟨q1, q2⟩ := q
          match q1, h3 with
          | [v], _ =>
            match q2, TS.fitsL_length h4, h5 with
            | [y], _, h5 =>
              obtain ⟨v', vs', e1, h6, h7⟩ := h5
              cases e1
              have hy : y.scal = true := by
                match ts, hts, h4 with
                | [t], _, h4 =>
                  simp only [TS.fitsL] at h4
                  obtain ⟨y', ys', e2, h8, h9⟩ := h4
                  cases e2
                  cases t <;> cases y <;> simp only [TS.fits] at h8 <;> first | rfl | exact h8.elim
                | [], hts, _ => simp at hts; omega
                | _ :: _ :: _, hts, _ => simp at hts; omega
              have := (PV.scal_one h6 hy).2
              simp [this]
            | [], hl, _ => rw [hts] at hl; simp at hl; omega
            | _ :: _ :: _, hl, _ => rw [hts] at hl; simp at hl; omega
          | [], h3 => simp at h3; omega
          | _ :: _ :: _, h3 => simp at h3; omega
      · cases agg with
        | true => simpa [Value.cells] using h3
        | false =>
          have hwd := ha rfl
          obtain ⟨q1, q2⟩ := q
          match q1, h3 with
          | [v], _ =>
            match q2, TS.fitsL_length h4, h5 with
            | [y], _, h5 =>
              obtain ⟨v', vs', e1, h6, h7⟩ := h5
              cases e1
              have hy : y.scal = true := by
                match ts, hts, h4 with
                | [t], _, h4 =>
                  simp only [TS.fitsL] at h4
                  obtain ⟨y', ys', e2, h8, h9⟩ := h4
                  cases e2
                  cases t <;> cases y <;> simp only [TS.fits] at h8 <;> first | rfl | exact h8.elim
                | [], hts, _ => simp at hts; omega
                | _ :: _ :: _, hts, _ => simp at hts; omega
              have := (PV.scal_one h6 hy).2
              simp [this, hwd]
            | [], hl, _ => rw [hts] at hl; simp at hl; omega
            | _ :: _ :: _, hl, _ => rw [hts] at hl; simp at hl; omega
          | [], h3 => simp at h3; omega
          | _ :: _ :: _, h3 => simp at h3; omega
      · cases agg with
        | true => exact ⟨q.1, rfl, h5⟩
        | false =>
          obtain ⟨q1, q2⟩ := q
          match q1, q2, h5 with
          | _, y :: ys, ⟨v, vs, e, h6, _⟩ => cases e; exact h6
          | _, [], h5 =>
            have := TS.fitsL_length h4
            simp at this; omega
  · obtain ⟨i, k, cs, e1, e2, rfl, hk⟩ := flat_get (w := wd) (fun c hc => by
      obtain ⟨q, hq, rfl⟩ := List.mem_map.1 hc
      exact (hall q hq).1) hj
    rw [List.getElem?_map, Option.map_eq_some_iff] at e1
    obtain ⟨q, hq, rfl⟩ := e1
    obtain ⟨h3, _, _⟩ := h2 i q hq
    have h4 := (cells?_get h3).2.2 k v e2
    obtain ⟨_, c, ty, fz, h5, h6⟩ := cell?_at h4
    rw [(addr_add _ _).1, (addr_add _ _).1] at h5
    rw [(addr_add _ _).2, (addr_add _ _).2, Nat.add_assoc] at h6
    exact ⟨c, ty, fz, h5, h6⟩
  · obtain ⟨q, hq, rfl⟩ := List.mem_map.1 hx
    exact ⟨q.2, rfl, (hall q hq).2.1⟩
theorem isAgg_of {t : TypeId} {ts : List TS} {n : Nat} (h : tyTS P n t = some ts) (ha : isAggT P t = false) : ts.length = 1 := by
  cases n with
  | zero => simp only [tyTS] at h; cases h
  | succ n =>
    simp only [tyTS] at h
    unfold isAggT at ha
    split at h
    · split at h <;> cases h; rfl
    · split at h <;> cases h; rfl
    · split at h <;> cases h; rfl
    · split at h
      · split at h
        · split at h <;> cases h; rfl
        · split at h
          · split at h <;> cases h; rfl
          · cases h
      · cases h
    · rename_i e; rw [e] at ha; cases ha
    · cases h
theorem open_fields {n : Nat} (H0 : ∀ (t : TypeId) (ts : List TS) (fuel : Nat) (cs : List Value) (x : DataW H × List MemPlace), tyTS P n t = some ts → DataW.trod enc P w 0 (fun _ => true) held fuel t cs = some x → ∃ ys, TS.fitsL ts ys ∧ PV.relL (full w) ys cs) : ∀ (k : Nat) (fs : List Field) (total : Nat) (ts : List TS) (m : Nat) (cs : List Value) (xs : List (DataW H × List MemPlace)), fldTS P (tyTS P n) k fs total = some ts → cs.length = total → xs.length = fs.length →
    (∀ (i : Nat) (f : Field), fs[i]? = some f → DataW.trod enc P w 0 (fun _ => true) held m f.type ((cs.drop f.offset).take (P.cellsOf f.type)) = xs[i]?) → ∃ ys, TS.fitsL ts ys ∧ PV.relL (full w) ys (cs.drop k)
  | k, [], total, ts, m, cs, xs, h, hl, _, _ => by
    simp only [fldTS] at h
    split at h <;> cases h
    rename_i hk
    refine ⟨[], rfl, ?_⟩
    rw [List.drop_eq_nil_of_le (by omega)]
    rfl
  | k, f :: fs, total, ts, m, cs, x :: xs, h, hl, hlen, hf => by
    simp only [fldTS] at h
    split at h
    · rename_i ho
      split at h
      · rename_i a b h1 h2
        split at h <;> cases h
        rename_i hla
        have g1 := hf 0 f rfl
        obtain ⟨ys, g2, g3⟩ := H0 f.type a m _ _ h1 g1
        obtain ⟨zs, g4, g5⟩ := open_fields H0 (k + P.cellsOf f.type) fs total b m cs xs h2 hl (by simpa using hlen) (fun i f' hi => by simpa using hf (i + 1) f' (by simpa using hi))
        refine ⟨ys ++ zs, TS.fitsL_append g2 g4, ?_⟩
        have e1 : cs.drop k = (cs.drop k).take (P.cellsOf f.type) ++ cs.drop (k + P.cellsOf f.type) := by
          rw [← List.drop_drop, List.take_append_drop]
        rw [e1]
        rw [ho] at g3
        exact relL_append g3 g5
      · cases h
    · cases h
  | k, f :: fs, total, ts, m, cs, [], h, hl, hlen, hf => by simp at hlen
theorem open_cells : ∀ (n : Nat) (t : TypeId) (ts : List TS) (fuel : Nat) (cs : List Value) (x : DataW H × List MemPlace), tyTS P n t = some ts → DataW.trod enc P w 0 (fun _ => true) held fuel t cs = some x →
    ∃ ys, TS.fitsL ts ys ∧ PV.relL (full w) ys cs
  | 0, t, ts, fuel, cs, x, h, _ => by simp only [tyTS] at h; cases h
  | n + 1, t, ts, fuel, cs, x, h, hx => by
    simp only [tyTS] at h
    split at h
    · rename_i k hu
      split at h <;> cases h
      obtain ⟨m, rfl, rfl, hw⟩ := DataW.trod_int hu hx
      refine ⟨[.int k m], ?_, _, _, rfl, rfl, rfl⟩
      simp only [TS.fitsL]
      exact ⟨_, _, rfl, ⟨rfl, hw⟩, rfl⟩
    · rename_i hu
      split at h <;> cases h
      obtain ⟨b, rfl, rfl⟩ := DataW.trod_bool hu hx
      refine ⟨[.bool b], ?_, _, _, rfl, rfl, rfl⟩
      simp only [TS.fitsL]
      exact ⟨_, _, rfl, trivial, rfl⟩
    · rename_i hu
      split at h <;> cases h
      obtain ⟨s, rfl, rfl, hs⟩ := DataW.trod_string hu hx
      refine ⟨[.str (s.data.toList.map fun b => (b.toNat : Int))], ?_, _, _, rfl, ⟨s, rfl, rfl⟩, rfl⟩
      simp only [TS.fitsL]
      refine ⟨_, _, rfl, ⟨by rw [List.length_map, Array.length_toList]; exact hs, fun c hc => ?_⟩, rfl⟩
      obtain ⟨b, _, rfl⟩ := List.mem_map.1 hc
      have := b.toNat_lt
      omega
    · rename_i e hu
      split at h
      · split at h
        · rename_i k he
          split at h <;> cases h
          rename_i hc
          rcases DataW.trod_slice hu hx with ⟨rfl, rfl⟩ | ⟨a, len, cap, elems, rest, m, _, rfl, rfl, hb, hl, hm, hlen, hel, hsp, _⟩
          · refine ⟨[.isl true true k []], ?_, _, _, rfl, relNilI _ _, rfl⟩
            simp only [TS.fitsL]
            exact ⟨_, _, rfl, ⟨rfl, Nat.zero_le _, (fun _ h => by cases h), fun _ => rfl⟩, rfl⟩
          · obtain ⟨hr1, hr2⟩ := hsp rfl
            have each : ∀ i, i < len → ∃ m', w.cell? (a.add i) = some (.int k m') ∧ (Lit.int k m').wf = true := fun i hi => by
              have h1 := hel i hi
              rw [hc, Nat.mul_one, List.getElem?_eq_getElem (by omega), Option.bind_eq_some_iff] at h1
              obtain ⟨c1, g1, g2⟩ := h1
              obtain ⟨m', rfl, _, g3⟩ := DataW.trod_int he g2
              have := (cells?_get g1).2.2 0 _ rfl
              exact ⟨m', by simpa [Addr.add] using this, g3⟩
            obtain ⟨l, hl1, hl2⟩ := choose_list (R := fun i m' => w.cell? (a.add i) = some (.int k m') ∧ (Lit.int k m').wf = true) len each
            have hspot : 0 < cap → a.spot = none := fun hcap => by
              rcases Nat.eq_zero_or_pos len with h0 | h0
              · have h1 := hr2 0 (by omega)
                rw [hc, Nat.mul_one, List.getElem?_eq_getElem (by omega), Option.bind_eq_some_iff] at h1
                obtain ⟨c1, g1, g2⟩ := h1
                obtain ⟨g3, g4, g5⟩ := cells?_get g1
                obtain ⟨v, hv⟩ : ∃ v, c1[0]? = some v := ⟨_, List.getElem?_eq_getElem (by omega)⟩
                have := g5 0 v hv
                have e0 : ((a.add (len + 0)).add 0) = a := by rw [h0]; simp [Addr.add]
                rw [e0] at this
                exact (cell?_at this).1
              · obtain ⟨m', g1, _⟩ := each 0 h0
                have e0 : a.add 0 = a := by simp [Addr.add]
                rw [e0] at g1
                exact (cell?_at g1).1
            refine ⟨[.isl false (decide (cap = len)) k l], ?_, _, _, rfl, ⟨some a, cap, by rw [hl1], by omega, (fun e1 => by rw [hl1]; exact of_decide_eq_true e1), by simp, (fun e1 => by cases e1), fun ad e1 => ?_⟩, rfl⟩
            · simp only [TS.fitsL]
              refine ⟨_, _, rfl, ⟨rfl, by omega, fun m' hm' => ?_, fun e1 => by cases e1⟩, rfl⟩
              obtain ⟨i, hi⟩ := List.getElem?_of_mem hm'
              exact (hl2 i m' hi).2
            · cases e1
              refine ⟨hspot, fun j v hj => ?_⟩
              rw [List.getElem?_map, Option.map_eq_some_iff] at hj
              obtain ⟨m', hm', rfl⟩ := hj
              obtain ⟨_, c, ty, fz, g1, g2⟩ := cell?_at (hl2 j m' hm').1
              rw [(addr_add _ _).1] at g1
              rw [(addr_add _ _).2] at g2
              exact ⟨c, ty, fz, g1, g2⟩
        · rename_i hne
          split at h
          · rename_i ets hets
            split at h <;> cases h
            rename_i hc
            rcases DataW.trod_slice hu hx with ⟨rfl, rfl⟩ | ⟨a, len, cap, elems, rest, m, _, rfl, rfl, hb, hl, hm, hlen, hel, hsp, _⟩
            · refine ⟨[.sl true true (P.cellsOf e) []], ?_, _, _, rfl, relNilS _ _, rfl⟩
              simp only [TS.fitsL]
              exact ⟨_, _, rfl, ⟨rfl, Nat.zero_le _, (fun _ => rfl), (fun _ h => by cases h)⟩, rfl⟩
            · obtain ⟨hr1, hr2⟩ := hsp rfl
              have each : ∀ i, i < len → ∃ cs ys, w.cells? 0 (a.add (i * P.cellsOf e)) (P.cellsOf e) = some cs ∧ TS.fitsL ets ys ∧ PV.relL (full w) ys cs := fun i hi => by
                have h1 := hel i hi
                rw [List.getElem?_eq_getElem (by omega), Option.bind_eq_some_iff] at h1
                obtain ⟨c1, g1, g2⟩ := h1
                obtain ⟨ys, g3, g4⟩ := open_cells n e ets m c1 _ hets g2
                exact ⟨c1, ys, g1, g3, g4⟩
              have hspot : 0 < cap → a.spot = none := fun hcap => by
                have key : ∀ {x : Addr} {c1}, w.cells? 0 x (P.cellsOf e) = some c1 → x = a → a.spot = none := fun {x c1} g1 e0 => by
                  obtain ⟨g3, g4, g5⟩ := cells?_get g1
                  obtain ⟨v, hv⟩ : ∃ v, c1[0]? = some v := ⟨_, List.getElem?_eq_getElem (by omega)⟩
                  have := g5 0 v hv
                  rw [e0] at this
                  have e1 : a.add 0 = a := by simp [Addr.add]
                  rw [e1] at this
                  exact (cell?_at this).1
                rcases Nat.eq_zero_or_pos len with h0 | h0
                · have h1 := hr2 0 (by omega)
                  rw [List.getElem?_eq_getElem (by omega), Option.bind_eq_some_iff] at h1
                  obtain ⟨c1, g1, g2⟩ := h1
                  exact key g1 (by rw [h0]; simp [Addr.add])
                · obtain ⟨c1, ys, g1, _⟩ := each 0 h0
                  exact key g1 (by simp [Addr.add])
              obtain ⟨es, vs, g1, g2, g3, g4⟩ := rows_of (e := e) (cap := cap) (agg := isAggT P e) hc.2 hc.1 (fun h => by rw [← hc.1]; exact isAgg_of hets h) each
              refine ⟨[.sl false (decide (cap = len)) (P.cellsOf e) es], ?_, _, _, rfl, ⟨some a, cap, by rw [g1], by omega, (fun e1 => by rw [g1]; exact of_decide_eq_true e1), by simp, (fun e1 => by cases e1), vs, g2, fun ad e1 => ?_⟩, rfl⟩
              · simp only [TS.fitsL]
                exact ⟨_, _, rfl, ⟨rfl, by omega, (fun e1 => by cases e1), g4⟩, rfl⟩
              · cases e1
                exact ⟨hspot, g3⟩
          · cases h
      · cases h
    · rename_i fs hu
      obtain ⟨xs, m, _, _, hl, hlen, hf⟩ := DataW.trod_struct hu hx
      have := open_fields (open_cells n) 0 fs.toList (P.cellsOf t) ts m cs xs h hl (by simpa using hlen) (fun i f hi => hf i f (by simpa using hi))
      simpa using this
    · cases h
/-- An argument, as a persistent value. -/
def TopFits (agg : Bool) (ts : List TS) (x : PV) : Prop := ∃ ys, x = mkP agg ys ∧ TS.fitsL ts ys
theorem open_arg {n : Nat} {t : TypeId} {ts : List TS} {agg : Bool} (h : tyTS P n t = some ts) (ha : isAggT P t = agg) {r : Reach} {b0 : Nat} {v : Value} {d : DataW H} {ps : List MemPlace} (hval : Value.okWide P w r b0 t v)
    (hd : DataW.Trod enc P w 0 (fun _ => true) held t v d ps) : ∃ x : PV, TopFits agg ts x ∧ x.rel (full w) v := by
  obtain ⟨fuel, hf⟩ := hd
  obtain ⟨ys, h1, h2⟩ := open_cells n t ts fuel _ _ h hf
  subst ha
  have hk : isAggT P t = true ∨ isAggT P t = false := by cases isAggT P t <;> simp
  rcases hk with hk | hk
  · rw [hk]
    refine ⟨.agg ys, ⟨ys, rfl, h1⟩, ?_⟩
    unfold isAggT at hk
    have : ∃ cs, v = .agg cs := by
      unfold Value.okWide at hval
      split at hval
      · exact ⟨_, hval.choose_spec.1⟩
      · exact ⟨_, hval.choose_spec.1⟩
      · rename_i n1 n2
        split at hk
        · rename_i e; exact absurd e (n1 _)
        · rename_i e; exact absurd e (n2 _ _)
        · cases hk
    obtain ⟨cs, rfl⟩ := this
    exact ⟨cs.toList, by simp, h2⟩
  · rw [hk]
    have hlen := isAgg_of h hk
    have hl2 := TS.fitsL_length h1
    match ys, (by omega : ys.length = 1), h1, h2 with
    | [y], _, h1, h2 =>
      refine ⟨y, ⟨[y], rfl, h1⟩, ?_⟩
      obtain ⟨u, us, e1, h3, h4⟩ := h2
      have h4 : us = [] := h4
      subst h4
      have : v.cells.toList = [v] := by
        cases v <;> first | rfl | skip
        rename_i cs
        exfalso
        unfold Value.okWide at hval
        unfold isAggT at hk
        split at hval
        · rename_i e; rw [e] at hk; cases hk
        · rename_i e; rw [e] at hk; cases hk
        · unfold Cell.okWide at hval
          split at hval <;> first | (rename_i e _ ; cases e; done) | skip
          all_goals first
            | (rename_i e1 e2; cases e2; done)
            | (unfold Cell.ok at hval; split at hval <;> first | exact hval | (rename_i e2 e3; cases e3; done))
      rw [this] at e1
      cases e1
      exact h3
end
theorem TS.cons_inv {t : TS} {ts : List TS} {ys : List PV} (h : TS.fitsL (t :: ts) ys) : ∃ y ys', ys = y :: ys' ∧ t.fits y ∧ TS.fitsL ts ys' := by simpa only [TS.fitsL] using h
theorem TS.nil_inv {ys : List PV} (h : TS.fitsL [] ys) : ys = [] := by simpa only [TS.fitsL] using h
theorem fits_int {k : IntKind} {y : PV} (h : (TS.int k).fits y) : ∃ n, y = .int k n ∧ (Lit.int k n).wf = true := by
  cases y <;> simp only [TS.fits] at h
  obtain ⟨rfl, h⟩ := h; exact ⟨_, rfl, h⟩
theorem fits_bool {y : PV} (h : TS.bool.fits y) : ∃ b, y = .bool b := by
  cases y <;> simp only [TS.fits] at h
  exact ⟨_, rfl⟩
theorem fits_str {y : PV} (h : TS.str.fits y) : ∃ l, y = .str l ∧ l.length ≤ maxLen ∧ ∀ c ∈ l, 0 ≤ c ∧ c < 256 := by
  cases y <;> simp only [TS.fits] at h
  exact ⟨_, rfl, h⟩
theorem fits_isl {k : IntKind} {y : PV} (h : (TS.isl k).fits y) : ∃ nil ex l, y = .isl nil ex k l ∧ l.length ≤ maxLen ∧ (∀ n ∈ l, (Lit.int k n).wf = true) ∧ (nil = true → l = []) := by
  cases y <;> simp only [TS.fits] at h
  obtain ⟨rfl, h⟩ := h; exact ⟨_, _, _, rfl, h⟩
theorem fits_sl {agg : Bool} {w : Nat} {ts : List TS} {y : PV} (h : (TS.sl agg w ts).fits y) : ∃ nil ex es, y = .sl nil ex w es ∧ es.length ≤ maxLen ∧ (nil = true → es = []) ∧ ∀ e ∈ es, ∃ ys, e = mkP agg ys ∧ TS.fitsL ts ys := by
  cases y <;> simp only [TS.fits] at h
  obtain ⟨rfl, h⟩ := h; exact ⟨_, _, _, rfl, h⟩
theorem wf_i64 {n : Int} (h : (Lit.int .i64 n).wf = true) : -9223372036854775808 ≤ n ∧ n ≤ 9223372036854775807 := by
  simp only [Lit.wf, Bool.and_eq_true, decide_eq_true_eq] at h; exact h
theorem wf_u8 {n : Int} (h : (Lit.int .u8 n).wf = true) : 0 ≤ n ∧ n ≤ 255 := by
  simp only [Lit.wf, Bool.and_eq_true, decide_eq_true_eq] at h; exact h
end Go.Fx
