/-
  Fx, part 15: what a function computes, read off its plain form by evaluation: a tree of tests, calls and answers.
-/
import Derived.Test.YtlfffpkfipdboaaDoorFxY
set_option linter.unusedSimpArgs false
set_option linter.unusedVariables false
namespace Go.Fx
inductive Tree (β : Type) : Type 1 where
  | leaf (b : β)
  | fail
  | br (t : Bool) (x y : Tree β)
  | chk (p : Bool) (x : Tree β)
  | bind {τ : Type} (c : Option τ) (k : τ → Tree β)
  | sum {σ τ : Type} (r : σ ⊕ τ) (f : σ → Tree β) (g : τ → Tree β)
  | scall (g : FuncId) (as : List PV) (k : PV → Tree β)
  | stop (j : Nat) (S : St) (kn : St → Tree β) (ke : Exit → St → Tree β)
  | out (e : Option Exit) (S : St)
def Tree.run {β : Type} : Tree β → Option β
  | .leaf b => some b
  | .br t x y => bif t then x.run else y.run
  | .chk p x => bif p then x.run else none
  | .bind c k => c.bind fun r => (k r).run
  | .sum r f g => Sum.elim (fun a => (f a).run) (fun b => (g b).run) r
  | .fail | .scall .. | .stop .. | .out .. => none
theorem Tree.run_chk {β : Type} {p : Bool} {x : Tree β} {b : β} : (Tree.chk p x).run = some b ↔ p = true ∧ x.run = some b := by
  cases p <;> simp [Tree.run]
theorem Tree.run_fail {β : Type} {b : β} : (Tree.fail : Tree β).run = some b ↔ False := by simp [Tree.run]
theorem Tree.run_br {β : Type} {t : Bool} {x y : Tree β} {b : β} : (Tree.br t x y).run = some b ↔ (t = true ∧ x.run = some b) ∨ (t = false ∧ y.run = some b) := by
  cases t <;> simp [Tree.run]
theorem Tree.run_bind {β τ : Type} {c : Option τ} {k : τ → Tree β} {b : β} : (Tree.bind c k).run = some b ↔ ∃ r, c = some r ∧ (k r).run = some b := by
  cases c <;> simp [Tree.run]
theorem Tree.run_sum {β σ τ : Type} {r : σ ⊕ τ} {f : σ → Tree β} {g : τ → Tree β} {b : β} : (Tree.sum r f g).run = some b ↔ (∃ x, r = .inl x ∧ (f x).run = some b) ∨ (∃ x, r = .inr x ∧ (g x).run = some b) := by
  cases r <;> simp [Tree.run]
def forceL {α : Type} {γ : Type 1} : List α → (List α → γ) → γ
  | [], K => K []
  | x :: xs, K => forceL xs fun ys => K (x :: ys)
theorem forceL_eq {α : Type} {γ : Type 1} : ∀ (l : List α) (K : List α → γ), forceL l K = K l
  | [], K => rfl
  | x :: xs, K => by rw [forceL, forceL_eq xs]
def SV.fz {γ : Type 1} (x : SV) (K : SV → γ) : γ :=
  match x with
  | .p y => K (.p y)
  | .row a => K (.row a)
  | .ptr a b => K (.ptr a b)
  | .rptr a b c d => K (.rptr a b c d)
  | .mp a => K (.mp a)
  | .agg a => K (.agg a)
  | .tup a => K (.tup a)
  | .fn a b => K (.fn a b)
  | .cnd a b => K (.cnd a b)
  | .any => K .any
theorem SV.fz_eq {γ : Type 1} (x : SV) (K : SV → γ) : x.fz K = K x := by cases x <;> rfl
section
variable {β : Type}
/-- An element of a slice of structs: all of it, or a part. -/
def eltT (agg : Bool) (n w o : Nat) (x : PV) (K : PV → Tree β) : Tree β :=
  match agg with
  | true => match n == w && o == 0 with
    | true => .chk (decide (x.cells.length = w)) (K (.agg x.cells))
    | false => K (.agg ((x.cells.drop o).take n))
  | false => match w == 1 && o == 0 with
    | true => .chk x.scal (K x)
    | false => K (x.cells.getD o .nilSl)
theorem PV.scal_cells {x : PV} (h : x.scal = true) : x.cells = [x] := by cases x <;> first | rfl | (cases h)
theorem eltT_sound {agg : Bool} {n w o : Nat} {x : PV} {K : PV → Tree β} {b : β} (h : (eltT agg n w o x K).run = some b) :
    (K (if agg then .agg ((x.cells.drop o).take n) else x.cells.getD o .nilSl)).run = some b := by
  unfold eltT at h
  split at h
  · split at h
    · rename_i hc
      rw [Tree.run_chk] at h
      simp only [Bool.and_eq_true, beq_iff_eq] at hc
      obtain ⟨rfl, rfl⟩ := hc
      obtain ⟨h1, h2⟩ := h
      have h1 := of_decide_eq_true h1
      rw [if_pos rfl, List.drop_zero, List.take_of_length_le (by omega)]
      exact h2
    · rw [if_pos rfl]; exact h
  · split at h
    · rename_i hc
      rw [Tree.run_chk] at h
      simp only [Bool.and_eq_true, beq_iff_eq] at hc
      obtain ⟨rfl, rfl⟩ := hc
      rw [if_neg (by simp), PV.scal_cells h.1]
      exact h.2
    · rw [if_neg (by simp)]; exact h
def PV.ldT (agg : Bool) (n : Nat) (x : PV) (K : PV → Tree β) : Tree β :=
  match x with
  | .iref k l i => .chk (!agg) (.chk (decide (i < l.length)) (K (.int k (l.getD i 0))))
  | .elt w es i o => .chk (decide (o + n ≤ w)) (.chk (decide (i < es.length)) (eltT agg n w o (es.getD i .nilSl) K))
  | .ref off cs => .chk (decide (off + n ≤ cs.length)) (match agg with
    | true => forceL ((cs.drop off).take n) fun l => K (.agg l)
    | false => K (cs.getD off .nilSl))
  | _ => .fail
theorem PV.ldT_sound {agg : Bool} {n : Nat} {x : PV} {K : PV → Tree β} {b : β} (h : (x.ldT agg n K).run = some b) : (x.ld agg n).1 ∧ (K (x.ld agg n).2).run = some b := by
  unfold PV.ldT at h
  split at h
  · simp only [Tree.run_chk, decide_eq_true_eq, Bool.not_eq_true'] at h
    exact ⟨⟨h.1, h.2.1⟩, h.2.2⟩
  · simp only [Tree.run_chk, decide_eq_true_eq] at h
    exact ⟨⟨h.2.1, h.1⟩, eltT_sound h.2.2⟩
  · simp only [Tree.run_chk, decide_eq_true_eq] at h
    refine ⟨h.1, ?_⟩
    have := h.2
    cases agg <;> simp only [forceL_eq] at this <;> exact this
  · simp [Tree.run_fail] at h
def ldT (own : List OB) (agg : Bool) (n : Nat) (x : SV) (K : SV → Tree β) : Tree β :=
  match x with
  | .p x => x.ldT agg n fun y => K (.p y)
  | .ptr id off => match own.getD id .gone with
    | .box _ cs => .chk (decide (off + n ≤ cs.length)) (match agg with
      | true => forceL ((cs.drop off).take n) fun l => (aggS l).fz K
      | false => (cs.getD off .any).fz K)
    | _ => .fail
  | .rptr id w i o => match own.getD id .gone with
    | .irow _ k _ _ l => .chk (!agg && (w == 1 && o == 0)) (.chk (decide (i < l.length)) (K (.p (.int k (l.getD i 0)))))
    | .row _ w' _ _ es => .chk (decide (w = w' ∧ o + n ≤ w)) (.chk (decide (i < es.length)) (eltT agg n w o (es.getD i .nilSl) fun y => K (.p y)))
    | _ => .fail
  | _ => .fail
theorem ldT_sound {own : List OB} {agg : Bool} {n : Nat} {x : SV} {K : SV → Tree β} {b : β} (h : (ldT own agg n x K).run = some b) : (x.ld own agg n).1 ∧ (K (x.ld own agg n).2).run = some b := by
  unfold ldT at h
  split at h
  · exact PV.ldT_sound h
  · split at h
    · rename_i id off _ ty cs e1
      simp only [Tree.run_chk, decide_eq_true_eq] at h
      simp only [SV.ld, e1]
      refine ⟨h.1, ?_⟩
      have := h.2
      cases agg <;> simp only [forceL_eq, SV.fz_eq] at this <;> exact this
    · simp [Tree.run_fail] at h
  · split at h
    · rename_i id w i o _ ty k nil ex l e1
      simp only [Tree.run_chk, decide_eq_true_eq, Bool.and_eq_true, Bool.not_eq_true', beq_iff_eq] at h
      simp only [SV.ld, e1]
      exact ⟨⟨h.1.1, h.1.2.1, h.1.2.2, h.2.1⟩, h.2.2⟩
    · rename_i id w i o _ ty w' nil ex es e1
      simp only [Tree.run_chk, decide_eq_true_eq] at h
      simp only [SV.ld, e1]
      exact ⟨⟨h.1.1, h.2.1, h.1.2⟩, eltT_sound (K := fun y => K (.p y)) h.2.2⟩
    · simp [Tree.run_fail] at h
  · simp [Tree.run_fail] at h
def binT (op : BinOp) (k : IntKind) (a : Int) (k' : IntKind) (b : Int) (K : PV → Tree β) : Tree β :=
  match op with
  | .shl => .chk (decide (0 ≤ b)) (K (.int k (k.wrap (a * 2 ^ (min b.toNat k.bits)))))
  | .shr => .chk (decide (0 ≤ b)) (K (.int k (a / 2 ^ (min b.toNat k.bits))))
  | .add => .chk (decide (k = k')) (K (.int k (k.wrap (a + b))))
  | .sub => .chk (decide (k = k')) (K (.int k (k.wrap (a - b))))
  | .mul => .chk (decide (k = k')) (K (.int k (k.wrap (a * b))))
  | .quo => .chk (decide (k = k')) (.chk (decide (b ≠ 0)) (K (.int k (k.wrap (a.tdiv b)))))
  | .rem => .chk (decide (k = k')) (.chk (decide (b ≠ 0)) (K (.int k (a.tmod b))))
  | .and => .chk (decide (k = k')) (K (.int k (k.wrap (bAnd k a b))))
  | .or => .chk (decide (k = k')) (K (.int k (k.wrap (bOr k a b))))
  | .xor => .chk (decide (k = k')) (K (.int k (k.wrap (bXor k a b))))
  | .andNot => .chk (decide (k = k')) (K (.int k (k.wrap (bAndNot k a b))))
  | .eql => .chk (decide (k = k')) (K (.bool (a == b)))
  | .neq => .chk (decide (k = k')) (K (.bool (a != b)))
  | .lss => .chk (decide (k = k')) (K (.bool (a < b)))
  | .leq => .chk (decide (k = k')) (K (.bool (a ≤ b)))
  | .gtr => .chk (decide (k = k')) (K (.bool (a > b)))
  | .geq => .chk (decide (k = k')) (K (.bool (a ≥ b)))
def slcB (len : Nat) (q : Option (Int × Int × Option Int)) (K : Int → Int → Option Int → Tree β) : Tree β :=
  match q with
  | some (a, b, none) => .chk (decide (0 ≤ a)) (.chk (decide (a ≤ b)) (.chk (decide (b ≤ len)) (K a b none)))
  | some (a, b, some m) => .chk (decide (0 ≤ a)) (.chk (decide (a ≤ b)) (.chk (decide (b ≤ m)) (.chk (decide (m ≤ len)) (K a b (some m)))))
  | none => .fail
theorem slcB_sound {len : Nat} {q : Option (Int × Int × Option Int)} {K : Int → Int → Option Int → Tree β} {b : β} (h : (slcB len q K).run = some b) :
    ∃ l r m, q = some (l, r, m) ∧ slcOk len q ∧ (K l r m).run = some b := by
  unfold slcB at h
  split at h
  · simp only [Tree.run_chk, decide_eq_true_eq] at h
    exact ⟨_, _, _, rfl, ⟨h.1, h.2.1, h.2.2.1⟩, h.2.2.2⟩
  · simp only [Tree.run_chk, decide_eq_true_eq] at h
    exact ⟨_, _, _, rfl, ⟨h.1, h.2.1, h.2.2.1, h.2.2.2.1⟩, h.2.2.2.2⟩
  · simp [Tree.run_fail] at h
def slcX (ex hi : Bool) (r : Int) : Option Int → Bool
  | some m => r == m
  | none => if hi then false else ex
/-- An index that is open: each place by itself. -/
def idxT (n : Nat) : Nat → Nat → (Nat → Tree β) → Tree β
  | 0, _, _ => .fail
  | m + 1, i, K => .br (n == i) (K i) (idxT n m (i + 1) K)
theorem idxT_sound {n : Nat} {K : Nat → Tree β} {b : β} : ∀ {m i : Nat}, (idxT n m i K).run = some b → (K n).run = some b
  | 0, i, h => (Tree.run_fail.1 h).elim
  | m + 1, i, h => by
    rw [idxT, Tree.run_br] at h
    rcases h with ⟨e, h⟩ | ⟨_, h⟩
    · have e : n = i := by simpa using e
      subst e; exact h
    · exact idxT_sound h
def pevT (own : List OB) (e : Opd → SV) (io : Ins) (K : SV → Tree β) : Tree β :=
  match io with
  | .mv x => (e x).fz K
  | .ld agg n a => ldT own agg n (e a) K
  | .bin op x y => match e x, e y with
    | .p (.int k a), .p (.int k' b) => binT op k a k' b fun v => K (.p v)
    | _, _ => .fail
  | .binB neg x y => match e x, e y with
    | .p (.bool a), .p (.bool b) => (match neg with
      | true => K (.p (.bool (!(a == b))))
      | false => K (.p (.bool (a == b))))
    | _, _ => .fail
  | .binS op x y => match e x, e y with
    | .p (.str a), .p (.str b) => match op with
      | .add => .chk (decide (a.length + b.length ≤ 4611686018427387904)) (K (.p (.str (a ++ b))))
      | .eql => K (.p (.bool (a == b)))
      | .neq => K (.p (.bool (!(a == b))))
      | _ => .fail
    | _, _ => .fail
  | .eqNil neg x y => match (e x).isSl own, (e y).isSl own with
    | some a, some b => .chk (a || b) (match neg with
      | true => K (.p (.bool (!(a == b))))
      | false => K (.p (.bool (a == b))))
    | _, _ => .fail
  | .eqAgg neg ks x y => match (e x).pvS own, (e y).pvS own with
    | some (.agg a), some (.agg b) => match eqCells ks a b with
      | some r => (match neg with
        | true => K (.p (.bool (!r)))
        | false => K (.p (.bool r)))
      | none => .fail
    | _, _ => .fail
  | .eqNilF neg x y => match (e x).fnNil, e y with
    | some a, .p .nilFn => (match neg with
      | true => K (.p (.bool (!a)))
      | false => K (.p (.bool a)))
    | _, _ => .fail
  | .build z ps => match fillL (z.map .p) (ps.map fun q => (q.1, q.2.1, e q.2.2)) with
    | some cs => forceL cs fun cs => (aggS cs).fz K
    | none => .fail
  | .un op x => match op, e x with
    | .neg, .p (.int k a) => K (.p (.int k (k.wrap (0 - a))))
    | .not, .p (.bool b) => K (.p (.bool !b))
    | .xor, .p (.int k a) => K (.p (.int k (k.wrap (bXor k (if k.signed then -1 else k.max) a))))
    | _, _ => .fail
  | .cvtI k x => match e x with
    | .p (.int _ a) => K (.p (.int k (k.wrap a)))
    | _ => .fail
  | .cvtBS x => match (e x).see own with
    | some (.isl _ _ .u8 l) => .chk (l.all fun n => decide (0 ≤ n ∧ n < 256)) (K (.p (.str l)))
    | _ => .fail
  | .mkFn f caps => match caps with
    | [] => K (.p (.fn f []))
    | c :: cs => forceL ((c :: cs).map e) fun l => K (.fn f l)
  | .fldA off x => match e x with
    | .ptr id o => K (.ptr id (o + off))
    | .p (.ref o cs) => K (.p (.ref (o + off) cs))
    | .p (.elt w es i o) => K (.p (.elt w es i (o + off)))
    | .rptr id w i o => K (.rptr id w i (o + off))
    | _ => .fail
  | .fld agg off n x => match e x with
    | .agg cs => .chk (decide (off + n ≤ cs.length)) (match agg with
      | true => forceL ((cs.drop off).take n) fun l => K (.agg l)
      | false => (cs.getD off .any).fz K)
    | .p (.agg cs) => .chk (decide (off + n ≤ cs.length)) (match agg with
      | true => forceL ((cs.drop off).take n) fun l => K (.p (.agg l))
      | false => K (.p (cs.getD off .nilSl)))
    | _ => .fail
  | .ixA w x i => match e x, e i with
    | .p (.isl _ _ k l), .p (.int _ n) => .chk (w == 1) (.chk (decide (0 ≤ n)) (.chk (decide (n < l.length)) (K (.p (.iref k l n.toNat)))))
    | .p (.sl _ _ w' es), .p (.int _ n) => .chk (w == w') (.chk (decide (0 ≤ n)) (.chk (decide (n < es.length)) (K (.p (.elt w es n.toNat 0)))))
    | .row id, .p (.int _ n) => match own.getD id .gone with
      | .irow _ _ _ _ l => .chk (w == 1) (.chk (decide (0 ≤ n)) (.chk (decide (n < l.length)) (K (.rptr id 1 n.toNat 0))))
      | .row _ w' _ _ es => .chk (w == w') (.chk (decide (0 ≤ n)) (.chk (decide (n < es.length)) (K (.rptr id w n.toNat 0))))
      | _ => .fail
    | _, _ => .fail
  | .ixArr w len x i => match e x, e i with
    | .p (.iref k l j), .p (.int _ n) => .chk (w == 1) (.chk (decide (0 ≤ n)) (.chk (decide (n < len)) (K (.p (.iref k l (j + n.toNat))))))
    | .p (.ref o cs), .p (.int _ n) => .chk (decide (0 ≤ n)) (.chk (decide (n < len)) (idxT n.toNat len 0 fun i => K (.p (.ref (o + i * w) cs))))
    | .ptr id o, .p (.int _ n) => .chk (decide (0 ≤ n)) (.chk (decide (n < len)) (idxT n.toNat len 0 fun i => K (.ptr id (o + i * w))))
    | _, _ => .fail
  | .ixV agg w len x i => match e x, e i with
    | .agg cs, .p (.int _ n) => .chk (decide (len * w = cs.length)) (.chk (decide (0 ≤ n)) (.chk (decide (n < len)) (idxT n.toNat len 0 fun i => match agg with
      | true => forceL ((cs.drop (i * w)).take w) fun l => K (.agg l)
      | false => (cs.getD i .any).fz K)))
    | .p (.agg cs), .p (.int _ n) => .chk (decide (len * w = cs.length)) (.chk (decide (0 ≤ n)) (.chk (decide (n < len)) (idxT n.toNat len 0 fun i => match agg with
      | true => forceL ((cs.drop (i * w)).take w) fun l => K (.p (.agg l))
      | false => K (.p (cs.getD i .nilSl)))))
    | _, _ => .fail
  | .ixS x i => match e x, e i with
    | .p (.str l), .p (.int _ n) => .chk (decide (0 ≤ n)) (.chk (decide (n < l.length)) (K (.p (.int .u8 (l.getD n.toNat 0)))))
    | _, _ => .fail
  | .slc w x lo hi mx => match e x with
    | .p (.isl nil ex k l) => .chk (w == 1) (slcB l.length (bnds l.length (lo.map fun o => (e o).num) (hi.map fun o => (e o).num) (mx.map fun o => (e o).num)) fun a b m =>
        K (.p (.isl nil (slcX ex hi.isSome b m) k ((l.drop a.toNat).take (b - a).toNat))))
    | .p (.sl nil ex w' es) => .chk (w == w') (slcB es.length (bnds es.length (lo.map fun o => (e o).num) (hi.map fun o => (e o).num) (mx.map fun o => (e o).num)) fun a b m =>
        K (.p (.sl nil (slcX ex hi.isSome b m) w' ((es.drop a.toNat).take (b - a).toNat))))
    | _ => .fail
  | .slcS x lo hi => match e x with
    | .p (.str l) => slcB l.length (bnds l.length (lo.map fun o => (e o).num) (hi.map fun o => (e o).num) none) fun a b _ => K (.p (.str ((l.drop a.toNat).take (b - a).toNat)))
    | _ => .fail
  | .len x => match e x with
    | .p (.isl _ _ _ l) => K (.p (.int .i64 l.length))
    | .p (.sl _ _ _ es) => K (.p (.int .i64 es.length))
    | .p .nilSl => K (.p (.int .i64 0))
    | .row id => match own.getD id .gone with
      | .irow _ _ _ _ l => K (.p (.int .i64 l.length))
      | .row _ _ _ _ es => K (.p (.int .i64 es.length))
      | _ => .fail
    | _ => .fail
  | .lenS x => match e x with
    | .p (.str l) => K (.p (.int .i64 l.length))
    | _ => .fail
  | .cvtSS x => match e x with
    | .p (.str l) => K (.p (.str l))
    | _ => .fail
  | .eqNilI neg x => match e x with
    | .p .nilIface => (match neg with
      | true => K (.p (.bool false))
      | false => K (.p (.bool true)))
    | .p (.ifc _ _) => (match neg with
      | true => K (.p (.bool true))
      | false => K (.p (.bool false)))
    | _ => .fail
  | .cvtRS x => match e x with
    | .p (.int _ n) => K (.p (.str (signB n)))
    | _ => .fail
  | .lenC n => K (.p (.int .i64 n))
  | .ext x i => match e x with
    | .p (.tup vs) => .chk (decide (i < vs.length)) (K (.p (vs.getD i .nilSl)))
    | .tup vs => .chk (decide (i < vs.length)) ((vs.getD i .any).fz K)
    | _ => .fail
  | .maxs args => match maxL (args.map e) with
    | some (k, n) => K (.p (.int k n))
    | none => .fail
  | .mins args => match minL (args.map e) with
    | some (k, n) => K (.p (.int k n))
    | none => .fail
  | .nilchk x => match (e x).isNil own with
    | some c => .chk (!c) ((e x).fz K)
    | _ => .fail
  | .mkI t x => match e x with
    | .p y => K (.p (.ifc t y))
    | _ => .fail
  | _ => .fail
theorem pevT_sound {own : List OB} {e : Opd → SV} {io : Ins} {K : SV → Tree β} {b : β} (h : (pevT own e io K).run = some b) : (pev own e io).1 ∧ (K (pev own e io).2).run = some b := by
  cases io <;> simp only [pevT] at h <;> first | (exact (Tree.run_fail.1 h).elim) | skip
  case mv x => rw [SV.fz_eq] at h; exact ⟨trivial, h⟩
  case ld agg n a => exact ldT_sound h
  case bin op x y =>
    split at h
    · rename_i e1 e2
      simp only [pev, e1, e2]
      unfold binT at h
      split at h <;> simp only [Tree.run_chk, decide_eq_true_eq] at h <;> first | exact ⟨h.1, h.2⟩ | exact ⟨⟨h.1, trivial⟩, h.2⟩ | exact ⟨⟨h.1, h.2.1⟩, h.2.2⟩
    · exact (Tree.run_fail.1 h).elim
  case binB neg x y =>
    split at h
    · rename_i e1 e2
      simp only [pev, e1, e2]
      cases neg <;> exact ⟨trivial, h⟩
    · exact (Tree.run_fail.1 h).elim
  case binS op x y =>
    split at h
    · rename_i e1 e2
      simp only [pev, e1, e2]
      split at h <;> try simp only [Tree.run_chk, decide_eq_true_eq, Tree.run_fail] at h
      · exact ⟨h.1, h.2⟩
      · exact ⟨trivial, h⟩
      · exact ⟨trivial, h⟩
    · exact (Tree.run_fail.1 h).elim
  case eqNil neg x y =>
    split at h
    · rename_i e1 e2
      simp only [pev, e1, e2]
      simp only [Tree.run_chk, Bool.or_eq_true] at h
      cases neg <;> exact h
    · exact (Tree.run_fail.1 h).elim
  case eqAgg neg ks x y =>
    split at h
    · rename_i e1 e2
      simp only [pev, e1, e2]
      split at h
      · rename_i e3
        simp only [e3]
        cases neg <;> exact ⟨trivial, h⟩
      · exact (Tree.run_fail.1 h).elim
    · exact (Tree.run_fail.1 h).elim
  case eqNilF neg x y =>
    split at h
    · rename_i e1 e2
      simp only [pev, e1, e2]
      cases neg <;> exact ⟨trivial, h⟩
    · exact (Tree.run_fail.1 h).elim
  case build z ps =>
    split at h
    · rename_i e1
      simp only [pev, e1]
      rw [forceL_eq, SV.fz_eq] at h
      exact ⟨trivial, h⟩
    · exact (Tree.run_fail.1 h).elim
  case un op x =>
    split at h
    · rename_i e1
      simp only [pev, e1]
      exact ⟨trivial, h⟩
    · rename_i e1
      simp only [pev, e1]
      exact ⟨trivial, h⟩
    · rename_i e1
      simp only [pev, e1]
      exact ⟨trivial, h⟩
    · exact (Tree.run_fail.1 h).elim
  case cvtI k x =>
    split at h
    · rename_i e1
      simp only [pev, e1]
      exact ⟨trivial, h⟩
    · exact (Tree.run_fail.1 h).elim
  case cvtBS x =>
    split at h
    · rename_i e1
      simp only [Tree.run_chk, List.all_eq_true, decide_eq_true_eq] at h
      simp only [pev, e1]
      exact h
    · exact (Tree.run_fail.1 h).elim
  case mkFn f caps =>
    split at h
    · exact ⟨trivial, h⟩
    · rw [forceL_eq] at h; exact ⟨trivial, h⟩
  case fldA off x =>
    split at h <;> first | (exact (Tree.run_fail.1 h).elim) | (rename_i e1; simp only [pev, e1]; exact ⟨trivial, h⟩)
  case fld agg off n x =>
    split at h
    · rename_i e1
      simp only [Tree.run_chk, decide_eq_true_eq] at h
      simp only [pev, e1]
      refine ⟨h.1, ?_⟩
      have := h.2
      cases agg <;> simp only [forceL_eq, SV.fz_eq] at this <;> exact this
    · rename_i e1
      simp only [Tree.run_chk, decide_eq_true_eq] at h
      simp only [pev, e1]
      refine ⟨h.1, ?_⟩
      have := h.2
      cases agg <;> simp only [forceL_eq] at this <;> exact this
    · exact (Tree.run_fail.1 h).elim
  case ixA w x i =>
    split at h
    · rename_i e1 e2
      simp only [Tree.run_chk, decide_eq_true_eq, beq_iff_eq] at h
      simp only [pev, e1, e2]
      exact ⟨⟨h.1, h.2.1, h.2.2.1⟩, h.2.2.2⟩
    · rename_i e1 e2
      simp only [Tree.run_chk, decide_eq_true_eq, beq_iff_eq] at h
      simp only [pev, e1, e2]
      exact ⟨⟨h.1, h.2.1, h.2.2.1⟩, h.2.2.2⟩
    · rename_i e1 e2
      split at h
      · rename_i e3
        simp only [Tree.run_chk, decide_eq_true_eq, beq_iff_eq] at h
        simp only [pev, e1, e2, e3]
        exact ⟨⟨h.1, h.2.1, h.2.2.1⟩, h.2.2.2⟩
      · rename_i e3
        simp only [Tree.run_chk, decide_eq_true_eq, beq_iff_eq] at h
        simp only [pev, e1, e2, e3]
        exact ⟨⟨h.1, h.2.1, h.2.2.1⟩, h.2.2.2⟩
      · exact (Tree.run_fail.1 h).elim
    · exact (Tree.run_fail.1 h).elim
  case ixArr w len x i =>
    split at h
    · rename_i e1 e2
      simp only [Tree.run_chk, decide_eq_true_eq, beq_iff_eq] at h
      simp only [pev, e1, e2]
      exact ⟨⟨h.1, h.2.1, h.2.2.1⟩, h.2.2.2⟩
    · rename_i e1 e2
      simp only [Tree.run_chk, decide_eq_true_eq, beq_iff_eq] at h
      simp only [pev, e1, e2]
      exact ⟨⟨h.1, h.2.1⟩, idxT_sound h.2.2⟩
    · rename_i e1 e2
      simp only [Tree.run_chk, decide_eq_true_eq, beq_iff_eq] at h
      simp only [pev, e1, e2]
      exact ⟨⟨h.1, h.2.1⟩, idxT_sound h.2.2⟩
    · exact (Tree.run_fail.1 h).elim
  case ixV agg w len x i =>
    split at h
    · rename_i e1 e2
      simp only [Tree.run_chk, decide_eq_true_eq] at h
      simp only [pev, e1, e2]
      refine ⟨⟨h.2.1, h.2.2.1, h.1⟩, ?_⟩
      have := idxT_sound h.2.2.2
      cases agg <;> simp only [forceL_eq, SV.fz_eq] at this <;> exact this
    · rename_i e1 e2
      simp only [Tree.run_chk, decide_eq_true_eq] at h
      simp only [pev, e1, e2]
      refine ⟨⟨h.2.1, h.2.2.1, h.1⟩, ?_⟩
      have := idxT_sound h.2.2.2
      cases agg <;> simp only [forceL_eq] at this <;> exact this
    · exact (Tree.run_fail.1 h).elim
  case ixS x i =>
    split at h
    · rename_i e1 e2
      simp only [Tree.run_chk, decide_eq_true_eq] at h
      simp only [pev, e1, e2]
      exact ⟨⟨h.1, h.2.1⟩, h.2.2⟩
    · exact (Tree.run_fail.1 h).elim
  case slc w x lo hi mx =>
    split at h
    · rename_i e1
      simp only [Tree.run_chk, beq_iff_eq] at h
      obtain ⟨h1, h2⟩ := h
      obtain ⟨l, r, m, e2, h3, h4⟩ := slcB_sound h2
      simp only [pev, e1]
      rw [e2] at h3 ⊢
      refine ⟨⟨h1, h3⟩, ?_⟩
      cases m <;> exact h4
    · rename_i e1
      simp only [Tree.run_chk, beq_iff_eq] at h
      obtain ⟨h1, h2⟩ := h
      obtain ⟨l, r, m, e2, h3, h4⟩ := slcB_sound h2
      simp only [pev, e1]
      rw [e2] at h3 ⊢
      refine ⟨⟨h1, h3⟩, ?_⟩
      cases m <;> exact h4
    · exact (Tree.run_fail.1 h).elim
  case slcS x lo hi =>
    split at h
    · rename_i e1
      obtain ⟨l, r, m, e2, h3, h4⟩ := slcB_sound h
      simp only [pev, e1]
      rw [e2] at h3 ⊢
      exact ⟨h3, h4⟩
    · exact (Tree.run_fail.1 h).elim
  case len x =>
    split at h
    · rename_i e1; simp only [pev, e1]; exact ⟨trivial, h⟩
    · rename_i e1; simp only [pev, e1]; exact ⟨trivial, h⟩
    · rename_i e1; simp only [pev, e1]; exact ⟨trivial, h⟩
    · rename_i e1
      split at h
      · rename_i e2; simp only [pev, e1, e2]; exact ⟨trivial, h⟩
      · rename_i e2; simp only [pev, e1, e2]; exact ⟨trivial, h⟩
      · exact (Tree.run_fail.1 h).elim
    · exact (Tree.run_fail.1 h).elim
  case lenS x =>
    split at h
    · rename_i e1; simp only [pev, e1]; exact ⟨trivial, h⟩
    · exact (Tree.run_fail.1 h).elim
  case cvtSS x =>
    split at h
    · rename_i e1; simp only [pev, e1]; exact ⟨trivial, h⟩
    · exact (Tree.run_fail.1 h).elim
  case eqNilI neg x =>
    split at h
    · rename_i e1
      simp only [pev, e1]
      cases neg <;> exact ⟨trivial, h⟩
    · rename_i e1
      simp only [pev, e1]
      cases neg <;> exact ⟨trivial, h⟩
    · exact (Tree.run_fail.1 h).elim
  case cvtRS x =>
    split at h
    · rename_i e1
      simp only [pev, e1]; exact ⟨trivial, h⟩
    · exact (Tree.run_fail.1 h).elim
  case lenC n => exact ⟨trivial, h⟩
  case ext x i =>
    split at h
    · rename_i e1
      simp only [Tree.run_chk, decide_eq_true_eq] at h
      simp only [pev, e1]; exact h
    · rename_i e1
      simp only [Tree.run_chk, decide_eq_true_eq, SV.fz_eq] at h
      simp only [pev, e1]; exact h
    · exact (Tree.run_fail.1 h).elim
  case maxs args =>
    split at h
    · rename_i e1; simp only [pev, e1]; exact ⟨trivial, h⟩
    · exact (Tree.run_fail.1 h).elim
  case mins args =>
    split at h
    · rename_i e1; simp only [pev, e1]; exact ⟨trivial, h⟩
    · exact (Tree.run_fail.1 h).elim
  case nilchk x =>
    split at h
    · rename_i c e1
      simp only [Tree.run_chk, Bool.not_eq_true', SV.fz_eq] at h
      obtain ⟨rfl, h⟩ := h
      simp only [pev, e1]; exact ⟨trivial, h⟩
    · exact (Tree.run_fail.1 h).elim
  case mkI t x =>
    split at h
    · rename_i e1; simp only [pev, e1]; exact ⟨trivial, h⟩
    · exact (Tree.run_fail.1 h).elim
end
end Go.Fx
