/-
  Fx, part 17: operations, regions, code: the walk as a program, and that it is right.
-/
import Derived.Test.YtlfffpkfipdboaaDoorFxShp
set_option linter.unusedSimpArgs false
set_option linter.unusedVariables false
namespace Go.Fx
abbrev Gam := (β : Type) → FuncId → List PV → (PV → Tree β) → Tree β
/-- What is told of callees is right. -/
def GamOk (P : Program) (G : Glob) (Γ : Gam) : Prop := ∀ {β : Type} (g : FuncId) (as : List PV) (k : PV → Tree β) (b : β), (Γ β g as k).run = some b → ∃ r, FunX P G g as r ∧ (k r).run = some b
/-- The tree, walked. -/
def FT.tree {β : Type} (Γ : Gam) (K : SV → List OB → Tree β) : FT → Tree β
  | .no => .fail
  | .ok x own => x.fz fun x => K x own
  | .chk b t => .chk b (t.tree Γ K)
  | .br b t f => .br b (t.tree Γ K) (f.tree Γ K)
  | .call g as k => Γ β g as fun r => (k r).tree Γ K
theorem FT.tree_sound {P : Program} {G : Glob} {Γ : Gam} (hΓ : GamOk P G Γ) {β : Type} {b : β} {p : List OB → Prop} {K : SV → List OB → Tree β} {Kp : SV → List OB → Prop} (hk : ∀ x o, (K x o).run = some b → p o → Kp x o) :
    ∀ {t : FT}, t.all p → (t.tree Γ K).run = some b → t.holds P G Kp := by
  intro t
  induction t with
  | no => exact fun _ h => (Tree.run_fail.1 h).elim
  | ok x own => exact fun hp h => hk _ _ (by simp only [FT.tree, SV.fz_eq] at h; exact h) hp
  | chk b t ih => exact fun hp h => (by simp only [FT.tree, Tree.run_chk] at h; exact ⟨h.1, ih hp h.2⟩)
  | br b t f iht ihf =>
    intro hp h
    simp only [FT.tree, Tree.run_br] at h
    rcases h with ⟨rfl, h⟩ | ⟨rfl, h⟩
    · exact ⟨fun _ => iht hp.1 h, fun e => by cases e⟩
    · exact ⟨(fun e => by cases e), fun _ => ihf hp.2 h⟩
  | call g as k ih =>
    intro hp h
    obtain ⟨r, h1, h2⟩ := hΓ _ _ _ _ h
    exact ⟨r, h1, ih r (hp r) h2⟩
theorem FT.all_any {p : List OB → Prop} (hp : ∀ o, p o) : ∀ t : FT, t.all p := by
  intro t
  induction t with
  | no => trivial
  | ok x own => exact hp _
  | chk b t ih => exact ih
  | br b t f iht ihf => exact ⟨iht, ihf⟩
  | call g as k ih => exact ih
theorem fxT_kind {own : List OB} {e : Opd → SV} {dr : Nat} : ∀ {o : FX}, (fxT own e o).all (okD dr o.kind own) := by
  intro o
  have any2 : ∀ t : FT, t.all (okD dr 2 own) := FT.all_any fun _ => okD_any
  cases o
  case mkR elem w bytes z x =>
    simp only [fxT, FX.kind]
    split
    · exact okD_grow rfl
    · trivial
  case rngS x =>
    simp only [fxT, FX.kind]
    split
    · exact okD_grow rfl
    · trivial
  case callM f as =>
    simp only [fxT, FX.kind]
    split
    · intro r
      dsimp only
      split
      · split
        · exact okD_grow rfl
        · trivial
      · trivial
    · trivial
  all_goals exact any2 _
section
variable {β : Type}
def appIT (own : List OB) (elem : TypeId) (k : IntKind) (bytes : Nat) (x : SV) (m : List Int) (K : SV → List OB → Tree β) : Tree β :=
  match x with
  | .row id => match own.getD id .gone with
    | .irow ty k1 nil _ l => .chk (ty == elem && decide (k1 = k)) (.chk (decide ((l.length + m.length) * bytes ≤ 140737488355328)) (.chk (decide (l.length + m.length ≤ 4611686018427387904))
        (K (.row own.length) (own.set id .gone ++ [.irow elem k (nil && m.isEmpty) false (l ++ m)]))))
    | _ => .fail
  | .p (.isl nil ex k1 l) => .chk (decide (k1 = k)) (.chk ex (.chk (decide ((l.length + m.length) * bytes ≤ 140737488355328)) (.chk (decide (l.length + m.length ≤ 4611686018427387904))
      (.br nil (K (.row own.length) (own ++ [.irow elem k m.isEmpty false m]))
        (.br m.isEmpty (K (.p (.isl false true k1 l)) own) (K (.row own.length) (own ++ [.irow elem k false false (l ++ m)])))))))
  | _ => .fail
theorem appIT_sound {own : List OB} {elem : TypeId} {k : IntKind} {bytes : Nat} {x : SV} {m : List Int} {K : SV → List OB → Tree β} {b : β} (h : (appIT own elem k bytes x m K).run = some b)
    {Kp : SV → List OB → Prop} (hk : ∀ x o, (K x o).run = some b → Kp x o) : appI own elem k bytes x m Kp := by
  unfold appIT at h
  split at h
  · split at h
    · rename_i e1
      simp only [Tree.run_chk, decide_eq_true_eq, Bool.and_eq_true, beq_iff_eq] at h
      simp only [appI, e1]
      exact ⟨h.1.1, h.1.2, h.2.1, h.2.2.1, hk _ _ h.2.2.2⟩
    · exact (Tree.run_fail.1 h).elim
  · rename_i nil ex k1 l
    simp only [Tree.run_chk, decide_eq_true_eq, Tree.run_br] at h
    obtain ⟨h1, h2, h3, h4, h5⟩ := h
    simp only [appI]
    refine ⟨h1, h2, h3, h4, ?_⟩
    rcases h5 with ⟨rfl, h5⟩ | ⟨rfl, ⟨h6, h5⟩ | ⟨h6, h5⟩⟩
    · exact hk _ _ h5
    · cases m with
      | nil => exact hk _ _ h5
      | cons n m => cases h6
    · cases m with
      | nil => cases h6
      | cons n m => exact hk _ _ h5
  · exact (Tree.run_fail.1 h).elim
def appST (own : List OB) (elem : TypeId) (w bytes : Nat) (x : SV) (m : List PV) (K : SV → List OB → Tree β) : Tree β :=
  match x with
  | .row id => match own.getD id .gone with
    | .row ty w1 nil _ l => .chk (ty == elem && w1 == w) (.chk (decide ((l.length + m.length) * bytes ≤ 140737488355328)) (.chk (decide (l.length + m.length ≤ 4611686018427387904)) (.chk (m.all fun y => y.cells.all (·.scal))
        (K (.row own.length) (own.set id .gone ++ [.row elem w (nil && m.isEmpty) false (l ++ m)])))))
    | _ => .fail
  | .p (.sl nil ex w1 l) => .chk (w1 == w) (.chk ex (.chk (decide ((l.length + m.length) * bytes ≤ 140737488355328)) (.chk (decide (l.length + m.length ≤ 4611686018427387904)) (.chk (m.all fun y => y.cells.all (·.scal))
      (.br nil (K (.row own.length) (own ++ [.row elem w m.isEmpty false m]))
        (.br m.isEmpty (K (.p (.sl false true w1 l)) own) (K (.row own.length) (own ++ [.row elem w false false (l ++ m)]))))))))
  | _ => .fail
theorem appST_sound {own : List OB} {elem : TypeId} {w bytes : Nat} {x : SV} {m : List PV} {K : SV → List OB → Tree β} {b : β} (h : (appST own elem w bytes x m K).run = some b)
    {Kp : SV → List OB → Prop} (hk : ∀ x o, (K x o).run = some b → Kp x o) : appS own elem w bytes x m Kp := by
  unfold appST at h
  split at h
  · split at h
    · rename_i e1
      simp only [Tree.run_chk, decide_eq_true_eq, Bool.and_eq_true, beq_iff_eq] at h
      simp only [appS, e1]
      exact ⟨h.1.1, h.1.2, h.2.1, h.2.2.1, fun y hy => List.all_eq_true.1 h.2.2.2.1 y hy, hk _ _ h.2.2.2.2⟩
    · exact (Tree.run_fail.1 h).elim
  · rename_i nil ex k1 l
    simp only [Tree.run_chk, decide_eq_true_eq, Tree.run_br, beq_iff_eq] at h
    obtain ⟨h1, h2, h3, h4, h0, h5⟩ := h
    simp only [appS]
    refine ⟨h1, h2, h3, h4, fun y hy => List.all_eq_true.1 h0 y hy, ?_⟩
    rcases h5 with ⟨rfl, h5⟩ | ⟨rfl, ⟨h6, h5⟩ | ⟨h6, h5⟩⟩
    · exact hk _ _ h5
    · cases m with
      | nil => exact hk _ _ h5
      | cons n m => cases h6
    · cases m with
      | nil => cases h6
      | cons n m => exact hk _ _ h5
  · exact (Tree.run_fail.1 h).elim
def sureB (raw : Opd → SV) (l : List Opd) : Bool := l.all fun x => match raw x with
  | .cnd b _ => b
  | _ => true
theorem sureB_ok {raw : Opd → SV} : ∀ {l : List Opd}, sureB raw l = true → sureL raw l
  | [], _ => trivial
  | [x], h => by
    simp only [sureB, List.all_cons, List.all_nil, Bool.and_true] at h
    show (raw x).sure
    cases e : raw x <;> rw [e] at h <;> first | trivial | exact h
  | x :: y :: l, h => by
    simp only [sureB, List.all_cons, Bool.and_eq_true] at h
    refine ⟨?_, sureB_ok (l := y :: l) (by simp only [sureB, List.all_cons, Bool.and_eq_true]; exact h.2)⟩
    have h := h.1
    cases e : raw x <;> rw [e] at h <;> first | trivial | exact h
/-- One operation that is done: 'dr': 0 in order, 1 and 2 in open order. -/
def keyInt : PV → Bool
  | .int .. => true
  | _ => false
/-- A key that is none of these. -/
def keyNewT (k : PV) : List (PV × SV) → Tree β → Tree β
  | [], T => T
  | (k', _) :: r, T => match k, k' with
    | .int q a, .int q' b => .chk (decide (q = q')) (.br (a == b) .fail (keyNewT k r T))
    | _, _ => .fail
theorem keyNewT_sound {k : PV} {T : Tree β} {b : β} : ∀ {es : List (PV × SV)}, (keyNewT k es T).run = some b → keyNew k es ∧ T.run = some b
  | [], h => ⟨trivial, h⟩
  | (k', x) :: r, h => by
    unfold keyNewT at h
    split at h
    · rename_i q a q' b
      simp only [Tree.run_chk, Tree.run_br, Tree.run_fail, and_false, false_or, decide_eq_true_eq, beq_eq_false_iff_ne] at h
      obtain ⟨rfl, hab, h⟩ := h
      obtain ⟨h1, h2⟩ := keyNewT_sound h
      exact ⟨⟨rfl, hab, h1⟩, h2⟩
    · exact (Tree.run_fail.1 h).elim
def lookT (k : PV) : List (PV × SV) → (SV → Tree β) → Tree β → Tree β
  | [], _, Z => Z
  | (k', v) :: r, F, Z => match k, k' with
    | .int q a, .int q' b => .chk (decide (q = q')) (.br (a == b) (F v) (lookT k r F Z))
    | _, _ => .fail
theorem lookT_sound {k : PV} {F : SV → Tree β} {Z : Tree β} {b : β} {Fp : SV → Prop} {Zp : Prop} (hf : ∀ x, (F x).run = some b → Fp x) (hz : Z.run = some b → Zp) : ∀ {es : List (PV × SV)}, (lookT k es F Z).run = some b → lookK k es Fp Zp
  | [], h => hz h
  | (k', x) :: r, h => by
    unfold lookT at h
    unfold lookK
    split at h
    · rename_i q a q' b
      simp only [Tree.run_chk, Tree.run_br, decide_eq_true_eq, beq_eq_false_iff_ne, beq_iff_eq] at h
      obtain ⟨rfl, h⟩ := h
      refine ⟨rfl, fun hab => ?_, fun hab => ?_⟩
      · rcases h with ⟨_, h⟩ | ⟨h0, _⟩
        · exact hf _ h
        · exact absurd hab h0
      · rcases h with ⟨h0, _⟩ | ⟨_, h⟩
        · exact absurd h0 hab
        · exact lookT_sound hf hz h
    · exact (Tree.run_fail.1 h).elim
def keyNewS (s : List Int) : List (PV × SV) → Tree β → Tree β
  | [], T => T
  | (k', _) :: r, T => match k' with
    | .str b => .br (s == b) .fail (keyNewS s r T)
    | _ => .fail
theorem keyNewS_sound {s : List Int} {T : Tree β} {b : β} : ∀ {es : List (PV × SV)}, (keyNewS s es T).run = some b → keyNew (.str s) es ∧ T.run = some b
  | [], h => ⟨trivial, h⟩
  | (k', x) :: r, h => by
    unfold keyNewS at h
    split at h
    · simp only [Tree.run_br, Tree.run_fail, and_false, false_or, beq_eq_false_iff_ne] at h
      obtain ⟨h1, h2⟩ := keyNewS_sound h.2
      exact ⟨⟨h.1, h1⟩, h2⟩
    · exact (Tree.run_fail.1 h).elim
def lookST (s : List Int) : List (PV × SV) → (SV → Tree β) → Tree β → Tree β
  | [], _, Z => Z
  | (k', v) :: r, F, Z => match k' with
    | .str b => .br (s == b) (F v) (lookST s r F Z)
    | _ => .fail
theorem lookST_sound {s : List Int} {F : SV → Tree β} {Z : Tree β} {b : β} {Fp : SV → Prop} {Zp : Prop} (hf : ∀ x, (F x).run = some b → Fp x) (hz : Z.run = some b → Zp) : ∀ {es : List (PV × SV)}, (lookST s es F Z).run = some b → lookSK s es Fp Zp
  | [], h => hz h
  | (k', x) :: r, h => by
    unfold lookST at h
    unfold lookSK
    split at h
    · simp only [Tree.run_br, beq_eq_false_iff_ne, beq_iff_eq] at h
      refine ⟨fun hab => ?_, fun hab => ?_⟩
      · rcases h with ⟨_, h⟩ | ⟨h0, _⟩
        · exact hf _ h
        · exact absurd hab h0
      · rcases h with ⟨h0, _⟩ | ⟨_, h⟩
        · exact absurd h0 hab
        · exact lookST_sound hf hz h
    · exact (Tree.run_fail.1 h).elim
def SV.sur : SV → Bool
  | .cnd b _ => b
  | .p _ | .row _ | .ptr .. | .rptr .. | .mp _ | .agg _ | .tup _ | .fn .. | .any => true
theorem SV.sur_ok {x : SV} (h : x.sur = true) : x.sure := by cases x <;> first | trivial | exact h
def evIns (Γ : Gam) (dr : Nat) (own : List OB) (raw : Opd → SV) (e : Opd → SV) (io : Ins) (K : SV → List OB → Tree β) : Tree β :=
  match io with
  | .pick c a b => match e c with
    | .p (.bool t) => .br t (.chk (raw a).sur ((e a).fz fun x => K x own)) (.chk (raw b).sur ((e b).fz fun x => K x own))
    | _ => .fail
  | .call f args => forceL ((f :: args).flatMap fun x => SV.ids own (e x)) fun ids => forceL (fzL own ids) fun own' =>
    match (e f).pvS own', SV.pvSL own' (args.map e) with
    | some (.fn g caps), some as => .chk (decide (g < 1000000)) (Γ β g (as ++ caps) fun r => match ids with
      | [] => K (.p r) own
      | _ :: _ => match r.flat with
        | true => .chk (dr == 0 || dr == 1) (K (.p r) own)
        | false => .chk (dr == 0) (K (.p r) own'))
    | _, _ => .fail
  | .callR g t a args => match e a with
    | .row id => match own.getD id .gone, SV.pvSL own (args.map e) with
      | .irow ty k nil ex l, some xs => .chk (ty == t) (Γ β (g + 1000000) (.isl nil ex k l :: .ref t [] :: xs) fun r => match r with
        | .isl nil' _ k' l' => .chk (decide (k' = k)) (K (.row own.length) (own.set id .gone ++ [.irow t k nil' false l']))
        | _ => .fail)
      | _, _ => .fail
    | .p (.isl nil _ k _) => match SV.pvSL own (args.map e) with
      | some xs => .chk nil (Γ β (g + 1000000) (.isl true true k [] :: .ref t [] :: xs) fun r => match r with
        | .isl nil' _ k' l' => .chk (decide (k' = k)) (K (.row own.length) (own ++ [.irow t k nil' false l']))
        | _ => .fail)
      | none => .fail
    | _ => .fail
  | .callN g t args => forceL (args.flatMap fun x => SV.ids own (e x)) fun ids => forceL (fzL own ids) fun own' =>
    match SV.pvSL own' (args.map e) with
    | some as => Γ β (g + 2000000) (.ref t [] :: as) fun r => match r with
      | .tup (.isl nil' _ k l' :: rest) => .chk (PV.flatL rest) (forceL (rest.map .p) fun rs => K (.tup (.row own'.length :: rs)) (own' ++ [.irow t k nil' false l']))
      | _ => .fail
    | none => .fail
  | .fx o => (fxT own e o).tree Γ K
  | .callI g t a args => match e a, SV.pvSL own (args.map e) with
    | .p (.ifc t' x), some as => .chk (t' == t && decide (g < 1000000)) (Γ β g (x :: as) fun r => K (.p r) own)
    | _, _ => .fail
  | .alloc ty z => K (.ptr own.length 0) (own ++ [.box ty (z.map .p)])
  | .box ty x => .chk ((e x).cells.all (·.scal)) (forceL (e x).cells fun cs => K (.ptr own.length 0) (own ++ [.box ty cs]))
  | .mkS elem k bytes x => match e x with
    | .p (.int _ n) => .chk (decide (0 ≤ n)) (.chk (decide (n.toNat * bytes ≤ 140737488355328)) (.chk (decide (n.toNat ≤ 4611686018427387904)) (K (.row own.length) (own ++ [.irow elem k false true (List.replicate n.toNat 0)]))))
    | _ => .fail
  | .st n a x => match e a with
    | .ptr id off => match own.getD id .gone with
      | .box ty cs => .chk (decide ((e x).cells.length = n ∧ off + n ≤ cs.length) && (e x).cells.all (·.scal)) (forceL (spliceL cs off (e x).cells) fun cs => K .any (own.set id (.box ty cs)))
      | _ => .fail
    | .rptr id wd i off => match own.getD id .gone, e x with
      | .irow ty k nil ex l, .p (.int k' n') => .chk (n == 1 && (wd == 1 && (off == 0 && decide (k' = k)))) (.chk (decide (i < l.length)) (K .any (own.set id (.irow ty k nil ex (l.set i n')))))
      | .row ty w' nil ex es, .p y => .chk (wd == w' && (n == w' && (off == 0 && (y.cells.length == n && y.cells.all (·.scal))))) (.chk (decide (i < es.length)) (K .any (own.set id (.row ty w' nil ex (es.set i y)))))
      | _, _ => .fail
    | _ => .fail
  | .bsl elem ik w ps => forceL ((ps.map e).flatMap (SV.ids own)) fun ids => .chk (dr == 0 || ids.isEmpty) (forceL (fzL own ids) fun own' =>
    match SV.pvSL own' (ps.map e) with
    | some xs => match ik with
      | some k => match intsOf k xs with
        | some l => K (.row own'.length) (own' ++ [.irow elem k false true l])
        | none => .fail
      | none => .chk (xs.all (fun x => x.cells.length == w && x.cells.all (·.scal))) (K (.row own'.length) (own' ++ [.row elem w false true xs]))
    | none => .fail)
  | .app elem ik w bytes x y => match ik with
    | some k => match (e y).see own with
      | some (.isl _ _ k2 m) => .chk (decide (k2 = k)) (appIT own elem k bytes (e x) m K)
      | _ => .fail
    | none => match (e y).see own with
      | some (.sl _ _ w2 m) => .chk (w2 == w) (appST own elem w bytes (e x) m K)
      | _ => .fail
  | .mkMap => K (.mp own.length) (own ++ [.map []])
  | .cvtSB _ x => match e x with
    | .row id => match own.getD id .gone with
      | .irow _ k nil ex l => .chk (!nil) (K (.p (.isl false ex k l)) (own.set id (.fro (.isl false ex k l))))
      | _ => .fail
    | _ => .fail
  | .ins m k v => match e m, e k with
    | .mp id, .p k => match own.getD id .gone with
      | .map es => .chk (keyInt k) (keyNewT k es (K .any (own.set id (.map (es ++ [(k, e v)])))))
      | _ => .fail
    | _, _ => .fail
  | .insS m k v => match e m, e k with
    | .mp id, .p (.str s) => match own.getD id .gone with
      | .map es => keyNewS s es (K .any (own.set id (.map (es ++ [(.str s, e v)]))))
      | _ => .fail
    | _, _ => .fail
  | .lookS z m k => match e m, e k with
    | .mp id, .p (.str s) => match own.getD id .gone with
      | .map es => lookST s es (fun x => x.fz fun x => K (.tup [x, .p (.bool true)]) own) (K (.tup [.p z, .p (.bool false)]) own)
      | _ => .fail
    | _, _ => .fail
  | .look z m k => match e m, e k with
    | .mp id, .p k => match own.getD id .gone with
      | .map es => .chk (keyInt k) (lookT k es (fun x => x.fz fun x => K x own) (K (.p z) own))
      | _ => .fail
    | _, _ => .fail
  | io => pevT own e io fun x => K x own
theorem pevT_calm {own : List OB} {e : Opd → SV} {io : Ins} {K : SV → Tree β} {b : β} (h : (pevT own e io K).run = some b) : io.calm = true := by
  cases io <;> first | rfl | (simp only [pevT] at h; exact (Tree.run_fail.1 h).elim)
theorem evIns_sound {P : Program} {G : Glob} {Γ : Gam} (hΓ : GamOk P G Γ) {dr : Nat} (hdr : dr ≤ 2) {own : List OB} {raw : Opd → SV} {io : Ins} (hs : sureB raw io.opds = true) {K : SV → List OB → Tree β} {b : β}
    (h : (evIns Γ dr own raw (fun x => (raw x).strip) io K).run = some b) {Kp : SV → List OB → Prop} (hk : ∀ x o, (K x o).run = some b → okD dr io.kind own o → Kp x o) :
    vcRun P G own raw io Kp ∧ (dr = 2 → noIds own (fun x => (raw x).strip) io) := by
  replace hs := sureB_ok hs
  have gen : (pevT own (fun x => (raw x).strip) io fun x => K x own).run = some b → (pev own (fun x => (raw x).strip) io).1 ∧ Kp (pev own (fun x => (raw x).strip) io).2 own ∧ io.calm = true := fun h => by
    obtain ⟨h1, h2⟩ := pevT_sound h
    have hc := pevT_calm h
    refine ⟨h1, hk _ _ h2 ?_, hc⟩
    rw [Ins.calm_kind hc]
    cases dr <;> first | trivial | rfl
  cases io
  case pick c a b' =>
    refine ⟨⟨hs, ?_⟩, fun _ => trivial⟩
    simp only [evIns] at h
    dsimp only
    split at h
    · rename_i t e1
      simp only [e1]
      simp only [Tree.run_br, Tree.run_chk, SV.fz_eq] at h
      have hok : okD dr 0 own own := by cases dr <;> first | trivial | rfl
      rcases h with ⟨rfl, h0, h⟩ | ⟨rfl, h0, h⟩
      · refine ⟨fun _ => SV.sur_ok h0, (fun e => by cases e), ?_⟩
        have : SV.mix true (raw a).strip (raw b').strip = (raw a).strip := by
          unfold SV.mix
          split <;> simp_all
        rw [this]; exact hk _ _ h hok
      · refine ⟨(fun e => by cases e), fun _ => SV.sur_ok h0, ?_⟩
        have : SV.mix false (raw a).strip (raw b').strip = (raw b').strip := by
          unfold SV.mix
          split <;> simp_all
        rw [this]; exact hk _ _ h hok
    · exact (Tree.run_fail.1 h).elim
  case call f args =>
    simp only [evIns, forceL_eq] at h
    split at h
    · rename_i g caps as e1 e2
      rw [Tree.run_chk, decide_eq_true_eq] at h
      obtain ⟨hlt, h⟩ := h
      obtain ⟨r, h1, h2⟩ := hΓ _ _ _ _ h
      have h1 : FunEq P G g (as ++ caps) r := h1.elim (fun h => h.2) fun h => h.elim (fun h => absurd h.1.1 (Nat.not_le.2 hlt)) fun h => h.elim (fun h => absurd h.1 (Nat.not_le.2 (Nat.lt_of_lt_of_le hlt (by decide)))) fun h => absurd h.1 (Nat.not_le.2 (Nat.lt_of_lt_of_le hlt (by decide)))
      have key : (dr = 2 → noIds own (fun x => (raw x).strip) (.call f args)) ∧ Kp (.p r) (if r.flat then own else fzL own ((f :: args).flatMap fun x => SV.ids own ((raw x).strip))) := by
        split at h2
        · rename_i e3
          refine ⟨fun _ => e3, ?_⟩
          rw [e3]
          have : (if r.flat = true then own else fzL own []) = own := by split <;> rfl
          rw [this]
          exact hk _ _ h2 (by cases dr <;> first | trivial | rfl)
        · split at h2
          · rename_i e4
            simp only [Tree.run_chk, Bool.or_eq_true, beq_iff_eq] at h2
            rw [if_pos e4]
            refine ⟨fun h => by omega, hk _ _ h2.2 (by cases dr <;> first | trivial | rfl)⟩
          · rename_i e4
            simp only [Tree.run_chk, beq_iff_eq] at h2
            obtain ⟨rfl, h2⟩ := h2
            rw [if_neg (by rw [e4]; simp)]
            exact ⟨fun h => by omega, hk _ _ h2 trivial⟩
      refine ⟨⟨hs, ?_⟩, key.1⟩
      show callVC P G true own (fun x => (raw x).strip) f args Kp
      unfold callVC
      dsimp only
      rw [e1, e2]
      exact ⟨r, fun _ => h1, key.2⟩
    · exact (Tree.run_fail.1 h).elim
  case callR g t a args =>
    have row : ∀ {k : IntKind} {nil ex : Bool} {l : List Int} {xs : List PV} {f : Bool → List Int → Tree β} , (Γ β (g + 1000000) (.isl nil ex k l :: .ref t [] :: xs) fun r => match r with
        | .isl nil' _ k' l' => .chk (decide (k' = k)) (f nil' l')
        | _ => .fail).run = some b → ∃ nil' l', FunRow P G g t k nil ex l xs nil' l' ∧ (f nil' l').run = some b := by
      intro k nil ex l xs f h
      obtain ⟨r, h1, h2⟩ := hΓ _ _ _ _ h
      have h3 : FunRowT P G (g + 1000000) (.isl nil ex k l :: .ref t [] :: xs) r := h1.elim (fun h => absurd h.1 (Nat.not_lt.2 (Nat.le_add_left _ _))) fun h => h.elim (fun h => h) fun h => h.elim (fun h => h.2.elim) fun h => h.2.elim
      obtain ⟨_, h4⟩ := h3
      cases r <;> simp only at h2 h4 <;> first | exact h4.elim | skip
      case isl nil' ex' k' l' =>
        obtain ⟨h5, h6⟩ := h4
        subst h5
        rw [Nat.add_sub_cancel] at h6
        rw [Tree.run_chk] at h2
        exact ⟨nil', l', h6, h2.2⟩
    simp only [evIns] at h
    refine ⟨⟨hs, ?_⟩, fun _ => trivial⟩
    show rowVC P G own (fun x => (raw x).strip) g t a args Kp
    unfold rowVC
    split at h
    · rename_i id e1
      dsimp only
      rw [e1]
      dsimp only
      split at h
      · rename_i ty k nil ex l xs e2 e3
        rw [e2, e3]
        dsimp only
        rw [Tree.run_chk, beq_iff_eq] at h
        obtain ⟨nil', l', h6, h2⟩ := row h.2
        exact ⟨h.1, nil', l', h6, hk _ _ h2 okD_any⟩
      · exact (Tree.run_fail.1 h).elim
    · rename_i nil ex k l e1
      dsimp only
      rw [e1]
      dsimp only
      split at h
      · rename_i xs e3
        rw [e3]
        dsimp only
        rw [Tree.run_chk] at h
        obtain ⟨nil', l', h6, h2⟩ := row h.2
        exact ⟨h.1, nil', l', h6, hk _ _ h2 okD_any⟩
      · exact (Tree.run_fail.1 h).elim
    · exact (Tree.run_fail.1 h).elim
  case callN g t args =>
    simp only [evIns, forceL_eq] at h
    refine ⟨⟨hs, ?_⟩, fun _ => trivial⟩
    show newVC P G own (fun x => (raw x).strip) g t args Kp
    unfold newVC
    dsimp only
    split at h
    · rename_i as e1
      rw [e1]
      dsimp only
      obtain ⟨r, h1, h2⟩ := hΓ _ _ _ _ h
      have h3 : FunNewT P G (g + 2000000) (.ref t [] :: as) r := h1.elim (fun h => absurd h.1 (Nat.not_lt.2 (by omega))) fun h => h.elim (fun h => absurd h.1.2 (Nat.not_lt.2 (Nat.le_add_left _ _))) fun h => h.elim (fun h => h) fun h => h.2.elim
      obtain ⟨_, h4⟩ := h3
      split at h2
      · rename_i nil' ex' k l' rest
        dsimp only at h4
        rw [Nat.add_sub_cancel] at h4
        rw [Tree.run_chk] at h2
        exact ⟨k, nil', l', rest, h2.1, h4, hk _ _ h2.2 okD_any⟩
      · exact (Tree.run_fail.1 h2).elim
    · exact (Tree.run_fail.1 h).elim
  case callI g t a args =>
    refine ⟨⟨hs, ?_⟩, fun _ => trivial⟩
    simp only [evIns] at h
    show invVC P G own (fun x => (raw x).strip) g t a args Kp
    unfold invVC
    dsimp only
    split at h
    · rename_i t' x as e1 e2
      rw [e1, e2]
      dsimp only
      rw [Tree.run_chk, Bool.and_eq_true, decide_eq_true_eq, beq_iff_eq] at h
      obtain ⟨⟨ht, hlt⟩, h⟩ := h
      obtain ⟨r, h1, h2⟩ := hΓ _ _ _ _ h
      have h1 : FunEq P G g (x :: as) r := h1.elim (fun h => h.2) fun h => h.elim (fun h => absurd h.1.1 (Nat.not_le.2 hlt)) fun h => h.elim (fun h => absurd h.1 (Nat.not_le.2 (Nat.lt_of_lt_of_le hlt (by decide)))) fun h => absurd h.1 (Nat.not_le.2 (Nat.lt_of_lt_of_le hlt (by decide)))
      exact ⟨ht, r, h1, hk _ _ h2 (by cases dr <;> first | trivial | rfl)⟩
    · exact (Tree.run_fail.1 h).elim
  case fx o =>
    refine ⟨⟨hs, ?_⟩, fun _ => trivial⟩
    simp only [evIns] at h
    exact FT.tree_sound (p := okD dr o.kind own) hΓ (fun x o' hx hp => hk x o' hx hp) fxT_kind h
  case alloc ty z =>
    refine ⟨⟨hs, ?_⟩, fun _ => trivial⟩
    simp only [evIns] at h
    simp only [Ins.calm, Bool.false_eq_true, if_false, eff]
    exact hk _ _ h (okD_grow rfl)
  case box ty x =>
    refine ⟨⟨hs, ?_⟩, fun _ => trivial⟩
    simp only [evIns, Tree.run_chk, forceL_eq] at h
    simp only [Ins.calm, Bool.false_eq_true, if_false, eff]
    exact ⟨h.1, hk _ _ h.2 (okD_grow rfl)⟩
  case mkS elem k bytes x =>
    refine ⟨⟨hs, ?_⟩, fun _ => trivial⟩
    simp only [evIns] at h
    simp only [Ins.calm, Bool.false_eq_true, if_false, eff]
    split at h
    · rename_i e1
      rw [e1]
      simp only [Tree.run_chk, decide_eq_true_eq] at h
      exact ⟨h.1, h.2.1, h.2.2.1, hk _ _ h.2.2.2 (okD_grow rfl)⟩
    · exact (Tree.run_fail.1 h).elim
  case st n a x =>
    refine ⟨⟨hs, ?_⟩, fun _ => trivial⟩
    simp only [evIns] at h
    simp only [Ins.calm, Bool.false_eq_true, if_false, eff]
    split at h
    · rename_i e1
      rw [e1]
      dsimp only
      split at h
      · rename_i e2
        rw [e2]
        simp only [Tree.run_chk, forceL_eq, Bool.and_eq_true, decide_eq_true_eq] at h
        exact ⟨h.1.1.1, h.1.1.2, h.1.2, hk _ _ h.2 okD_any⟩
      · exact (Tree.run_fail.1 h).elim
    · rename_i e1
      rw [e1]
      dsimp only
      split at h
      · rename_i e2 e3
        rw [e2, e3]
        simp only [Tree.run_chk, forceL_eq, Bool.and_eq_true, decide_eq_true_eq, beq_iff_eq] at h
        exact ⟨h.1.1, h.1.2.1, h.1.2.2.1, h.1.2.2.2, h.2.1, hk _ _ h.2.2 okD_any⟩
      · rename_i e2 e3
        rw [e2, e3]
        simp only [Tree.run_chk, forceL_eq, Bool.and_eq_true, decide_eq_true_eq, beq_iff_eq] at h
        exact ⟨h.1.1, h.1.2.1, h.1.2.2.1, h.1.2.2.2.1, h.1.2.2.2.2, h.2.1, hk _ _ h.2.2 okD_any⟩
      · exact (Tree.run_fail.1 h).elim
    · exact (Tree.run_fail.1 h).elim
  case bsl elem ik w ps =>
    refine ⟨⟨hs, ?_⟩, fun _ => trivial⟩
    simp only [evIns, forceL_eq, Tree.run_chk, Bool.or_eq_true, beq_iff_eq, List.isEmpty_iff] at h
    simp only [Ins.calm, Bool.false_eq_true, if_false, eff]
    obtain ⟨h0, h⟩ := h
    have hg : ∀ {ob : OB}, ob.isFro = false → okD dr 1 own (fzL own ((ps.map fun x => (raw x).strip).flatMap (SV.ids own)) ++ [ob]) := by
      intro ob hf
      rcases h0 with rfl | h0
      · trivial
      · rw [h0]; exact okD_grow hf
    split at h
    · rename_i xs e1
      rw [e1]
      dsimp only
      cases ik with
      | some k =>
        dsimp only at h ⊢
        split at h
        · rename_i e2
          rw [e2]
          exact hk _ _ h (hg rfl)
        · exact (Tree.run_fail.1 h).elim
      | none =>
        simp only [Tree.run_chk] at h
        exact ⟨h.1, hk _ _ h.2 (hg rfl)⟩
    · exact (Tree.run_fail.1 h).elim
  case app elem ik w bytes x y =>
    refine ⟨⟨hs, ?_⟩, fun _ => trivial⟩
    simp only [evIns] at h
    simp only [Ins.calm, Bool.false_eq_true, if_false, eff]
    cases ik with
    | some k =>
      dsimp only at h ⊢
      split at h
      · rename_i e1
        simp only [Tree.run_chk, decide_eq_true_eq] at h
        rw [e1]
        exact ⟨h.1, appIT_sound h.2 fun x o hx => hk x o hx okD_any⟩
      · exact (Tree.run_fail.1 h).elim
    | none =>
      dsimp only at h ⊢
      split at h
      · rename_i e1
        simp only [Tree.run_chk, beq_iff_eq] at h
        rw [e1]
        exact ⟨h.1, appST_sound h.2 fun x o hx => hk x o hx okD_any⟩
      · exact (Tree.run_fail.1 h).elim
  case cvtSB elem x =>
    refine ⟨⟨hs, ?_⟩, fun _ => trivial⟩
    simp only [evIns] at h
    simp only [Ins.calm, Bool.false_eq_true, if_false, eff]
    split at h
    · rename_i id e1
      rw [e1]
      dsimp only
      split at h
      · rename_i ty k nil ex l e2
        rw [e2]
        rw [Tree.run_chk, Bool.not_eq_true'] at h
        exact ⟨h.1, hk _ _ h.2 okD_any⟩
      · exact (Tree.run_fail.1 h).elim
    · exact (Tree.run_fail.1 h).elim
  case mkMap =>
    refine ⟨⟨hs, ?_⟩, fun _ => trivial⟩
    simp only [evIns] at h
    simp only [Ins.calm, Bool.false_eq_true, if_false, eff]
    exact hk _ _ h okD_any
  case ins m k v =>
    refine ⟨⟨hs, ?_⟩, fun _ => trivial⟩
    simp only [evIns] at h
    simp only [Ins.calm, Bool.false_eq_true, if_false, eff]
    split at h
    · split at h
      · rename_i e1 e2 _ _ e3
        rw [e1, e2]
        dsimp only
        rw [e3]
        rw [Tree.run_chk] at h
        obtain ⟨h1, h2⟩ := h
        obtain ⟨h3, h4⟩ := keyNewT_sound h2
        refine ⟨h3, ?_, hk _ _ h4 okD_any⟩
        unfold keyInt at h1
        split at h1
        · trivial
        · cases h1
      · exact (Tree.run_fail.1 h).elim
    · exact (Tree.run_fail.1 h).elim
  case insS m k v =>
    refine ⟨⟨hs, ?_⟩, fun _ => trivial⟩
    simp only [evIns] at h
    simp only [Ins.calm, Bool.false_eq_true, if_false, eff]
    split at h
    · split at h
      · rename_i e1 e2 _ _ e3
        rw [e1, e2]
        dsimp only
        rw [e3]
        obtain ⟨h3, h4⟩ := keyNewS_sound h
        exact ⟨h3, hk _ _ h4 okD_any⟩
      · exact (Tree.run_fail.1 h).elim
    · exact (Tree.run_fail.1 h).elim
  case lookS z m k =>
    refine ⟨⟨hs, ?_⟩, fun _ => trivial⟩
    simp only [evIns] at h
    simp only [Ins.calm, Bool.false_eq_true, if_false, eff]
    split at h
    · split at h
      · rename_i e1 e2 _ _ e3
        rw [e1, e2]
        dsimp only
        rw [e3]
        exact lookST_sound (fun x hx => hk _ _ (by rw [SV.fz_eq] at hx; exact hx) okD_any) (fun hx => hk _ _ hx okD_any) h
      · exact (Tree.run_fail.1 h).elim
    · exact (Tree.run_fail.1 h).elim
  case look z m k =>
    refine ⟨⟨hs, ?_⟩, fun _ => trivial⟩
    simp only [evIns] at h
    simp only [Ins.calm, Bool.false_eq_true, if_false, eff]
    split at h
    · split at h
      · rename_i e1 e2 _ _ e3
        rw [e1, e2]
        dsimp only
        rw [e3]
        rw [Tree.run_chk] at h
        obtain ⟨h1, h2⟩ := h
        refine ⟨?_, lookT_sound (fun x hx => hk _ _ (by rw [SV.fz_eq] at hx; exact hx) okD_any) (fun hx => hk _ _ hx okD_any) h2⟩
        unfold keyInt at h1
        split at h1
        · trivial
        · cases h1
      · exact (Tree.run_fail.1 h).elim
    · exact (Tree.run_fail.1 h).elim
  all_goals
    obtain ⟨h1, h2, h3⟩ := gen h
    first
      | (clear gen; cases h3; done)
      | exact ⟨⟨hs, by dsimp only; rw [if_pos h3]; exact ⟨h1, h2⟩⟩, fun _ => trivial⟩
end
end Go.Fx
