/-
  Fx, part 18: regions and code.
-/
import Derived.Test.YtlfffpkfipdboaaDoorFxWalk
set_option linter.unusedSimpArgs false
set_option linter.unusedVariables false
namespace Go.Fx
/-- An operation, and the shape of what it answers, where that is told. -/
structure XOp where
  op : IOp
  sh : Option Shp
inductive XR where
  | skip
  | ops (draw : Bool) (l : List XOp)
  | seq (a b : XR)
  | cond (c : Opd) (thn els : XR)
  | block (id : Nat) (body : XR)
  | loop (j : Nat) (live : List Nat) (body : XR)
  | piece (j : Nat) (live : List Nat) (body : XR)
  | exit (id : Nat)
  | label (l : Nat)
  | goto (l : Nat)
  | ret
  | scope (j : Nat) (live : List Nat) (l : Nat) (body : XR)
  | range (j : Nat) (live : List Nat) (f : Opd) (ps : List Nat) (assign body : XR)
  | any (j : Nat) (live : List Nat) (t : OT) (l : List XOp)
  | pieceS (j : Nat) (live : List Nat) (a b rest : XR)
  | bad
def XR.erase : XR → IR
  | .skip => .skip
  | .ops d l => .ops d (l.map (·.op))
  | .seq a b => .seq a.erase b.erase
  | .cond c a b => .cond c a.erase b.erase
  | .block id a => .block id a.erase
  | .loop _ live a => .loop live a.erase
  | .piece _ _ a => a.erase
  | .exit id => .exit id
  | .label l => .label l
  | .goto l => .goto l
  | .ret => .ret
  | .scope _ _ l a => .scope l a.erase
  | .range _ _ f ps a b => .rangeF f ps a.erase b.erase
  | .any _ _ t l => .any t (l.map (·.op))
  | .pieceS _ _ a b r => .seq a.erase (.seq b.erase r.erase)
  | .bad => .bad
section
variable {β : Type}
def shT (sh : Option Shp) (x : SV) (K : SV → Tree β) : Tree β :=
  match sh with
  | none => K x
  | some σ => match x with
    | .p y => .chk (σ.ok y) (K (.p (σ.build y)))
    | _ => .fail
theorem shT_sound {sh : Option Shp} {x : SV} {K : SV → Tree β} {b : β} (h : (shT sh x K).run = some b) : (K x).run = some b := by
  unfold shT at h
  split at h
  · exact h
  · split at h
    · rw [Tree.run_chk] at h
      rw [Shp.build_eq _ h.1] at h
      exact h.2
    · exact (Tree.run_fail.1 h).elim
/-- The told shape counts where an element of a persistent slice of structs is read. -/
def shUse (own : List OB) (e : Opd → SV) (io : Ins) (sh : Option Shp) : Option Shp :=
  match sh with
  | none => none
  | some σ => match io with
    | .ld _ _ a => match e a with
      | .p (.elt ..) => some σ
      | .rptr id _ _ _ => match own.getD id .gone with
        | .row .. => some σ
        | _ => none
      | _ => none
    | _ => some σ
def putT (S : St) (d : Option Nat) (x : SV) (own : List OB) (K : St → Tree β) : Tree β :=
  match d with
  | some i => forceL (S.t.set i x) fun t => forceL own fun own => K ⟨t, own⟩
  | none => forceL own fun own => K ⟨S.t, own⟩
theorem putT_eq {S : St} {d : Option Nat} {x : SV} {own : List OB} {K : St → Tree β} : putT S d x own K = K (S.put d x own) := by
  cases d <;> simp only [putT, forceL_eq, St.put]
def evDo (G : Glob) (Γ : Gam) (dr : Nat) (S : St) (o : XOp) (K : St → Tree β) : Tree β :=
  .chk (sureB (evS G S) o.op.io.opds) (evIns Γ dr S.own (evS G S) (fun x => (evS G S x).strip) o.op.io fun x own => shT (shUse S.own (fun x => (evS G S x).strip) o.op.io o.sh) x fun x => putT S o.op.dst x own K)
def noIdsB (own : List OB) (e : Opd → SV) : Ins → Bool
  | .call f args => ((f :: args).flatMap fun y => SV.ids own (e y)).isEmpty
  | _ => true
theorem noIdsB_ok {own : List OB} {e : Opd → SV} {io : Ins} (h : noIdsB own e io = true) : noIds own e io := by
  cases io <;> first | trivial | skip
  simpa [noIdsB, noIds] using h
def setG (S : St) (g : Nat) (t : Bool) (K : St → Tree β) : Tree β := forceL (S.t.set g (.p (.bool t))) fun t' => K ⟨t', S.own⟩
theorem set_same {α : Type} {d x : α} : ∀ {l : List α} {i : Nat}, l.getD i d = x → x ≠ d → l.set i x = l
  | [], i, _, _ => by simp
  | y :: l, 0, h, _ => by
    simp only [List.getD_cons_zero] at h
    subst h; rfl
  | y :: l, i + 1, h, hx => by
    simp only [List.getD_cons_succ] at h
    rw [List.set_cons_succ, set_same h hx]
theorem setG_eq {S : St} {g : Nat} {t : Bool} {K : St → Tree β} (h : S.t.getD g .any = .p (.bool t)) : setG S g t K = K S := by
  simp only [setG, forceL_eq]
  rw [set_same h (by simp)]
def evOp (G : Glob) (Γ : Gam) (dr : Nat) (S : St) (o : XOp) (K : St → Tree β) : Tree β :=
  match o.op.guard with
  | none => evDo G Γ dr S o K
  | some (g, want) => match S.t.getD g .any with
    | .p (.bool t) => .br t
      (setG S g true fun S => match want with
        | true => evDo G Γ dr S o K
        | false => .chk (noIdsB S.own (fun x => (evS G S x).strip) o.op.io) (putT S o.op.dst (.cnd false .any) S.own K))
      (setG S g false fun S => match want with
        | true => .chk (noIdsB S.own (fun x => (evS G S x).strip) o.op.io) (putT S o.op.dst (.cnd false .any) S.own K)
        | false => evDo G Γ dr S o K)
    | .cnd b _ => .chk (!b) (.chk (noIdsB S.own (fun x => (evS G S x).strip) o.op.io) (putT S o.op.dst (.cnd false .any) S.own K))
    | _ => .fail
theorem growsP_refl : ∀ a : List OB, growsP a a
  | [] => trivial
  | x :: a => ⟨rfl, growsP_refl a⟩
theorem okOwn_refl (k : Nat) (a : List OB) : okOwn k a a := by
  match k with
  | 0 => rfl
  | 1 => exact growsP_refl a
  | k + 2 => trivial
theorem okD_refl (dr k : Nat) (a : List OB) : okD dr k a a := by
  cases dr
  · trivial
  · exact okOwn_refl k a
theorem evDo_sound {P : Program} {G : Glob} {Γ : Gam} (hΓ : GamOk P G Γ) {dr : Nat} (hdr : dr ≤ 2) {S : St} {o : XOp} {K : St → Tree β} {b : β} (h : (evDo G Γ dr S o K).run = some b) {Kp : SV → List OB → Prop}
    (hk : ∀ x own, (K (S.put o.op.dst x own)).run = some b → okD dr o.op.io.kind S.own own → Kp x own) :
    vcRun P G S.own (evS G S) o.op.io Kp ∧ (dr = 2 → noIds S.own (fun x => (evS G S x).strip) o.op.io) := by
  unfold evDo at h
  rw [Tree.run_chk] at h
  refine evIns_sound hΓ hdr h.1 h.2 fun x own hx hok => ?_
  have := shT_sound hx
  rw [putT_eq] at this
  exact hk x own this hok
theorem evOp_sound {P : Program} {G : Glob} {Γ : Gam} (hΓ : GamOk P G Γ) {dr : Nat} (hdr : dr ≤ 2) {S : St} {o : XOp} {K : St → Tree β} {b : β} (h : (evOp G Γ dr S o K).run = some b) {Kp : SV → List OB → Prop}
    (hk : ∀ x own, (K (S.put o.op.dst x own)).run = some b → okD dr o.op.io.kind S.own own → Kp x own) :
    yVal P G S o.op Kp ∧ (dr = 2 → noIds S.own (fun x => (evS G S x).strip) o.op.io) := by
  unfold evOp at h
  unfold yVal
  split at h
  · rename_i e1
    rw [e1]
    exact evDo_sound hΓ hdr h hk
  · rename_i g want e1
    rw [e1]
    dsimp only
    split at h
    · rename_i t e2
      rw [e2]
      dsimp only
      rw [Tree.run_br] at h
      have skip : (Tree.chk (noIdsB S.own (fun x => (evS G S x).strip) o.op.io) (putT S o.op.dst (.cnd false .any) S.own K)).run = some b → Kp (.cnd false .any) S.own ∧ (dr = 2 → noIds S.own (fun x => (evS G S x).strip) o.op.io) := fun h => by
        rw [Tree.run_chk, putT_eq] at h
        exact ⟨hk _ _ h.2 (okD_refl _ _ _), fun _ => noIdsB_ok h.1⟩
      rcases h with ⟨rfl, h⟩ | ⟨rfl, h⟩
      · rw [setG_eq e2] at h
        cases want with
        | true =>
          obtain ⟨h1, h2⟩ := evDo_sound hΓ hdr h hk
          exact ⟨⟨fun _ => h1, fun e => by cases e⟩, h2⟩
        | false =>
          obtain ⟨h1, h2⟩ := skip h
          exact ⟨⟨(fun e => by cases e), fun _ => h1⟩, h2⟩
      · rw [setG_eq e2] at h
        cases want with
        | true =>
          obtain ⟨h1, h2⟩ := skip h
          exact ⟨⟨(fun e => by cases e), fun _ => h1⟩, h2⟩
        | false =>
          obtain ⟨h1, h2⟩ := evDo_sound hΓ hdr h hk
          exact ⟨⟨fun _ => h1, fun e => by cases e⟩, h2⟩
    · rename_i b' x e2
      rw [e2]
      rw [Tree.run_chk] at h
      obtain ⟨h0, h⟩ := h
      cases b' with
      | true => cases h0
      | false =>
        rw [Tree.run_chk, putT_eq] at h
        exact ⟨hk _ _ h.2 (okD_refl _ _ _), fun _ => noIdsB_ok h.1⟩
    · exact (Tree.run_fail.1 h).elim
def evOps (G : Glob) (Γ : Gam) (dr : Nat) : List XOp → St → (St → Tree β) → Tree β
  | [], S, K => K S
  | o :: l, S, K => evOp G Γ dr S o fun S' => evOps G Γ dr l S' K
theorem evOps_sound {P : Program} {G : Glob} {Γ : Gam} (hΓ : GamOk P G Γ) {b : β} {K : St → Tree β} {Kp : St → Prop} (hk : ∀ S, (K S).run = some b → Kp S) : ∀ {l : List XOp} {S : St}, (evOps G Γ 0 l S K).run = some b → yOps P G (l.map (·.op)) S Kp
  | [], S, h => hk _ h
  | o :: l, S, h => by
    simp only [evOps] at h
    exact (evOp_sound hΓ (Nat.zero_le _) h fun x own hx _ => evOps_sound hΓ hk hx).1
theorem evDraw_sound {P : Program} {G : Glob} {Γ : Gam} (hΓ : GamOk P G Γ) {b : β} {K : St → Tree β} {Kp : St → Prop} (hk : ∀ S, (K S).run = some b → Kp S) (ap : Bool) : ∀ {l : List XOp} {S : St},
    (evOps G Γ (match ap with
      | true => 2
      | false => 1) l S K).run = some b → yDraw P G ap (l.map (·.op)) S Kp
  | [], S, h => hk _ h
  | o :: l, S, h => by
    simp only [evOps] at h
    cases ap with
    | true =>
      obtain ⟨h1, h2⟩ := evOp_sound hΓ (Nat.le_refl _) h (Kp := fun x own => okOwn o.op.io.kind S.own own ∧ yDraw P G true (l.map (·.op)) (S.put o.op.dst x own) Kp) fun x own hx hok => ⟨hok, evDraw_sound hΓ hk true hx⟩
      exact ⟨fun _ => h2 rfl, h1⟩
    | false =>
      obtain ⟨h1, h2⟩ := evOp_sound hΓ (by decide) h (Kp := fun x own => okOwn o.op.io.kind S.own own ∧ yDraw P G false (l.map (·.op)) (S.put o.op.dst x own) Kp) fun x own hx hok => ⟨hok, evDraw_sound hΓ hk false hx⟩
      exact ⟨(fun e => by cases e), h1⟩
/-! ### Code by its meaning -/
variable {P : Program} {G : Glob} {S : St} {Kn Kn' M : St → Prop} {Ke Ke' : Exit → St → Prop}
theorem Does.mono {c : IR} (h : Does P G c S Kn' Ke') (hn : ∀ S, Kn' S → Kn S) (he : ∀ e S, Ke' e S → Ke e S) : Does P G c S Kn Ke := by
  intro c' B D ρ hh a w hc rl
  refine wpIn_mono (h c' B D ρ hh a w hc rl) fun e a' w' hp => ?_
  cases e with
  | normal => obtain ⟨S, ρ, h, hK, rl⟩ := hp; exact ⟨S, ρ, h, hn _ hK, rl⟩
  | panic => exact hp.elim
  | outgrown => exact hp.elim
  | _ => obtain ⟨S, ρ, h, hK, rl⟩ := hp; exact ⟨S, ρ, h, he _ _ hK, rl⟩
theorem Does.skip (h : Kn S) : Does P G .skip S Kn Ke := by
  intro c B D ρ hh a w hc rl
  cases hc
  exact wpIn_skip ⟨S, ρ, hh, h, rl⟩
theorem Does.ops {l : List IOp} (h : yOps P G l S Kn) : Does P G (.ops false l) S Kn Ke := by
  intro c B D ρ hh a w hc rl
  cases hc with
  | @region id ops _ hops =>
    refine wpIn_region ?_
    have := yOps_sound (r := none) (ops := ops) (Q := Post B G D Kn Ke) (K := Kn) (ρ0 := ρ) (h0 := hh) (fun S' ρ' h' a' w' hK rl' _ _ => ⟨S', ρ', h', hK, rl'⟩) l ops.toList 0 rfl hops rl (Env.le_refl _) (Heap.le_refl _) h
    rw [List.range_eq_range']
    simpa using this
theorem Does.draw {is : List IOp} (hp : yDraw P G (IOp.apps is) is S Kn) : Does P G (.ops true is) S Kn Ke := by
  intro c B D ρ h a w hc rl
  cases hc with
  | @regionD id ops _ hops hlex hm =>
    have rl' : Rel B G D ρ h S a { w with drawn := w.drawn + 1 } := ⟨rl.size, rl.tmp, rl.defs, rl.sat.heap rfl ⟨rfl, rfl⟩, rl.glob⟩
    refine wpIn_region_draw fun t => ?_
    simp only [Region.schedule, hm, Bool.true_or, if_true]
    have hl : is.length = ops.size := by have := hops.length; simpa using this.symm
    have hget : ∀ {os : List Oper} {js : List IOp}, All2 (CompOp P ops) os js → ∀ (i : Nat) o, os[i]? = some o → ∃ io, js[i]? = some io ∧ CompOp P ops o io := by
      intro os js h
      induction h with
      | nil => intro i o e; simp at e
      | cons hx _ ih =>
        intro i o e
        cases i with
        | zero => simp at e; subst e; exact ⟨_, rfl, hx⟩
        | succ i => simp at e; simpa using ih i o e
    have hany := yAny_lex (ops := ops) (is := is) (K := Kn) is 0 (Array.replicate ops.size false) S (fun j => by simp) (fun k o _ hk => by simp [Array.getElem?_replicate] at hk; split at hk <;> simp at hk) hlex hp
    rw [hl] at hany
    exact yAny_sound (is := is) (K := Kn) (fun i o e => hget hops i o (by simpa using e)) (ρ0 := ρ) (h0 := h) (fun S' ρ' h' a' w' hK rl' _ _ => ⟨S', ρ', h', hK, rl'⟩) ops.size t _ rl' (Env.le_refl _) (Heap.le_refl _) hany
theorem Does.seq {a b : IR} (ha : Does P G a S M Ke) (hb : ∀ S', M S' → Does P G b S' Kn Ke) : Does P G (.seq a b) S Kn Ke := by
  intro c B D ρ h ac w hc rl
  cases hc with
  | seq h1 h2 =>
    refine wpIn_seq (wpIn_mono (ha _ _ _ _ _ _ _ h1 rl) fun e a' w' hpost => ?_)
    cases e with
    | normal => obtain ⟨S', ρ', h', hK, rl'⟩ := hpost; exact hb S' hK _ B D ρ' h' a' w' h2 rl'
    | panic => exact hpost.elim
    | outgrown => exact hpost.elim
    | _ => exact hpost
theorem Does.cond {c : Opd} {t : Bool} {x y : IR} (e1 : evS G S c = .p (.bool t)) (h1 : t = true → Does P G x S Kn Ke) (h2 : t = false → Does P G y S Kn Ke) : Does P G (.cond c x y) S Kn Ke := by
  intro c B D ρ h a w hc rl
  cases hc with
  | cond hcc ha hb =>
    have he := rl.eval hcc
    rw [e1] at he
    exact wpIn_cond_split he (fun ht => h1 ht _ _ _ _ _ _ _ ha rl) fun ht => h2 ht _ _ _ _ _ _ _ hb rl
theorem Does.block {id : Nat} {b : IR} (hb : Does P G b S Kn (fun e S' => match e with
      | .exit id' => if id' = id then Kn S' else Ke (.exit id') S'
      | e => Ke e S')) : Does P G (.block id b) S Kn Ke := by
  intro c B D ρ h a w hc rl
  cases hc with
  | block h1 =>
    refine wpIn_block (wpIn_mono (hb _ _ _ _ _ _ _ h1 rl) fun e a' w' hpost => ?_)
    cases e with
    | exit id' =>
      obtain ⟨S', ρ', h', hK, rl'⟩ := hpost
      dsimp only at hK
      simp only [Exit.inBlock]
      split
      · rename_i e; rw [if_pos e] at hK; exact ⟨S', ρ', h', hK, rl'⟩
      · rename_i e; rw [if_neg e] at hK; exact ⟨S', ρ', h', hK, rl'⟩
    | normal => exact hpost
    | panic => exact hpost.elim
    | outgrown => exact hpost.elim
    | goto => exact hpost
    | ret => exact hpost
/-- Going round behind a label, as often as it is jumped to. -/
def Loops (P : Program) (G : Glob) (l : Nat) (r : IR) (S : St) (Kn : St → Prop) (Ke : Exit → St → Prop) : Prop :=
  ∃ I : Nat → St → Prop, (∃ n, I n S) ∧ ∀ n S', I n S' → Does P G r S' (fun S'' => ∃ lv ids, ids.Nodup ∧ Kn (S''.forget lv ids)) (fun e S'' => match e with
    | .goto l' => l' = l ∧ ∃ m lv ids, ids.Nodup ∧ m < n ∧ I m (S''.forget lv ids)
    | .normal => True
    | e => ∃ lv ids, ids.Nodup ∧ Ke e (S''.forget lv ids))
open Classical in
theorem Does.scope {l : Nat} {b r : IR} (hr : findL b l = some r) (first : Does P G b S Kn (fun e S' => match e with
    | .goto l' => l' = l ∧ ∃ lv ids, ids.Nodup ∧ Loops P G l r (S'.forget lv ids) Kn Ke
    | e => Ke e S')) : Does P G (.scope l b) S Kn Ke := by
  intro c B D ρ h a w hc rl
  cases hc with
  | @scope c' _ _ hb _ =>
    obtain ⟨rest, hf, hrest⟩ := (findL_ok hb l).2 r hr
    let JJ : Nat → Act → World → Prop := fun n a w => ∃ (I : Nat → St → Prop) (S : St) (ρ : Env) (h : Heap), I n S ∧ Rel B G D ρ h S a w ∧ (∀ n S', I n S' → Does P G r S' (fun S'' => ∃ lv ids, ids.Nodup ∧ Kn (S''.forget lv ids)) (fun e S'' => match e with
      | .goto l' => l' = l ∧ ∃ m lv ids, ids.Nodup ∧ m < n ∧ I m (S''.forget lv ids)
      | .normal => True
      | e => ∃ lv ids, ids.Nodup ∧ Ke e (S''.forget lv ids)))
    let μ : Act → World → Nat := fun a w => if hx : ∃ m, JJ m a w ∧ ∀ k, JJ k a w → m ≤ k then hx.choose else 0
    have hle : ∀ n a w, JJ n a w → μ a w ≤ n := fun n a w hj => by
      have hx : ∃ m, JJ m a w ∧ ∀ k, JJ k a w → m ≤ k := least hj
      simp only [μ, dif_pos hx]
      exact hx.choose_spec.2 n hj
    refine wpIn_scope l (fun a w => ∃ n, JJ n a w) μ hf (wpIn_mono (first _ _ _ _ _ _ _ hb rl) fun e a' w' hpost => ?_) fun a w hI => ?_
    · cases e with
      | goto l' =>
        obtain ⟨S2, ρ2, h2, ⟨e1, lv, ids, hnd, I, ⟨n, hn⟩, hround⟩, rl2⟩ := hpost
        exact ⟨e1, n, I, _, _, h2, hn, rl2.forget lv hnd, hround⟩
      | panic => exact hpost.elim
      | outgrown => exact hpost.elim
      | _ => exact hpost
    · have hm : JJ (μ a w) a w := by
        obtain ⟨n, hj⟩ := hI
        have hx : ∃ m, JJ m a w ∧ ∀ k, JJ k a w → m ≤ k := least hj
        simp only [μ, dif_pos hx]
        exact hx.choose_spec.1
      obtain ⟨I, S', ρ', h', hI', rl', hround⟩ := hm
      refine wpIn_mono (hround _ S' hI' _ _ _ _ _ _ _ hrest rl') fun e a' w' hpost => ?_
      cases e with
      | normal =>
        obtain ⟨S2, ρ2, h2, ⟨lv, ids2, hnd2, hK⟩, rl2⟩ := hpost
        exact ⟨_, _, h2, hK, rl2.forget lv hnd2⟩
      | goto l' =>
        obtain ⟨S2, ρ2, h2, ⟨e1, m, lv, ids2, hnd2, hlt, hm⟩, rl2⟩ := hpost
        have hj : JJ m a' w' := ⟨I, _, _, h2, hm, rl2.forget lv hnd2, hround⟩
        exact ⟨e1, ⟨m, hj⟩, Nat.lt_of_le_of_lt (hle m a' w' hj) hlt⟩
      | panic => exact hpost.elim
      | outgrown => exact hpost.elim
      | _ =>
        obtain ⟨S2, ρ2, h2, ⟨lv, ids2, hnd2, hK⟩, rl2⟩ := hpost
        exact ⟨_, _, h2, hK, rl2.forget lv hnd2⟩
open Classical in
theorem Does.loop {live : List Nat} {b : IR} (I : Nat → St → Prop) (hn : ∃ n, I n S)
    (round : ∀ n S', I n S' → Does P G b S' (fun S'' => ∃ m ids, ids.Nodup ∧ m < n ∧ I m (S''.forget live ids)) (fun e S'' => ∃ lv ids, ids.Nodup ∧ Ke e (S''.forget lv ids))) : Does P G (.loop live b) S Kn Ke := by
  intro c B D ρ h a w hc rl
  cases hc with
  | loop hb =>
    obtain ⟨n, hn⟩ := hn
    let J : Nat → Act → World → Prop := fun n a w => ∃ S ρ h, I n S ∧ Rel B G D ρ h S a w
    let μ : Act → World → Nat := fun a w => if hx : ∃ m, J m a w ∧ ∀ k, J k a w → m ≤ k then hx.choose else 0
    have hle : ∀ n a w, J n a w → μ a w ≤ n := fun n a w hj => by
      have hx : ∃ m, J m a w ∧ ∀ k, J k a w → m ≤ k := least hj
      simp only [μ, dif_pos hx]
      exact hx.choose_spec.2 n hj
    refine wpIn_loop (fun a w => ∃ n, J n a w) μ ⟨n, _, _, h, hn, rl⟩ fun a w hI => ?_
    have hm : J (μ a w) a w := by
      obtain ⟨n, hj⟩ := hI
      have hx : ∃ m, J m a w ∧ ∀ k, J k a w → m ≤ k := least hj
      simp only [μ, dif_pos hx]
      exact hx.choose_spec.1
    obtain ⟨S', ρ', h', hI', rl'⟩ := hm
    refine wpIn_mono (round _ S' hI' _ _ _ _ _ _ _ hb rl') fun e a' w' hpost => ?_
    cases e with
    | normal =>
      obtain ⟨S2, ρ2, h2, ⟨m, ids2, hnd2, hlt, hm⟩, rl2⟩ := hpost
      have hj : J m a' w' := ⟨_, _, h2, hm, rl2.forget live hnd2⟩
      exact ⟨⟨m, hj⟩, Nat.lt_of_le_of_lt (hle m a' w' hj) hlt⟩
    | panic => exact hpost.elim
    | outgrown => exact hpost.elim
    | _ =>
      obtain ⟨S2, ρ2, h2, ⟨lv, ids2, hnd2, hK⟩, rl2⟩ := hpost
      exact ⟨_, _, h2, hK, rl2.forget lv hnd2⟩
theorem Does.exit {id : Nat} (h : Ke (.exit id) S) : Does P G (.exit id) S Kn Ke := by
  intro c B D ρ hh a w hc rl
  cases hc; exact wpIn_exit ⟨S, ρ, hh, h, rl⟩
theorem Does.label {id : Nat} (h : Kn S) : Does P G (.label id) S Kn Ke := by
  intro c B D ρ hh a w hc rl
  cases hc; exact wpIn_label ⟨S, ρ, hh, h, rl⟩
theorem Does.goto {id : Nat} (h : Ke (.goto id) S) : Does P G (.goto id) S Kn Ke := by
  intro c B D ρ hh a w hc rl
  cases hc; exact wpIn_goto ⟨S, ρ, hh, h, rl⟩
theorem Does.ret (h : Ke .ret S) : Does P G .ret S Kn Ke := by
  intro c B D ρ hh a w hc rl
  cases hc; exact wpIn_ret ⟨S, ρ, hh, h, rl⟩
/-! ### The walk over code -/
/-- The own things that a value names. -/
def SV.allIds : SV → List Nat
  | .row id => [id]
  | .ptr id _ => [id]
  | .rptr id _ _ _ => [id]
  | .mp id => [id]
  | .agg cs => cs.flatMap SV.allIds1
  | .tup cs => cs.flatMap SV.allIds1
  | .fn _ cs => cs.flatMap SV.allIds1
  | .p _ | .cnd .. | .any => []
where SV.allIds1 : SV → List Nat
  | .row id => [id]
  | .ptr id _ => [id]
  | .rptr id _ _ _ => [id]
  | .mp id => [id]
  | _ => []
def OB.allIds (own : List OB) (id : Nat) : List Nat :=
  match own.getD id .gone with
  | .box _ cs => cs.flatMap SV.allIds
  | _ => []
def dedupN : List Nat → List Nat → List Nat
  | [], acc => acc
  | x :: xs, acc => match acc.contains x with
    | true => dedupN xs acc
    | false => dedupN xs (acc ++ [x])
/-- The own things that go on: those that the live slots lead to; what was made persistent is no own thing. -/
def idsOf (live : List Nat) (S : St) : List Nat :=
  let a := dedupN ((live.flatMap fun i => (S.t.getD i .any).allIds)) []
  let b := dedupN (a.flatMap (OB.allIds S.own)) a
  let c := dedupN (b.flatMap (OB.allIds S.own)) b
  c.filter fun i => match S.own.getD i .gone with
    | .fro _ => false
    | .gone => false
    | _ => true
def nodupB : List Nat → Bool
  | [] => true
  | x :: xs => !xs.contains x && nodupB xs
theorem nodupB_ok : ∀ {l : List Nat}, nodupB l = true → l.Nodup
  | [], _ => List.nodup_nil
  | x :: xs, h => by
    simp only [nodupB, Bool.and_eq_true, Bool.not_eq_true', List.contains_eq_mem, decide_eq_false_iff_not] at h
    exact List.nodup_cons.2 ⟨h.1, nodupB_ok h.2⟩
def forgetT (live : List Nat) (S : St) (K : St → Tree β) : Tree β :=
  forceL (idsOf live S) fun ids => .chk (nodupB ids) (forceL (SV.renL S.own ids (forgetL live 0 S.t)) fun t => forceL (renO S.own ids ids) fun own => K ⟨t, own⟩)
theorem forgetT_sound {live : List Nat} {S : St} {K : St → Tree β} {b : β} (h : (forgetT live S K).run = some b) : ∃ ids : List Nat, ids.Nodup ∧ (K (S.forget live ids)).run = some b := by
  simp only [forgetT, forceL_eq, Tree.run_chk] at h
  exact ⟨_, nodupB_ok h.1, h.2⟩
abbrev Lam := (β : Type) → Nat → St → (St → Tree β) → (Exit → St → Tree β) → Tree β
def ev (G : Glob) (Γ : Gam) (Λ : Lam) : XR → St → (St → Tree β) → (Exit → St → Tree β) → Tree β
  | .skip, S, kn, _ => kn S
  | .ops d l, S, kn, _ => match d with
    | true => evOps G Γ (match IOp.apps (l.map (·.op)) with
      | true => 2
      | false => 1) l S kn
    | false => evOps G Γ 0 l S kn
  | .seq a b, S, kn, ke => ev G Γ Λ a S (fun S' => ev G Γ Λ b S' kn ke) ke
  | .cond c a b, S, kn, ke => match c with
    | .tmp i => match S.t.getD i .any with
      | .p (.bool t) => .br t (setG S i true fun S => ev G Γ Λ a S kn ke) (setG S i false fun S => ev G Γ Λ b S kn ke)
      | _ => .fail
    | .c (.bool t) => .br t (ev G Γ Λ a S kn ke) (ev G Γ Λ b S kn ke)
    | _ => .fail
  | .block id a, S, kn, ke => ev G Γ Λ a S kn fun e S' => match e with
    | .exit id' => match id' == id with
      | true => kn S'
      | false => ke (.exit id') S'
    | .ret => ke .ret S'
    | .goto l => ke (.goto l) S'
    | _ => .fail
  | .loop j live _, S, kn, ke => forgetT live S fun S => Λ β j S kn ke
  | .piece j live _, S, kn, ke => forgetT live S fun S => Λ β j S kn ke
  | .range j live _ _ _ _, S, kn, ke => forgetT live S fun S => Λ β j S kn ke
  | .any j live _ _, S, kn, ke => forgetT live S fun S => Λ β j S kn ke
  | .bad, _, _, _ => .fail
  | .pieceS j live _ _ r, S, kn, ke => forgetT live S fun S => Λ β j S (fun S' => ev G Γ Λ r S' kn ke) ke
  | .exit id, S, _, ke => ke (.exit id) S
  | .label _, S, kn, _ => kn S
  | .goto l, S, _, ke => ke (.goto l) S
  | .ret, S, _, ke => ke .ret S
  | .scope j live l a, S, kn, ke => ev G Γ Λ a S kn fun e S' => match e with
    | .goto l' => match l' == l with
      | true => forgetT live S' fun S => Λ β j S kn ke
      | false => .fail
    | .exit id => ke (.exit id) S'
    | .ret => ke .ret S'
    | _ => .fail
/-- What is told of a piece of code is right. -/
def LamAt (P : Program) (G : Glob) (Λ : Lam) (j : Nat) (c : IR) : Prop :=
  ∀ {β : Type} (S : St) (kn : St → Tree β) (ke : Exit → St → Tree β) (b : β), (Λ β j S kn ke).run = some b → ∀ {Kn : St → Prop} {Ke : Exit → St → Prop}, (∀ S, (kn S).run = some b → Kn S) → (∀ e S, (ke e S).run = some b → Ke e S) → Does P G c S Kn Ke
def JumpAt (P : Program) (G : Glob) (Λ : Lam) (j l : Nat) (r : IR) : Prop :=
  ∀ {β : Type} (S : St) (kn : St → Tree β) (ke : Exit → St → Tree β) (b : β), (Λ β j S kn ke).run = some b → ∀ {Kn : St → Prop} {Ke : Exit → St → Prop}, (∀ S, (kn S).run = some b → Kn S) → (∀ e S, (ke e S).run = some b → Ke e S) → Loops P G l r S Kn Ke
/-- The same for two pieces that follow each other, with all that is behind them. -/
def LamS (P : Program) (G : Glob) (Λ : Lam) (j : Nat) (x y : IR) : Prop :=
  ∀ {β : Type} (S : St) (kn : St → Tree β) (ke : Exit → St → Tree β) (b : β), (Λ β j S kn ke).run = some b → ∀ {r : IR} {Kn : St → Prop} {Ke : Exit → St → Prop}, (∀ S, (kn S).run = some b → Does P G r S Kn Ke) → (∀ e S, (ke e S).run = some b → Ke e S) → Does P G (.seq x (.seq y r)) S Kn Ke
def XR.lam (P : Program) (G : Glob) (Λ : Lam) : XR → Prop
  | .seq a b => a.lam P G Λ ∧ b.lam P G Λ
  | .cond _ a b => a.lam P G Λ ∧ b.lam P G Λ
  | .block _ a => a.lam P G Λ
  | .loop j live a => LamAt P G Λ j (.loop live a.erase)
  | .piece j _ a => LamAt P G Λ j a.erase
  | .range j _ f ps a b => LamAt P G Λ j (.rangeF f ps a.erase b.erase)
  | .scope j _ l a => a.lam P G Λ ∧ ∃ r, findL a.erase l = some r ∧ JumpAt P G Λ j l r
  | .any j _ t l => LamAt P G Λ j (.any t (l.map (·.op)))
  | .bad => True
  | .pieceS j _ a b r => LamS P G Λ j a.erase b.erase ∧ r.lam P G Λ
  | .skip | .ops .. | .exit _ | .label _ | .goto _ | .ret => True
/-- What is never come to. -/
theorem LamAt.none {P : Program} {G : Glob} {Λ : Lam} {j : Nat} {c : IR} (h : ∀ {β : Type} (S : St) (kn : St → Tree β) (ke : Exit → St → Tree β), Λ β j S kn ke = .fail) : LamAt P G Λ j c :=
  fun {β} S kn ke b hb => by rw [h] at hb; exact (Tree.run_fail.1 hb).elim
theorem JumpAt.none {P : Program} {G : Glob} {Λ : Lam} {j l : Nat} {c : IR} (h : ∀ {β : Type} (S : St) (kn : St → Tree β) (ke : Exit → St → Tree β), Λ β j S kn ke = .fail) : JumpAt P G Λ j l c :=
  fun {β} S kn ke b hb => by rw [h] at hb; exact (Tree.run_fail.1 hb).elim
theorem ev_sound {Γ : Gam} (hΓ : GamOk P G Γ) {Λ : Lam} : ∀ {x : XR}, x.lam P G Λ → ∀ {S : St} {kn : St → Tree β} {ke : Exit → St → Tree β} {b : β}, (ev G Γ Λ x S kn ke).run = some b →
    ∀ {Kn : St → Prop} {Ke : Exit → St → Prop}, (∀ S, (kn S).run = some b → Kn S) → (∀ e S, (ke e S).run = some b → Ke e S) → Does P G x.erase S Kn Ke := by
  intro x
  induction x with
  | skip => intro _ S kn ke b h Kn Ke hn he; exact .skip (hn _ h)
  | ops d l =>
    intro _ S kn ke b h Kn Ke hn he
    cases d with
    | true => exact .draw (evDraw_sound hΓ hn _ h)
    | false => exact .ops (evOps_sound hΓ hn h)
  | seq a b' iha ihb =>
    intro hl S kn ke b h Kn Ke hn he
    exact Does.seq (iha hl.1 (Kn := fun S' => Does P G b'.erase S' Kn Ke) h (fun S' h' => ihb hl.2 h' hn he) he) fun _ h => h
  | cond c a b' iha ihb =>
    intro hl S kn ke b h Kn Ke hn he
    simp only [ev] at h
    split at h
    · split at h
      · rename_i i _ t e1
        have e2 : evS G S (.tmp i) = .p (.bool t) := by simp only [evS, e1, SV.res]
        rw [Tree.run_br] at h
        refine .cond e2 (fun ht => ?_) fun ht => ?_
        · subst ht
          rcases h with ⟨_, h⟩ | ⟨h0, _⟩
          · rw [setG_eq e1] at h; exact iha hl.1 h hn he
          · cases h0
        · subst ht
          rcases h with ⟨h0, _⟩ | ⟨_, h⟩
          · cases h0
          · rw [setG_eq e1] at h; exact ihb hl.2 h hn he
      · exact (Tree.run_fail.1 h).elim
    · rename_i t
      rw [Tree.run_br] at h
      refine .cond (t := t) rfl (fun ht => ?_) fun ht => ?_
      · subst ht
        rcases h with ⟨_, h⟩ | ⟨h0, _⟩
        · exact iha hl.1 h hn he
        · cases h0
      · subst ht
        rcases h with ⟨h0, _⟩ | ⟨_, h⟩
        · cases h0
        · exact ihb hl.2 h hn he
    · exact (Tree.run_fail.1 h).elim
  | block id a ih =>
    intro hl S kn ke b h Kn Ke hn he
    refine .block (ih hl h hn fun e S' h' => ?_)
    cases e with
    | exit id' =>
      dsimp only at h' ⊢
      split at h'
      · rename_i e; rw [if_pos (by simpa using e)]; exact hn _ h'
      · rename_i e; rw [if_neg (by simpa using e)]; exact he _ _ h'
    | ret => exact he _ _ h'
    | goto => exact he _ _ h'
    | _ => exact (Tree.run_fail.1 h').elim
  | loop j live a ih =>
    intro hl S kn ke b h Kn Ke hn he
    obtain ⟨ids, h1, h2⟩ := forgetT_sound h
    exact does_forget live h1 (hl _ _ _ _ h2 hn he)
  | piece j live a ih =>
    intro hl S kn ke b h Kn Ke hn he
    obtain ⟨ids, h1, h2⟩ := forgetT_sound h
    exact does_forget live h1 (hl _ _ _ _ h2 hn he)
  | range j live f ps a b' iha ihb =>
    intro hl S kn ke b h Kn Ke hn he
    obtain ⟨ids, h1, h2⟩ := forgetT_sound h
    exact does_forget live h1 (hl _ _ _ _ h2 hn he)
  | any j live t l =>
    intro hl S kn ke b h Kn Ke hn he
    obtain ⟨ids, h1, h2⟩ := forgetT_sound h
    exact does_forget live h1 (hl _ _ _ _ h2 hn he)
  | bad => intro _ S kn ke b h Kn Ke hn he; exact (Tree.run_fail.1 h).elim
  | pieceS j live a b' r _ _ ihr =>
    intro hl S kn ke b h Kn Ke hn he
    obtain ⟨ids, h1, h2⟩ := forgetT_sound h
    exact does_forget live h1 (hl.1 _ _ _ _ h2 (fun S h => ihr hl.2 h hn he) he)
  | exit id => intro _ S kn ke b h Kn Ke hn he; exact .exit (he _ _ h)
  | label l => intro _ S kn ke b h Kn Ke hn he; exact .label (hn _ h)
  | goto l => intro _ S kn ke b h Kn Ke hn he; exact .goto (he _ _ h)
  | ret => intro _ S kn ke b h Kn Ke hn he; exact .ret (he _ _ h)
  | scope j live l a ih =>
    intro hl S kn ke b h Kn Ke hn he
    obtain ⟨hl, r, hr, hj⟩ := hl
    refine .scope hr (ih hl h hn fun e S' h' => ?_)
    cases e with
    | goto l' =>
      dsimp only at h' ⊢
      split at h'
      · rename_i e1
        obtain ⟨ids, h1, h2⟩ := forgetT_sound h'
        exact ⟨by simpa using e1, live, ids, h1, hj _ _ _ _ h2 hn he⟩
      · exact (Tree.run_fail.1 h').elim
    | exit id => exact he _ _ h'
    | ret => exact he _ _ h'
    | _ => exact (Tree.run_fail.1 h').elim
end
end Go.Fx
