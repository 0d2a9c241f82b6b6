/-
  Fx, part 20: ranges over functions.
-/
import Derived.Test.YtlfffpkfipdboaaDoorFxFin
set_option linter.unusedSimpArgs false
set_option linter.unusedVariables false
namespace Go.Fx
open Go.RowKit
/-! ### What a piece of code without loops does: nothing is renumbered -/
def PostE (B : Base) (G : Glob) (D : List Deferred) (ρ0 : Env) (h0 : Heap) (Kn : St → Prop) (Ke : Exit → St → Prop) : Exit → Act → World → Prop
  | .normal, a, w => ∃ S ρ h, Kn S ∧ Rel B G D ρ h S a w ∧ Env.le ρ0 ρ ∧ h0 ≤ h
  | .panic _, _, _ => False
  | .outgrown, _, _ => False
  | e, a, w => ∃ S ρ h, Ke e S ∧ Rel B G D ρ h S a w ∧ Env.le ρ0 ρ ∧ h0 ≤ h
def DoesE (P : Program) (G : Glob) (r : Option Nat) (ir : IR) (S : St) (Kn : St → Prop) (Ke : Exit → St → Prop) : Prop :=
  ∀ (c : Code) (B : Base) (D : List Deferred) (ρ0 : Env) (h0 : Heap) (ρ : Env) (h : Heap) (a : Act) (w : World), CompCode P c ir → Rel B G D ρ h S a w → Env.le ρ0 ρ → h0 ≤ h → c.wpIn (FR r) 0 P (PostE B G D ρ0 h0 Kn Ke) a w
variable {P : Program} {G : Glob} {r : Option Nat} {S : St} {Kn M : St → Prop} {Ke : Exit → St → Prop}
theorem DoesE.skip (h : Kn S) : DoesE P G r .skip S Kn Ke := by
  intro c B D ρ0 h0 ρ hh a w hc rl l1 l2
  cases hc
  exact wpIn_skip ⟨S, ρ, hh, h, rl, l1, l2⟩
theorem DoesE.ops {l : List IOp} (h : yOps P G l S Kn) : DoesE P G r (.ops false l) S Kn Ke := by
  intro c B D ρ0 h0 ρ hh a w hc rl l1 l2
  cases hc with
  | @region id ops _ hops =>
    refine wpIn_region ?_
    have := yOps_sound (r := r) (ops := ops) (Q := PostE B G D ρ0 h0 Kn Ke) (K := Kn) (ρ0 := ρ0) (h0 := h0) (fun S' ρ' h' a' w' hK rl' l1 l2 => ⟨S', ρ', h', hK, rl', l1, l2⟩) l ops.toList 0 rfl hops rl l1 l2 h
    rw [List.range_eq_range']
    simpa using this
theorem DoesE.draw {is : List IOp} (hp : yDraw P G (IOp.apps is) is S Kn) : DoesE P G r (.ops true is) S Kn Ke := by
  intro c B D ρ0 h0 ρ h a w hc rl l1 l2
  cases hc with
  | @regionD id ops _ hops hlex hm =>
    have rl' : Rel B G D ρ h S a { w with drawn := w.drawn + 1 } := ⟨rl.size, rl.tmp, rl.defs, rl.sat.heap rfl ⟨rfl, rfl⟩, rl.glob⟩
    refine wpIn_region_draw fun t => ?_
    simp only [Region.schedule, hm, Bool.true_or, if_true]
    have hl : is.length = ops.size := by have := hops.length; simpa using this.symm
    have hget : ∀ {os : List Oper} {js : List IOp}, All2 (CompOp P ops) os js → ∀ (i : Nat) o, os[i]? = some o → ∃ io, js[i]? = some io ∧ CompOp P ops o io := by
      intro os js h
      induction h with
      | nil => intro i o e; simp at e
      | cons hx _ ih =>
        intro i o e
        cases i with
        | zero => simp at e; subst e; exact ⟨_, rfl, hx⟩
        | succ i => simp at e; simpa using ih i o e
    have hany := yAny_lex (ops := ops) (is := is) (K := Kn) is 0 (Array.replicate ops.size false) S (fun j => by simp) (fun k o _ hk => by simp [Array.getElem?_replicate] at hk; split at hk <;> simp at hk) hlex hp
    rw [hl] at hany
    exact yAny_sound (is := is) (K := Kn) (fun i o e => hget hops i o (by simpa using e)) (ρ0 := ρ0) (h0 := h0) (fun S' ρ' h' a' w' hK rl' l1 l2 => ⟨S', ρ', h', hK, rl', l1, l2⟩) ops.size t _ rl' l1 l2 hany
theorem DoesE.seq {a b : IR} (ha : DoesE P G r a S M Ke) (hb : ∀ S', M S' → DoesE P G r b S' Kn Ke) : DoesE P G r (.seq a b) S Kn Ke := by
  intro c B D ρ0 h0 ρ h ac w hc rl l1 l2
  cases hc with
  | seq h1 h2 =>
    refine wpIn_seq (wpIn_mono (ha _ _ _ _ _ _ _ _ _ h1 rl l1 l2) fun e a' w' hpost => ?_)
    cases e with
    | normal => obtain ⟨S', ρ', h', hK, rl', l1', l2'⟩ := hpost; exact hb S' hK _ B D ρ0 h0 ρ' h' a' w' h2 rl' l1' l2'
    | panic => exact hpost.elim
    | outgrown => exact hpost.elim
    | _ => exact hpost
theorem DoesE.cond {c : Opd} {t : Bool} {x y : IR} (e1 : evS G S c = .p (.bool t)) (h1 : t = true → DoesE P G r x S Kn Ke) (h2 : t = false → DoesE P G r y S Kn Ke) : DoesE P G r (.cond c x y) S Kn Ke := by
  intro c B D ρ0 h0 ρ h a w hc rl l1 l2
  cases hc with
  | cond hcc ha hb =>
    have he := rl.eval hcc
    rw [e1] at he
    exact wpIn_cond_split he (fun ht => h1 ht _ _ _ _ _ _ _ _ _ ha rl l1 l2) fun ht => h2 ht _ _ _ _ _ _ _ _ _ hb rl l1 l2
theorem DoesE.block {id : Nat} {b : IR} (hb : DoesE P G r b S Kn (fun e S' => match e with
      | .exit id' => if id' = id then Kn S' else Ke (.exit id') S'
      | e => Ke e S')) : DoesE P G r (.block id b) S Kn Ke := by
  intro c B D ρ0 h0 ρ h a w hc rl l1 l2
  cases hc with
  | block h1 =>
    refine wpIn_block (wpIn_mono (hb _ _ _ _ _ _ _ _ _ h1 rl l1 l2) fun e a' w' hpost => ?_)
    cases e with
    | exit id' =>
      obtain ⟨S', ρ', h', hK, rl'⟩ := hpost
      dsimp only at hK
      simp only [Exit.inBlock]
      split
      · rename_i e; rw [if_pos e] at hK; exact ⟨S', ρ', h', hK, rl'⟩
      · rename_i e; rw [if_neg e] at hK; exact ⟨S', ρ', h', hK, rl'⟩
    | normal => exact hpost
    | panic => exact hpost.elim
    | outgrown => exact hpost.elim
    | goto => exact hpost
    | ret => exact hpost
theorem DoesE.exit {id : Nat} (h : Ke (.exit id) S) : DoesE P G r (.exit id) S Kn Ke := by
  intro c B D ρ0 h0 ρ hh a w hc rl l1 l2
  cases hc; exact wpIn_exit ⟨S, ρ, hh, h, rl, l1, l2⟩
theorem DoesE.label {id : Nat} (h : Kn S) : DoesE P G r (.label id) S Kn Ke := by
  intro c B D ρ0 h0 ρ hh a w hc rl l1 l2
  cases hc; exact wpIn_label ⟨S, ρ, hh, h, rl, l1, l2⟩
theorem DoesE.goto {id : Nat} (h : Ke (.goto id) S) : DoesE P G r (.goto id) S Kn Ke := by
  intro c B D ρ0 h0 ρ hh a w hc rl l1 l2
  cases hc; exact wpIn_goto ⟨S, ρ, hh, h, rl, l1, l2⟩
theorem DoesE.ret (h : Ke .ret S) : DoesE P G r .ret S Kn Ke := by
  intro c B D ρ0 h0 ρ hh a w hc rl l1 l2
  cases hc; exact wpIn_ret ⟨S, ρ, hh, h, rl, l1, l2⟩
/-- Code without loops. -/
def XR.plain : XR → Bool
  | .seq a b => a.plain && b.plain
  | .cond _ a b => a.plain && b.plain
  | .block _ a => a.plain
  | .skip | .ops .. | .exit _ | .label _ | .goto _ | .ret => true
  | .loop .. | .piece .. | .scope .. | .range .. | .any .. | .bad | .pieceS .. => false
theorem ev_soundE {β : Type} {Γ : Gam} (hΓ : GamOk P G Γ) {Λ : Lam} : ∀ {x : XR}, x.plain = true → ∀ {S : St} {kn : St → Tree β} {ke : Exit → St → Tree β} {b : β}, (ev G Γ Λ x S kn ke).run = some b →
    ∀ {Kn : St → Prop} {Ke : Exit → St → Prop}, (∀ S, (kn S).run = some b → Kn S) → (∀ e S, (ke e S).run = some b → Ke e S) → DoesE P G r x.erase S Kn Ke := by
  intro x
  induction x with
  | skip => intro _ S kn ke b h Kn Ke hn he; exact .skip (hn _ h)
  | ops d l =>
    intro _ S kn ke b h Kn Ke hn he
    cases d with
    | true => exact .draw (evDraw_sound hΓ hn _ h)
    | false => exact .ops (evOps_sound hΓ hn h)
  | seq a b' iha ihb =>
    intro hl S kn ke b h Kn Ke hn he
    simp only [XR.plain, Bool.and_eq_true] at hl
    exact DoesE.seq (iha hl.1 (Kn := fun S' => DoesE P G r b'.erase S' Kn Ke) h (fun S' h' => ihb hl.2 h' hn he) he) fun _ h => h
  | cond c a b' iha ihb =>
    intro hl S kn ke b h Kn Ke hn he
    simp only [XR.plain, Bool.and_eq_true] at hl
    simp only [ev] at h
    split at h
    · split at h
      · rename_i i _ t e1
        have e2 : evS G S (.tmp i) = .p (.bool t) := by simp only [evS, e1, SV.res]
        rw [Tree.run_br] at h
        refine .cond e2 (fun ht => ?_) fun ht => ?_
        · subst ht
          rcases h with ⟨_, h⟩ | ⟨h0, _⟩
          · rw [setG_eq e1] at h; exact iha hl.1 h hn he
          · cases h0
        · subst ht
          rcases h with ⟨h0, _⟩ | ⟨_, h⟩
          · cases h0
          · rw [setG_eq e1] at h; exact ihb hl.2 h hn he
      · exact (Tree.run_fail.1 h).elim
    · rename_i t
      rw [Tree.run_br] at h
      refine .cond (t := t) rfl (fun ht => ?_) fun ht => ?_
      · subst ht
        rcases h with ⟨_, h⟩ | ⟨h0, _⟩
        · exact iha hl.1 h hn he
        · cases h0
      · subst ht
        rcases h with ⟨h0, _⟩ | ⟨_, h⟩
        · cases h0
        · exact ihb hl.2 h hn he
    · exact (Tree.run_fail.1 h).elim
  | block id a ih =>
    intro hl S kn ke b h Kn Ke hn he
    refine .block (ih hl h hn fun e S' h' => ?_)
    cases e with
    | exit id' =>
      dsimp only at h' ⊢
      split at h'
      · rename_i e; rw [if_pos (by simpa using e)]; exact hn _ h'
      · rename_i e; rw [if_neg (by simpa using e)]; exact he _ _ h'
    | ret => exact he _ _ h'
    | goto => exact he _ _ h'
    | _ => exact (Tree.run_fail.1 h').elim
  | exit id => intro _ S kn ke b h Kn Ke hn he; exact .exit (he _ _ h)
  | label l => intro _ S kn ke b h Kn Ke hn he; exact .label (hn _ h)
  | goto l => intro _ S kn ke b h Kn Ke hn he; exact .goto (he _ _ h)
  | ret => intro _ S kn ke b h Kn Ke hn he; exact .ret (he _ _ h)
  | loop => intro hl; cases hl
  | piece => intro hl; cases hl
  | scope => intro hl; cases hl
  | range => intro hl; cases hl
  | any => intro hl; cases hl
  | bad => intro hl; cases hl
  | pieceS => intro hl; cases hl
/-! ### Bases -/
def fps (own : List OB) (ρ : Env) (b : Nat) : Prop := ∃ (i : Nat) (ob : OB) (v : Value), own[i]? = some ob ∧ ρ[i]? = some v ∧ ob.fp v = some b
/-- The same, seen from here on. -/
theorem Sat.rebase {B : Base} {ρ : Env} {h : Heap} {own : List OB} {w : World} (s : Sat B ρ h own w) : Sat ⟨w, h, fps own ρ⟩ ρ h own w where
  len := s.len
  sub := s.sub
  ent := s.ent
  nodup := s.nodup
  apart := s.apart
  size := Nat.le_refl _
  keep := fun _ _ _ => rfl
  old := fun _ _ _ => rfl
  mine := fun i ob v b e1 e2 e3 => .inl ⟨i, ob, v, e1, e2, e3⟩
  outer := Out.refl
theorem Sat.unbase {B : Base} {ρ : Env} {h : Heap} {own : List OB} {w : World} (s : Sat B ρ h own w) {F : Nat → Prop} (hF : ∀ b, F b → B.F0 b ∨ B.w0.heap.size ≤ b) {ρ' : Env} {h' : Heap} {own' : List OB} {w' : World} (s' : Sat ⟨w, h, F⟩ ρ' h' own' w') : Sat B ρ' h' own' w' where
  len := s'.len
  sub := s'.sub
  ent := s'.ent
  nodup := s'.nodup
  apart := s'.apart
  size := Nat.le_trans s.size s'.size
  keep := fun b h1 h2 => (s'.keep b (Nat.lt_of_lt_of_le h1 s.size) fun f => (hF b f).elim h2 fun h3 => by omega).trans (s.keep b h1 h2)
  old := fun b h1 h2 => (s'.old b (Nat.lt_of_lt_of_le h1 s.size) fun f => (hF b f).elim h2 fun h3 => by omega).trans (s.old b h1 h2)
  mine := fun i ob v b e1 e2 e3 => (s'.mine i ob v b e1 e2 e3).elim (hF b) fun h3 => .inr (Nat.le_trans s.size h3)
  outer := s.outer.trans s'.outer
theorem Sat.fps_ok {B : Base} {ρ : Env} {h : Heap} {own : List OB} {w : World} (s : Sat B ρ h own w) (b : Nat) (f : fps own ρ b) : B.F0 b ∨ B.w0.heap.size ≤ b := by
  obtain ⟨i, ob, v, e1, e2, e3⟩ := f
  exact s.mine i ob v b e1 e2 e3
theorem Sat.fps_none {B : Base} {ρ : Env} {h : Heap} {own : List OB} {w : World} (s : Sat B ρ h own w) {b : Nat} (f : fps own ρ b) : h b = none := by
  obtain ⟨i, ob, v, e1, e2, e3⟩ := f
  exact s.apart i ob v b e1 e2 e3
theorem Sat.fps_lt {B : Base} {ρ : Env} {h : Heap} {own : List OB} {w : World} (s : Sat B ρ h own w) {b : Nat} (f : fps own ρ b) : b < w.heap.size := by
  obtain ⟨i, ob, v, e1, e2, e3⟩ := f
  exact OB.fp_lt (s.ent i ob v e1 e2) e3
/-- More may be written. -/
theorem Sat.loosen {B : Base} {ρ : Env} {h : Heap} {own : List OB} {w : World} (s : Sat B ρ h own w) {F : Nat → Prop} (hF : ∀ b, B.F0 b → F b) : Sat ⟨B.w0, B.h0, F⟩ ρ h own w where
  len := s.len
  sub := s.sub
  ent := s.ent
  nodup := s.nodup
  apart := s.apart
  size := s.size
  keep := fun b h1 h2 => s.keep b h1 fun f => h2 (hF b f)
  old := fun b h1 h2 => s.old b h1 fun f => h2 (hF b f)
  mine := fun i ob v b e1 e2 e3 => (s.mine i ob v b e1 e2 e3).imp (hF b) id
  outer := s.outer
/-- A block that nobody speaks of is turned. -/
theorem Sat.poke {B : Base} {ρ : Env} {h : Heap} {own : List OB} {w : World} (s : Sat B ρ h own w) {l : Nat} (o : Obj) (hl : B.F0 l ∨ B.w0.heap.size ≤ l) (h0 : h l = none) (hf : ¬ fps own ρ l) : Sat B ρ h own (w.putObj l o) where
  len := s.len
  sub := fun b o' e => (World.putObj_heap_other (fun f => by subst f; rw [h0] at e; cases e)).trans (s.sub b o' e)
  ent := fun i ob v e1 e2 => OB.sat_mono (Env.le_refl _) (Heap.le_refl _) (s.ent i ob v e1 e2) fun b hb => World.putObj_heap_other fun f => hf ⟨i, ob, v, e1, e2, f ▸ hb⟩
  nodup := s.nodup
  apart := s.apart
  size := by rw [World.putObj_size]; exact s.size
  keep := fun b h1 h2 => (World.putObj_heap_other (fun f => by subst f; exact hl.elim h2 fun h3 => by omega)).trans (s.keep b h1 h2)
  old := s.old
  mine := s.mine
  outer := s.outer
/-- One block is as it was. -/
theorem Sat.tighten {w0 : World} {h0 : Heap} {F : Nat → Prop} {l : Nat} {ρ : Env} {h : Heap} {own : List OB} {w : World} (s : Sat ⟨w0, h0, fun b => F b ∨ b = l⟩ ρ h own w) (e1 : w.heap[l]? = w0.heap[l]?) (e2 : h l = h0 l) (hf : ¬ fps own ρ l) : Sat ⟨w0, h0, F⟩ ρ h own w where
  len := s.len
  sub := s.sub
  ent := s.ent
  nodup := s.nodup
  apart := s.apart
  size := s.size
  keep := fun b h1 h2 => by
    by_cases e : b = l
    · subst e; exact e1
    · exact s.keep b h1 fun f => f.elim h2 e
  old := fun b h1 h2 => by
    by_cases e : b = l
    · subst e; exact e2
    · exact s.old b h1 fun f => f.elim h2 e
  mine := fun i ob v b f1 f2 f3 => by
    rcases s.mine i ob v b f1 f2 f3 with (f | f) | f
    · exact .inl f
    · subst f; exact absurd ⟨i, ob, v, f1, f2, f3⟩ hf
    · exact .inr f
  outer := s.outer
/-! ### Iterators -/
def Grows (W W' : World) : Prop := W.heap.size ≤ W'.heap.size ∧ (∀ b : Nat, b < W.heap.size → W'.heap[b]? = W.heap[b]?) ∧ Out W W'
theorem Grows.refl (W : World) : Grows W W := ⟨Nat.le_refl _, fun _ _ => rfl, Out.refl⟩
/-- **A function that goes through these, one by one, as long as it is asked.** -/
def SeqEq (P : Program) (G : Glob) (f : FuncId) (caps : List PV) (items : List (List PV)) : Prop :=
  calleeOk P f = true ∧ ∀ (w : World) (h : Heap) (vs : List Value), h ≤ full w → GlobOk G h → PV.relL h caps vs →
    ∀ (l : Nat) (J Jx : Nat → Heap → World → Prop), J 0 h w →
      (∀ (k : Nat) (h0 hk : Heap) (W0 W : World) (it : List PV) (us : List Value), J k h0 W0 → Grows W0 W → h0 ≤ hk → hk ≤ full W → (∀ b, b < W0.heap.size → hk b = h0 b) → items[k]? = some it → PV.relL hk it us →
        YieldAt (FR none) 0 P l us.toArray W fun e W' => (e = .returned (.bool true) ∧ J (k + 1) hk W' ∧ hk ≤ full W' ∧ W.heap.size ≤ W'.heap.size ∧ Out W W') ∨ (e = .returned (.bool false) ∧ Jx (k + 1) hk W')) →
      CallsIn (FR none) 0 P f (.func (.yield l) #[] #[] :: vs).toArray w fun e w' => (∃ v, e = .returned v) ∧ ∃ (hk : Heap) (W : World), Grows W w' ∧ (J items.length hk W ∨ ∃ k, k ≤ items.length ∧ Jx k hk W)
/-- The parameters are set. -/
def setL : List SV → List Nat → List PV → List SV
  | t, p :: ps, x :: xs => setL (t.set p (.p x)) ps xs
  | t, _, _ => t
/-- A state that goes on as another one. -/
structure Into (S S' : St) : Prop where
  go : ∀ {B : Base} {G : Glob} {D : List Deferred} {ρ : Env} {h : Heap} {a : Act} {w : World}, Rel B G D ρ h S a w → ∃ ρ', Rel B G D ρ' h S' a w
theorem Into.refl (S : St) : Into S S := ⟨fun rl => ⟨_, rl⟩⟩
theorem Into.forget {S : St} (lv : List Nat) {ids : List Nat} (hn : ids.Nodup) : Into S (S.forget lv ids) := ⟨fun rl => ⟨_, rl.forget lv hn⟩⟩
theorem Into.trans {S S' S'' : St} (a : Into S S') (b : Into S' S'') : Into S S'' := ⟨fun rl => by
  obtain ⟨_, r1⟩ := a.go rl
  exact b.go r1⟩
theorem Into.prep {live : List Nat} {nils : List (Nat × TypeId)} {S S' : St} (h : Prep live nils S S') : Into S S' := by
  obtain ⟨S1, ids, h1, h2, rfl⟩ := h
  exact ⟨fun rl => by
    obtain ⟨ρ', r1⟩ := rl.conv h1
    exact ⟨_, r1.forget live h2⟩⟩
inductive JumpOf : Exit → Code → Prop where
  | ret : JumpOf .ret .ret
  | exit {id} : JumpOf (.exit id) (.exit id)
  | goto {l} : JumpOf (.goto l) (.goto l)
theorem fold_set_get (ps : List Nat) (us : List Value) : ∀ (t : Array Value), ((ps.zip us).foldl (fun t (q : Nat × Value) => t.setIfInBounds q.1 q.2) t).size = t.size := by
  induction ps generalizing us with
  | nil => intro t; rfl
  | cons p ps ih =>
    intro t
    cases us with
    | nil => rfl
    | cons u us => rw [List.zip_cons_cons, List.foldl_cons, ih]; simp
theorem Rel.setL {B : Base} {D : List Deferred} {ρ : Env} {h : Heap} {own : List OB} {w : World} {ds : List Deferred} : ∀ (ps : List Nat) (it : List PV) (us : List Value) (t : List SV) (ts : Array Value), PV.relL h it us → Rel B G D ρ h ⟨t, own⟩ ⟨ts, ds⟩ w →
    Rel B G D ρ h ⟨setL t ps it, own⟩ ⟨(ps.zip us).foldl (fun t (q : Nat × Value) => t.setIfInBounds q.1 q.2) ts, ds⟩ w
  | [], it, us, t, ts, _, rl => by simpa [Fx.setL] using rl
  | p :: ps, [], us, t, ts, hr, rl => by
    obtain rfl : us = [] := hr
    simpa [Fx.setL] using rl
  | p :: ps, x :: it, us, t, ts, hr, rl => by
    obtain ⟨u, us', rfl, h1, h2⟩ := hr
    rw [List.zip_cons_cons, List.foldl_cons]
    refine Rel.setL ps it us' (t.set p (.p x)) (ts.setIfInBounds p u) h2 ?_
    have := rl.put (dst := some p) (x := .p x) (v := u) h1 rl.sat (Env.le_refl _) (Heap.le_refl _)
    exact this
/-! ### The statement -/
def recOf (fn : FuncId) (tmps : Array Value) (ps : Array Tmp) (as bd : Code) (m : Nat) (st : LoopState) (pe : Option Code) : Loop := { state := st, pending := pe, fn := fn, tmps := tmps, params := ps, assign := as, body := bd, defers := m }
theorem Does.range {f : Opd} {ps : List Nat} {as bd : IR} {g : FuncId} {caps : List PV} (hf : evS G S f = .p (.fn g caps)) {items : List (List PV)} (hseq : SeqEq P G g caps items) (hlen : ∀ it ∈ items, it.length = ps.length)
    {I : Nat → St → Prop} {X : Exit → St → Prop} (hI0 : ∃ S0, Into S S0 ∧ I 0 S0)
    (round : ∀ k S' it, I k S' → items[k]? = some it → ∀ l, DoesE P G (some l) as ⟨setL S'.t ps it, S'.own⟩ (fun S1 => DoesE P G (some l) bd S1 (fun S2 => ∃ S3, Into ⟨S'.t, S2.own⟩ S3 ∧ I (k + 1) S3) (fun e S2 => ∃ S3, Into ⟨S'.t, S2.own⟩ S3 ∧ X e S3)) (fun _ _ => False))
    (done : ∀ S', I items.length S' → Kn S') (stop : ∀ e S', X e S' → Ke e S') : Does P G (.rangeF f ps as bd) S Kn Ke := by
  intro c B D ρ h a w hc rl
  cases hc with
  | @rangeF f0 _ ps0 as0 bd0 _ _ hfo hca hcb =>
    have hg := rl.eval hfo
    rw [hf] at hg
    obtain ⟨vs, hg1, hg2⟩ := hg
    obtain ⟨hok, hcall⟩ := hseq
    obtain ⟨S0, hin, hI0⟩ := hI0
    refine wpIn_rangeFunc fun fn hfn => ?_
    obtain ⟨m, hm⟩ : ∃ m, w.heap.size = m := ⟨_, rfl⟩
    obtain ⟨W1, hW1⟩ : ∃ W1, (w.alloc (.deferred (some []))).alloc (.loop (recOf fn a.tmps ps0 as0 bd0 m .ready none)) = W1 := ⟨_, rfl⟩
    have hz1 : W1.heap.size = m + 2 := by rw [← hW1, World.size_alloc, World.size_alloc, hm]
    have hL1 : W1.heap[m + 1]? = some (.loop (recOf fn a.tmps ps0 as0 bd0 m .ready none)) := by
      rw [← hW1]; have := World.alloc_heap_new (w.alloc (.deferred (some []))) (.loop (recOf fn a.tmps ps0 as0 bd0 m .ready none)); rwa [World.size_alloc, hm] at this
    have hK1 : W1.heap[m]? = some (.deferred (some [])) := by
      rw [← hW1, ← hm]; exact (Below.heap_alloc _ _ _ (by simp)).trans (World.alloc_heap_new w _)
    have hB1 : ∀ b : Nat, b < w.heap.size → W1.heap[b]? = w.heap[b]? := fun b hb => by
      rw [← hW1]; exact (Below.heap_alloc _ _ _ (by simp; omega)).trans (Below.heap_alloc _ _ _ hb)
    have ho1 : Out w W1 := by rw [← hW1]; exact ⟨rfl, rfl⟩
    obtain ⟨hD, hhD⟩ : ∃ hD : Heap, (fun b => if b = m then some (.deferred (some [])) else h b) = hD := ⟨_, rfl⟩
    have hDm : hD m = some (.deferred (some [])) := by rw [← hhD]; exact if_pos rfl
    have hDo : ∀ b, b ≠ m → hD b = h b := fun b hb => by rw [← hhD]; exact if_neg hb
    have hlt : ∀ b o, h b = some o → b < m := fun b o e => by rw [← hm]; exact (Array.getElem?_eq_some_iff.1 (rl.sat.sub b o e)).1
    have hle : h ≤ hD := fun b o e => by rw [hDo b (by have := hlt b o e; omega)]; exact e
    have hDl : hD (m + 1) = none := by
      rw [hDo _ (by omega)]
      cases e : h (m + 1) with
      | none => rfl
      | some o => have := hlt _ _ e; omega
    have sat1 : Sat B ρ hD S.own W1 := rl.sat.grown (by rw [hz1, hm]; omega) hB1 (fun b hb => hDo b (by omega)) (fun b o e => by
      by_cases hb : b = m
      · subst hb; rw [hDm] at e; cases e; exact hK1
      · rw [hDo b hb] at e
        rw [hB1 b (by have := hlt b o e; omega)]
        exact rl.sat.sub b o e) ho1
    have glob1 : GlobOk G hD := fun g x e => ⟨PV.rel_mono hle _ _ (rl.glob g x e).1, tabOk_mono hle (rl.glob g x e).2⟩
    have hnf : ¬ fps S.own ρ (m + 1) := fun f => by have := rl.sat.fps_lt f; omega
    have hnm : ¬ fps S.own ρ m := fun f => by have := rl.sat.fps_lt f; omega
    obtain ⟨Bl, hBl⟩ : ∃ Bl : Base, Bl = ⟨W1, hD, fps S.own ρ⟩ := ⟨_, rfl⟩
    obtain ⟨Bx, hBx⟩ : ∃ Bx : Base, Bx = ⟨W1, hD, fun b => fps S.own ρ b ∨ b = m + 1⟩ := ⟨_, rfl⟩
    have rlB : Rel Bl G (markOf m :: a.defers) ρ hD S ⟨a.tmps, markOf m :: a.defers⟩ W1 := ⟨rl.size, fun i x v e1 e2 => SV.rel_mono (Env.le_refl _) hle _ _ (rl.tmp i x v e1 e2), Defs.refl _ _ _, by rw [hBl]; exact sat1.rebase, glob1⟩
    -- what every state between two rounds says of the record
    have keepL : ∀ {ρ' : Env} {h' : Heap} {own : List OB} {W : World}, Sat Bl ρ' h' own W → W.heap[m + 1]? = some (.loop (recOf fn a.tmps ps0 as0 bd0 m .ready none)) ∧ h' (m + 1) = none ∧ ¬ fps own ρ' (m + 1) ∧ m + 2 ≤ W.heap.size ∧ h' m = some (.deferred (some [])) := fun {ρ' h' own W} s => by
      subst hBl
      refine ⟨(s.keep (m + 1) (by show m + 1 < W1.heap.size; omega) hnf).trans hL1, (s.old (m + 1) (by show m + 1 < W1.heap.size; omega) hnf).trans hDl, fun f => ?_, by have : W1.heap.size ≤ W.heap.size := s.size; omega, (s.old m (by show m < W1.heap.size; omega) hnm).trans hDm⟩
      rcases s.fps_ok _ f with f | f
      · exact hnf f
      · have f : W1.heap.size ≤ m + 1 := f
        omega
    have toX : ∀ {ρ' : Env} {h' : Heap} {own : List OB} {W : World}, Sat Bl ρ' h' own W → Sat Bx ρ' h' own W := fun s => by
      subst hBl; subst hBx
      exact s.loosen fun b f => .inl f
    have mayX : Bx.F0 (m + 1) ∨ Bx.w0.heap.size ≤ m + 1 := by subst hBx; exact .inl (.inr rfl)
    -- out of the statement again
    have back : ∀ {ρ' : Env} {h' : Heap} {S' : St} {W : World} (o : Obj), Rel Bx G (markOf m :: a.defers) ρ' h' S' ⟨a.tmps, markOf m :: a.defers⟩ W → h' (m + 1) = none → ¬ fps S'.own ρ' (m + 1) →
        Rel B G D ρ' h' S' ⟨a.tmps, markOf m :: a.defers⟩ (W.putObj (m + 1) o) := fun {ρ' h' S' W} o r h0 hf0 => by
      have s2 := r.sat.poke o mayX h0 hf0
      subst hBx
      have hold : ∀ b, b < m + 2 → b ≠ m + 1 → ¬ fps S.own ρ b → h' b = hD b := fun b h1 h2 h3 => r.sat.old b (by show b < W1.heap.size; omega) fun f => f.elim h3 h2
      refine ⟨r.size, r.tmp, ?_, sat1.unbase (fun b f => ?_) s2, r.glob⟩
      · obtain ⟨bs, e1, e2, e3⟩ := rl.defs
        refine ⟨m :: bs, by rw [e1]; rfl, List.nodup_cons.2 ⟨fun hb => ?_, e2⟩, fun b hb => ?_⟩
        · have := hlt m _ (e3 m hb).2; omega
        · rcases List.mem_cons.1 hb with rfl | hb
          · exact ⟨by have := rl.sat.size; omega, (hold b (by omega) (by omega) hnm).trans hDm⟩
          · obtain ⟨g1, g2⟩ := e3 b hb
            have g3 := hlt b _ g2
            refine ⟨g1, (hold b (by omega) (by omega) fun f => ?_).trans ((hDo b (by omega)).trans g2)⟩
            rw [rl.sat.fps_none f] at g2
            cases g2
      · rcases f with f | rfl
        · exact sat1.fps_ok b f
        · exact .inr (by have := rl.sat.size; omega)
    have growX : ∀ {B' : Base} {ρ' : Env} {h' : Heap} {S' : St} {a' : Act} {D' : List Deferred} {W W' : World}, Rel B' G D' ρ' h' S' a' W → Grows W W' → Rel B' G D' ρ' h' S' a' W' := fun {B' ρ' h' S' a' D' W W'} r hgr =>
      ⟨r.size, r.tmp, r.defs, r.sat.grown hgr.1 hgr.2.1 (fun _ _ => rfl) (fun b o e => by
        have h0 := r.sat.sub b o e
        rw [hgr.2.1 b (Array.getElem?_eq_some_iff.1 h0).1]; exact h0) hgr.2.2, r.glob⟩
    obtain ⟨J, hJ⟩ : ∃ J : Nat → Heap → World → Prop, J = fun k hk W => ∃ S' ρ' h', I k S' ∧ Rel Bl G (markOf m :: a.defers) ρ' h' S' ⟨a.tmps, markOf m :: a.defers⟩ W ∧ hk ≤ h' := ⟨_, rfl⟩
    obtain ⟨Jx, hJx⟩ : ∃ Jx : Nat → Heap → World → Prop, Jx = fun k hk W => ∃ e c S2 S3 ρ' h', X e S3 ∧ Into S2 S3 ∧ JumpOf e c ∧ Rel Bx G (markOf m :: a.defers) ρ' h' S2 ⟨a.tmps, markOf m :: a.defers⟩ W ∧
      W.heap[m + 1]? = some (.loop (recOf fn a.tmps ps0 as0 bd0 m .done (some c))) ∧ h' (m + 1) = none ∧ ¬ fps S2.own ρ' (m + 1) := ⟨_, rfl⟩
    have eargs : #[Value.func (.yield (m + 1)) #[] #[]] ++ vs.toArray = (Value.func (.yield (m + 1)) #[] #[] :: vs).toArray := by simp
    refine ⟨m + 1, [markOf m], W1, { target := .fn (.func g) vs.toArray, args := #[.func (.yield (m + 1)) #[] #[]] }, W1, g, (Value.func (.yield (m + 1)) #[] #[] :: vs).toArray, W1, ?_, ?_, fun _ _ => trivial, ?_, (fun hh => by cases hh), ?_⟩
    · have := run_enterLoop_outer (P := P) (w := w) fn a.tmps ps0 as0 bd0
      rw [hm] at this
      rw [← hW1]
      exact this
    · simp only [resolve, hg1, Deferred.ofValue, Sem.run_bind, Sem.run_pure, Result.andThen_ok]
      simp [Act.eval]
    · simp only [invoke, calleeOk_run hok, eargs]
    · refine (hcall W1 hD vs sat1.sub glob1 (PV.relL_mono hle _ _ hg2) (m + 1) J Jx ?_ ?_).mono ?_
      · obtain ⟨ρ0, r0⟩ := hin.go rlB
        rw [hJ]
        exact ⟨S0, ρ0, hD, hI0, r0, Heap.le_refl _⟩
      · -- one round
        intro k h0 hk W0 W it us hJ0 hgr hle0 hfull hsame hit hrel
        rw [hJ] at hJ0
        obtain ⟨S', ρ', h', hI, rlJ, hle'⟩ := hJ0
        obtain ⟨h2, hh2⟩ : ∃ h2 : Heap, (fun b => if b < W0.heap.size then h' b else hk b) = h2 := ⟨_, rfl⟩
        have h2a : ∀ b, b < W0.heap.size → h2 b = h' b := fun b hb => by rw [← hh2]; exact if_pos hb
        have h2b : ∀ b, ¬ b < W0.heap.size → h2 b = hk b := fun b hb => by rw [← hh2]; exact if_neg hb
        have le2 : h' ≤ h2 := fun b o e => by rw [h2a b (Array.getElem?_eq_some_iff.1 (rlJ.sat.sub b o e)).1]; exact e
        have lek : hk ≤ h2 := fun b o e => by
          by_cases hb : b < W0.heap.size
          · rw [h2a b hb]; rw [hsame b hb] at e; exact hle' b o e
          · rw [h2b b hb]; exact e
        have sat2 : Sat Bl ρ' h2 S'.own W := rlJ.sat.grown hgr.1 hgr.2.1 h2a (fun b o e => by
          by_cases hb : b < W0.heap.size
          · rw [h2a b hb] at e
            rw [hgr.2.1 b hb]; exact rlJ.sat.sub b o e
          · rw [h2b b hb] at e; exact hfull b o e) hgr.2.2
        have glob2 : GlobOk G h2 := fun g x e => ⟨PV.rel_mono le2 _ _ (rlJ.glob g x e).1, tabOk_mono le2 (rlJ.glob g x e).2⟩
        have tmp2 : ∀ (i : Nat) x v, S'.t[i]? = some x → a.tmps[i]? = some v → x.rel ρ' h2 v := fun i x v e1 e2 => SV.rel_mono (Env.le_refl _) le2 _ _ (rlJ.tmp i x v e1 e2)
        obtain ⟨hrec, hn2, hf2, hsz, _⟩ := keepL sat2
        have hus : us.length = ps0.size := by
          rw [← (PV.relL_get hrel).1, hlen it (List.mem_of_getElem? hit)]; simp
        have hy := run_yield (P := P) (args := us.toArray) hrec (by simpa [recOf] using hus)
        refine ⟨fn, _, as0, bd0, hy, roundIn_of_wpIn hfn ?_⟩
        have hT : ((recOf fn a.tmps ps0 as0 bd0 m .ready none).params.zip us.toArray).foldl (fun tmps (q : Nat × Value) => tmps.setIfInBounds q.1 q.2) (recOf fn a.tmps ps0 as0 bd0 m .ready none).tmps = (ps0.toList.zip us).foldl (fun t (q : Nat × Value) => t.setIfInBounds q.1 q.2) a.tmps := by
          rw [← Array.foldl_toList, Array.toList_zip]; rfl
        have hr1 : Rel ⟨W, h2, fps S'.own ρ'⟩ G [] ρ' h2 ⟨setL S'.t ps0.toList it, S'.own⟩ ⟨(ps0.toList.zip us).foldl (fun t (q : Nat × Value) => t.setIfInBounds q.1 q.2) a.tmps, []⟩ W :=
          Rel.setL ps0.toList it us S'.t a.tmps (PV.relL_mono lek _ _ hrel) ⟨rlJ.size, tmp2, Defs.refl _ _ _, sat2.rebase, glob2⟩
        have w1 := round k S' it hI hit (m + 1) as0 _ [] ρ' h2 ρ' h2 _ W hca hr1 (Env.le_refl _) (Heap.le_refl _)
        rw [← hT] at w1
        refine wpIn_mono w1 fun e a1 w1 hp => ?_
        cases e with
        | normal =>
          obtain ⟨S1, ρ1, h1, hM, rl1, lρ1, lh1⟩ := hp
          have sBl1 : Sat Bl ρ1 h1 S1.own w1 := sat2.unbase sat2.fps_ok rl1.sat
          obtain ⟨hrec1, hn1, hf1, hsz1, _⟩ := keepL sBl1
          refine ⟨_, run_beginRound hrec1 rfl, ?_⟩
          have sBx2 := (toX sBl1).poke (.loop { (recOf fn a.tmps ps0 as0 bd0 m .ready none) with state := .busy }) mayX hn1 hf1
          have w2 := hM bd0 _ a1.defers ρ1 h1 ρ1 h1 a1 _ hcb ⟨rl1.size, rl1.tmp, Defs.refl _ _ _, sBx2.rebase, rl1.glob⟩ (Env.le_refl _) (Heap.le_refl _)
          refine wpIn_mono w2 fun e a3 w3 hp => ?_
          have fin : ∀ (S2 : St) (ρ2 : Env) (h3 : Heap), Rel ⟨w1.putObj (m + 1) (.loop { (recOf fn a.tmps ps0 as0 bd0 m .ready none) with state := .busy }), h1, fps S1.own ρ1⟩ G a1.defers ρ2 h3 S2 a3 w3 → Env.le ρ1 ρ2 → h1 ≤ h3 → ∀ (jump : Option Code) ,
              (Instr.endRound (m + 1) jump).run P w3 = .ok (.bool jump.isNone) (w3.putObj (m + 1) (.loop (recOf fn a.tmps ps0 as0 bd0 m (if jump.isNone then .ready else .done) jump))) ∧
              (w3.putObj (m + 1) (.loop (recOf fn a.tmps ps0 as0 bd0 m (if jump.isNone then .ready else .done) jump))).heap[m + 1]? = some (.loop (recOf fn a.tmps ps0 as0 bd0 m (if jump.isNone then .ready else .done) jump)) ∧
              h3 (m + 1) = none ∧ ¬ fps S2.own ρ2 (m + 1) ∧ W.heap.size ≤ w3.heap.size ∧ Out W w3 ∧
              Rel Bx G (markOf m :: a.defers) ρ2 h3 ⟨S'.t, S2.own⟩ ⟨a.tmps, markOf m :: a.defers⟩ (w3.putObj (m + 1) (.loop (recOf fn a.tmps ps0 as0 bd0 m (if jump.isNone then .ready else .done) jump))) := fun S2 ρ2 h3 rl3 lρ2 lh2 jump => by
            have sz2 : (w1.putObj (m + 1) (.loop { (recOf fn a.tmps ps0 as0 bd0 m .ready none) with state := .busy })).heap.size = w1.heap.size := World.putObj_size
            have hl3 : w3.heap[m + 1]? = some (.loop { (recOf fn a.tmps ps0 as0 bd0 m .ready none) with state := .busy }) := (rl3.sat.keep (m + 1) (by show m + 1 < (w1.putObj _ _).heap.size; rw [sz2]; omega) hf1).trans (World.putObj_heap_same (by omega))
            have hn3 : h3 (m + 1) = none := (rl3.sat.old (m + 1) (by show m + 1 < (w1.putObj _ _).heap.size; rw [sz2]; omega) hf1).trans hn1
            have hf3 : ¬ fps S2.own ρ2 (m + 1) := fun f => by
              rcases rl3.sat.fps_ok _ f with f | f
              · exact hf1 f
              · have f : (w1.putObj (m + 1) (.loop { (recOf fn a.tmps ps0 as0 bd0 m .ready none) with state := .busy })).heap.size ≤ m + 1 := f
                rw [sz2] at f; omega
            have sBx3 : Sat Bx ρ2 h3 S2.own w3 := sBx2.unbase sBx2.fps_ok rl3.sat
            have z1 : W.heap.size ≤ w1.heap.size := rl1.sat.size
            have z3 : (w1.putObj (m + 1) (.loop { (recOf fn a.tmps ps0 as0 bd0 m .ready none) with state := .busy })).heap.size ≤ w3.heap.size := rl3.sat.size
            refine ⟨run_endRound jump hl3, World.putObj_heap_same (by omega), hn3, hf3, by omega, rl1.sat.outer.trans rl3.sat.outer, rlJ.size, fun i x v e1 e2 => SV.rel_mono (Env.le_trans lρ1 lρ2) (Heap.le_trans lh1 lh2) _ _ (tmp2 i x v e1 e2), Defs.refl _ _ _, sBx3.poke _ mayX hn3 hf3, rl3.glob⟩
          have jumps : ∀ (e : Exit) (c : Code), JumpOf e c → (∃ S2 ρ2 h3, (∃ S3, Into ⟨S'.t, S2.own⟩ S3 ∧ X e S3) ∧ Rel ⟨w1.putObj (m + 1) (.loop { (recOf fn a.tmps ps0 as0 bd0 m .ready none) with state := .busy }), h1, fps S1.own ρ1⟩ G a1.defers ρ2 h3 S2 a3 w3 ∧ Env.le ρ1 ρ2 ∧ h1 ≤ h3) →
              ∃ v w', (Instr.endRound (m + 1) (some c)).run P w3 = .ok v w' ∧ ((Ending.returned v = .returned (.bool true) ∧ J (k + 1) hk w' ∧ hk ≤ full w' ∧ W.heap.size ≤ w'.heap.size ∧ Out W w') ∨ (Ending.returned v = .returned (.bool false) ∧ Jx (k + 1) hk w')) := fun e c hj ⟨S2, ρ2, h3, ⟨S3, hin3, hX3⟩, rl3, l1, l2⟩ => by
            obtain ⟨f1, f2, f3, f4, f5, f6, f7⟩ := fin S2 ρ2 h3 rl3 l1 l2 (some c)
            refine ⟨_, _, f1, .inr ⟨rfl, ?_⟩⟩
            rw [hJx]
            exact ⟨e, c, _, S3, ρ2, h3, hX3, hin3, hj, f7, f2, f3, f4⟩
          cases e with
          | normal =>
            obtain ⟨S2, ρ2, h3, ⟨S3, hin3, hI3⟩, rl3, l1, l2⟩ := hp
            obtain ⟨f1, f2, f3, f4, f5, f6, f7⟩ := fin S2 ρ2 h3 rl3 l1 l2 none
            have hkl : hk ≤ h3 := Heap.le_trans lek (Heap.le_trans lh1 l2)
            refine ⟨_, _, f1, .inl ⟨rfl, ?_, Heap.le_trans hkl f7.sat.sub, by rw [World.putObj_size]; exact f5, f6⟩⟩
            have sBl4 : Sat Bl ρ2 h3 S2.own (w3.putObj (m + 1) (.loop (recOf fn a.tmps ps0 as0 bd0 m .ready none))) := by
              have := f7.sat
              subst hBx; subst hBl
              exact Sat.tighten (l := m + 1) this (f2.trans hL1.symm) (f3.trans hDl.symm) f4
            obtain ⟨ρ3, r3⟩ := hin3.go (B := Bl) (G := G) (D := markOf m :: a.defers) (ρ := ρ2) (h := h3) (a := ⟨a.tmps, markOf m :: a.defers⟩) ⟨f7.size, f7.tmp, Defs.refl _ _ _, sBl4, f7.glob⟩
            rw [hJ]
            exact ⟨S3, ρ3, h3, hI3, r3, hkl⟩
          | ret => exact jumps _ _ .ret hp
          | exit id => exact jumps _ _ .exit hp
          | goto t => exact jumps _ _ .goto hp
          | panic ch => exact hp.elim
          | outgrown => exact hp.elim
        | ret => obtain ⟨_, _, _, hx, _⟩ := hp; exact hx.elim
        | exit id => obtain ⟨_, _, _, hx, _⟩ := hp; exact hx.elim
        | goto t => obtain ⟨_, _, _, hx, _⟩ := hp; exact hx.elim
        | panic ch => exact hp.elim
        | outgrown => exact hp.elim
      · -- behind the iterator
        rintro e w2 ⟨⟨v, rfl⟩, hk, W, hgr, hj⟩
        rcases hj with hj | ⟨k, _, hj⟩
        · rw [hJ] at hj
          obtain ⟨S', ρ', h', hI, rlJ, _⟩ := hj
          have r2 := growX rlJ hgr
          obtain ⟨hrec, hn2, hf2, _⟩ := keepL r2.sat
          refine ⟨none, _, run_endLoop hrec (by simp [recOf]), S', ρ', h', done S' hI, ?_⟩
          exact back _ ⟨r2.size, r2.tmp, Defs.refl _ _ _, toX r2.sat, r2.glob⟩ hn2 hf2
        · rw [hJx] at hj
          obtain ⟨e, c, S2, S3, ρ', h', hX, hin3, hjo, rlx, hrec, hn2, hf2⟩ := hj
          have r2 := growX rlx hgr
          have hrec2 := (hgr.2.1 (m + 1) (Array.getElem?_eq_some_iff.1 hrec).1).trans hrec
          refine ⟨some c, _, run_endLoop hrec2 (by simp [recOf]), ?_⟩
          obtain ⟨ρ3, r3⟩ := hin3.go (back (.loop { (recOf fn a.tmps ps0 as0 bd0 m .done (some c)) with state := .exhausted }) r2 hn2 hf2)
          have hK := stop e S3 hX
          cases hjo with
          | ret => exact wpIn_ret ⟨S3, ρ3, h', hK, r3⟩
          | exit => exact wpIn_exit ⟨S3, ρ3, h', hK, r3⟩
          | goto => exact wpIn_goto ⟨S3, ρ3, h', hK, r3⟩
def foldS {X It Y : Type} (step : X → It → Option (X ⊕ Y)) : List It → X → Option (X ⊕ Y)
  | [], x => some (.inl x)
  | i :: is, x => match step x i with
    | none => none
    | some (.inl x') => foldS step is x'
    | some (.inr y) => some (.inr y)
theorem lam_range {P : Program} {G : Glob} {Γ : Gam} (hΓ : GamOk P G Γ) {Λ Λ0 : Lam} {asg bdy : XR} (has : asg.plain = true) (hbd : bdy.plain = true) {j : Nat} {live : List Nat} {nils : List (Nat × TypeId)} {X It Y : Type} {bX : X → St} {accX : St → X} {σ : StSh} (hσ : ∀ S, σ.build S = bX (accX S))
    {f : Opd} {ps : List Nat} {g : FuncId} {caps : X → List PV} (hf : ∀ x, evS G (bX x) f = .p (.fn g (caps x))) {its : X → Option (List It)} {emb : It → List PV} (hlen : ∀ i, (emb i).length = ps.length) (hseq : ∀ x is, its x = some is → SeqEq P G g (caps x) (is.map emb))
    {step : X → It → Option (X ⊕ Y)} {kb : Exit → St → Tree (X ⊕ Y)} {kY : Dec Y} (hk : ExOk Sum.inr kb kY)
    (hstep : ∀ x i, (ev G Γ Λ0 asg ⟨setL (bX x).t ps (emb i), (bX x).own⟩ (fun S1 => ev G Γ Λ0 bdy S1 (fun S => forgetT live ⟨(bX x).t, S.own⟩ fun S => prepT live nils S fun S => .chk (σ.ok S) (.leaf (.inl (accX S)))) (fun e S => kb e ⟨(bX x).t, S.own⟩)) (fun _ _ => .fail)).run = step x i)
    (hΛ : ∀ {β : Type} (S : St) (kn : St → Tree β) (ke : Exit → St → Tree β), Λ β j S kn ke = prepT live nils S fun S => .chk (σ.ok S) (.bind ((its (accX S)).bind fun is => foldS step is (accX S)) fun r => .sum r (fun x => kn (bX x)) (fun y => kY β y ke))) :
    LamAt P G Λ j (.rangeF f ps asg.erase bdy.erase) := by
  intro β S kn ke b h Kn Ke hn he
  rw [hΛ] at h
  obtain ⟨S0, hc0, h⟩ := prepT_sound h
  rw [Tree.run_chk, Tree.run_bind] at h
  obtain ⟨h1, r, h2, h3⟩ := h
  have hS : ∀ {S}, σ.ok S = true → S = bX (accX S) := fun {S} h => by rw [← hσ, StSh.build_eq _ h]
  refine Does.prep hc0 ?_
  obtain ⟨is, hi, hr⟩ := Option.bind_eq_some_iff.1 h2
  have e0 := hS h1
  rw [e0]
  refine Does.range (hf _) (hseq _ is hi) (fun it hit => ?_) (I := fun k S' => ∃ x, S' = bX x ∧ foldS step (is.drop k) x = some r) (X := Ke) ⟨_, Into.refl _, _, rfl, hr⟩ ?_ ?_ (fun e S' h => h)
  · obtain ⟨i, _, rfl⟩ := List.mem_map.1 hit
    exact hlen i
  · rintro k S' it ⟨x, rfl, hx⟩ hit l
    rw [List.getElem?_map] at hit
    cases hik : is[k]? with
    | none => rw [hik] at hit; cases hit
    | some i =>
      rw [hik] at hit
      obtain rfl : emb i = it := Option.some.inj hit
      have hlt := (List.getElem?_eq_some_iff.1 hik).1
      have hdr : is.drop k = i :: is.drop (k + 1) := by
        rw [List.drop_eq_getElem_cons hlt, (List.getElem?_eq_some_iff.1 hik).2]
      rw [hdr, foldS] at hx
      split at hx
      · cases hx
      · rename_i x' e1
        refine ev_soundE hΓ has ((hstep x i).trans e1) (fun S1 hS1 => ev_soundE hΓ hbd hS1 (fun S2 h => ?_) fun e S2 h => ?_) (fun e S1 h => (Tree.run_fail.1 h).elim)
        · obtain ⟨ids, g1, g2⟩ := forgetT_sound h
          obtain ⟨S3, g0, g2⟩ := prepT_sound g2
          rw [Tree.run_chk] at g2
          have g3 := g2.2
          simp only [Tree.run, Option.some.injEq, Sum.inl.injEq] at g3
          exact ⟨S3, (Into.forget live g1).trans (Into.prep g0), x', by rw [← g3]; exact hS g2.1, hx⟩
        · obtain ⟨z, g1, _⟩ := hk _ _ _ h
          cases g1
      · rename_i y' e1
        cases hx
        refine ev_soundE hΓ has ((hstep x i).trans e1) (fun S1 hS1 => ev_soundE hΓ hbd hS1 (fun S2 h => ?_) fun e S2 h => ?_) (fun e S1 h => (Tree.run_fail.1 h).elim)
        · obtain ⟨ids, g1, g2⟩ := forgetT_sound h
          obtain ⟨S3, g0, g2⟩ := prepT_sound g2
          rw [Tree.run_chk] at g2
          have g3 := g2.2
          simp only [Tree.run, Option.some.injEq] at g3
          cases g3
        · obtain ⟨z, g1, lv, ids, g2, g3⟩ := hk _ _ _ h
          cases g1
          exact ⟨_, Into.forget lv g2, he _ _ (g3 ke b h3)⟩
  · rintro S' ⟨x, rfl, hx⟩
    rw [List.length_map, List.drop_length, foldS] at hx
    cases hx
    exact hn _ h3
end Go.Fx
