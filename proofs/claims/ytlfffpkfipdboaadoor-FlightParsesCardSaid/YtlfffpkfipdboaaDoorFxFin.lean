/-
  Fx, part 19: loops, pieces, functions.
-/
import Derived.Test.YtlfffpkfipdboaaDoorFxWalk2
set_option linter.unusedSimpArgs false
set_option linter.unusedVariables false
namespace Go.Fx
/-! ### Loops -/
def iterN {X Y : Type} (step : X → Option (X ⊕ Y)) : Nat → X → Option Y
  | 0, _ => none
  | n + 1, x => match step x with
    | none => none
    | some (.inl x') => iterN step n x'
    | some (.inr y) => some y
def loopN {X Y : Type} (step : X → Option (X ⊕ Y)) (x : X) : Option Y := iterN step 18446744073709551616 x
/-- How a piece of code is left. -/
inductive EK where
  | norm | ret
  | exit (id : Nat)
  | goto (l : Nat)
def EK.is : EK → Exit → Bool
  | .norm, .normal => true
  | .ret, .ret => true
  | .exit id, .exit id' => id' == id
  | .goto id, .goto id' => id' == id
  | _, _ => false
def EK.ex : EK → Exit
  | .norm => .normal
  | .ret => .ret
  | .exit id => .exit id
  | .goto l => .goto l
theorem EK.is_eq {k : EK} {e : Exit} (h : k.is e = true) : e = k.ex := by
  cases k <;> cases e <;> simp [EK.is] at h <;> first | rfl | (subst h; rfl)
def exNil {Z : Type} : Exit → St → Tree Z := fun _ _ => .fail
def exOne {Y Z : Type} (k : EK) (lv : List Nat) (τ : StSh) (acc : St → Y) (inj : Y → Z) (next : Exit → St → Tree Z) : Exit → St → Tree Z := fun e S =>
  match k.is e with
  | true => forgetT lv S fun S => .chk (τ.ok S) (.leaf (inj (acc S)))
  | false => next e S
abbrev Dec (Y : Type) := (β : Type) → Y → (Exit → St → Tree β) → Tree β
def ExOk {Z Z' : Type} (inj : Z → Z') (kb : Exit → St → Tree Z') (kY : Dec Z) : Prop :=
  ∀ (e : Exit) (S : St) (r : Z'), (kb e S).run = some r → ∃ z, r = inj z ∧ ∃ (lv ids : List Nat), ids.Nodup ∧ ∀ {β : Type} (ke : Exit → St → Tree β) (b : β), (kY β z ke).run = some b → (ke e (S.forget lv ids)).run = some b
theorem ExOk.nil {Z Z' : Type} {inj : Z → Z'} {kY : Dec Z} : ExOk inj exNil kY := fun e S r h => (Tree.run_fail.1 h).elim
theorem ExOk.one {Y Z Z' : Type} {inj : Z → Z'} {kY : Dec Z} {k : EK} {lv : List Nat} {τ : StSh} {acc : St → Y} {bY : Y → St} {inj1 : Y → Z} {next : Exit → St → Tree Z'} (hτ : ∀ S, τ.build S = bY (acc S))
    (hY : ∀ (y : Y) {β : Type} (ke : Exit → St → Tree β), kY β (inj1 y) ke = ke k.ex (bY y) ∨ (kY β (inj1 y) ke).run = (ke k.ex (bY y)).run) (hn : ExOk inj next kY) : ExOk inj (exOne k lv τ acc (fun y => inj (inj1 y)) next) kY := by
  intro e S r h
  unfold exOne at h
  split at h
  · rename_i he
    obtain rfl := EK.is_eq he
    obtain ⟨ids, h1, h2⟩ := forgetT_sound h
    rw [Tree.run_chk] at h2
    have h3 : inj (inj1 (acc (S.forget lv ids))) = r := by
      have := h2.2
      simp only [Tree.run, Option.some.injEq] at this
      exact this
    refine ⟨_, h3.symm, lv, ids, h1, fun ke b hb => ?_⟩
    have h4 : (kY _ (inj1 (acc (S.forget lv ids))) ke).run = (ke k.ex (bY (acc (S.forget lv ids)))).run := by
      rcases hY (acc (S.forget lv ids)) ke with h | h
      · rw [h]
      · exact h
    rw [h4, ← hτ, StSh.build_eq _ h2.1] at hb
    exact hb
  · exact hn e S r h
def joinK {β : Type} (kn : St → Tree β) (ke : Exit → St → Tree β) : Exit → St → Tree β := fun e S =>
  match e with
  | .normal => kn S
  | .exit id => ke (.exit id) S
  | .goto l => ke (.goto l) S
  | .ret => ke .ret S
  | _ => .fail
/-! ### A nil slice as an own row -/
/-- Slot i, a nil slice, becomes an own row with nothing in it. -/
inductive Conv : List (Nat × TypeId) → St → St → Prop where
  | nil {S} : Conv [] S S
  | same {i ty l S S'} : Conv l S S' → Conv ((i, ty) :: l) S S'
  | isl {i ty l S S' ex k m} : S.t.getD i .any = .p (.isl true ex k m) → Conv l ⟨S.t.set i (.row S.own.length), S.own ++ [.irow ty k true true []]⟩ S' → Conv ((i, ty) :: l) S S'
  | sl {i ty l S S' ex w m} : S.t.getD i .any = .p (.sl true ex w m) → Conv l ⟨S.t.set i (.row S.own.length), S.own ++ [.row ty w true true []]⟩ S' → Conv ((i, ty) :: l) S S'
  | boxI {q i j ty l S S' id o bty cs ex k m} : S.t.getD i .any = .ptr id o → S.own.getD id .gone = .box bty cs → cs.getD j .any = .p (.isl true ex k m) →
      Conv l ⟨S.t, S.own.set id (.box bty (cs.set j (.row S.own.length))) ++ [.irow ty k true true []]⟩ S' → Conv ((q, ty) :: l) S S'
  | boxS {q i j ty l S S' id o bty cs ex w m} : S.t.getD i .any = .ptr id o → S.own.getD id .gone = .box bty cs → cs.getD j .any = .p (.sl true ex w m) →
      Conv l ⟨S.t, S.own.set id (.box bty (cs.set j (.row S.own.length))) ++ [.row ty w true true []]⟩ S' → Conv ((q, ty) :: l) S S'
def convBox {β : Type} (i j : Nat) (ty : TypeId) (S : St) (K0 : Tree β) (K : St → Tree β) : Tree β :=
  match S.t.getD i .any with
  | .ptr id _ => match S.own.getD id .gone with
    | .box bty cs => match cs.getD j .any with
      | .p (.isl nil _ k _) => .chk nil (forceL (cs.set j (.row S.own.length)) fun cs' => forceL (S.own.set id (.box bty cs') ++ [.irow ty k true true []]) fun own => K ⟨S.t, own⟩)
      | .p (.sl nil _ w _) => .chk nil (forceL (cs.set j (.row S.own.length)) fun cs' => forceL (S.own.set id (.box bty cs') ++ [.row ty w true true []]) fun own => K ⟨S.t, own⟩)
      | _ => K0
    | _ => K0
  | _ => K0
def convNil {β : Type} : List (Nat × TypeId) → St → (St → Tree β) → Tree β
  | [], S, K => K S
  | (i, ty) :: l, S, K => match Nat.ble 100000 i with
    | true => convBox ((i - 100000) / 100) ((i - 100000) % 100) ty S (convNil l S K) fun S => convNil l S K
    | false => match S.t.getD i .any with
      | .p (.isl nil _ k _) => .chk nil (forceL (S.t.set i (.row S.own.length)) fun t => forceL (S.own ++ [.irow ty k true true []]) fun own => convNil l ⟨t, own⟩ K)
      | .p (.sl nil _ w _) => .chk nil (forceL (S.t.set i (.row S.own.length)) fun t => forceL (S.own ++ [.row ty w true true []]) fun own => convNil l ⟨t, own⟩ K)
      | _ => convNil l S K
theorem convNil_sound {β : Type} {b : β} : ∀ {l : List (Nat × TypeId)} {S : St} {K : St → Tree β}, (convNil l S K).run = some b → ∃ S', Conv l S S' ∧ (K S').run = some b
  | [], S, K, h => ⟨S, .nil, h⟩
  | (i, ty) :: l, S, K, h => by
    simp only [convNil] at h
    split at h
    · simp only [convBox, forceL_eq] at h
      split at h
      · rename_i id o e1
        split at h
        · rename_i bty cs e2
          split at h
          · rename_i nil ex k m e3
            rw [Tree.run_chk] at h
            obtain ⟨rfl, h⟩ := h
            obtain ⟨S', h1, h2⟩ := convNil_sound h
            exact ⟨S', .boxI e1 e2 e3 h1, h2⟩
          · rename_i nil ex w m e3
            rw [Tree.run_chk] at h
            obtain ⟨rfl, h⟩ := h
            obtain ⟨S', h1, h2⟩ := convNil_sound h
            exact ⟨S', .boxS e1 e2 e3 h1, h2⟩
          · obtain ⟨S', h1, h2⟩ := convNil_sound h
            exact ⟨S', .same h1, h2⟩
        · obtain ⟨S', h1, h2⟩ := convNil_sound h
          exact ⟨S', .same h1, h2⟩
      · obtain ⟨S', h1, h2⟩ := convNil_sound h
        exact ⟨S', .same h1, h2⟩
    · simp only [forceL_eq] at h
      split at h
      · rename_i nil ex k m e1
        rw [Tree.run_chk] at h
        obtain ⟨rfl, h⟩ := h
        obtain ⟨S', h1, h2⟩ := convNil_sound h
        exact ⟨S', .isl e1 h1, h2⟩
      · rename_i nil ex k m e1
        rw [Tree.run_chk] at h
        obtain ⟨rfl, h⟩ := h
        obtain ⟨S', h1, h2⟩ := convNil_sound h
        exact ⟨S', .sl e1 h1, h2⟩
      · obtain ⟨S', h1, h2⟩ := convNil_sound h
        exact ⟨S', .same h1, h2⟩
theorem relL_set {ρ : Env} {h : Heap} {y : SV} : ∀ {cs : List SV} {vs : List Value} {j : Nat} {x : SV}, SV.relL ρ h cs vs → cs[j]? = some x → (∀ v, x.rel ρ h v → y.rel ρ h v) → SV.relL ρ h (cs.set j y) vs
  | [], vs, j, x, _, e, _ => by simp at e
  | c :: cs, vs, 0, x, ⟨v, vs', e0, h1, h2⟩, e, hy => by
    simp at e
    subst e
    exact ⟨v, vs', e0, hy v h1, h2⟩
  | c :: cs, vs, j + 1, x, ⟨v, vs', e0, h1, h2⟩, e, hy => ⟨v, vs', e0, h1, relL_set h2 (by simpa using e) hy⟩
theorem Rel.nilBox {B : Base} {G : Glob} {D : List Deferred} {ρ : Env} {h : Heap} {S : St} {a : Act} {w : World} (rl : Rel B G D ρ h S a w) {i id o : Nat} {bty : TypeId} {cs : List SV} {j : Nat} {x : SV} (hi : S.t.getD i .any = .ptr id o)
    (hb : S.own.getD id .gone = .box bty cs) (hx : cs.getD j .any = x) (hne : x ≠ .any) (hv : ∀ ρ' v, x.rel ρ' h v → v = .slice none 0 0) {ob : OB}
    (hs : ob.sat (ρ ++ [.slice none 0 0]) h w (.slice none 0 0)) (hf : ob.fp (.slice none 0 0) = none) :
    Rel B G D (ρ ++ [.slice none 0 0]) h ⟨S.t, S.own.set id (.box bty (cs.set j (.row S.own.length))) ++ [ob]⟩ a w := by
  have e0 : S.own[id]? = some (.box bty cs) := getD_cases hb (by simp)
  have hid : id < S.own.length := (List.getElem?_eq_some_iff.1 e0).1
  have hρ : id < ρ.length := by rw [rl.sat.len]; exact hid
  have ev : ρ[id]? = some ρ[id] := List.getElem?_eq_getElem hρ
  have hsat := rl.sat.ent id _ _ e0 ev
  obtain ⟨b, c, hv0, hcell, hrel⟩ := hsat
  have ecs : cs[j]? = some x := getD_cases hx hne
  have s1 : Sat B (ρ ++ [.slice none 0 0]) h (S.own ++ [ob]) w := rl.sat.add (ob := ob) (v := .slice none 0 0) hs (fun b hb => by rw [hf] at hb; cases hb)
  have ev1 : (ρ ++ [Value.slice none 0 0])[id]? = some ρ[id] := by rw [List.getElem?_append_left hρ]; exact ev
  have s2 := s1.replace (id := id) (ob := .box bty cs) (ob' := .box bty (cs.set j (.row S.own.length))) (by rw [List.getElem?_append_left hid]; exact e0) ev1 rfl Out.refl (fun _ _ => rfl)
    ⟨b, c, hv0, hcell, relL_set (SV.relL_mono (Env.le_snoc _ _) (Heap.le_refl _) _ _ hrel) ecs fun v hvr => by
      have := hv _ v hvr
      subst this
      exact ⟨by rw [← rl.sat.len]; simp, rfl⟩⟩ (fun b hb => by rw [hv0] at hb ⊢; exact hb)
  rw [List.set_append_left _ _ hid] at s2
  exact ⟨rl.size, fun i y v e1 e2 => SV.rel_mono (Env.le_snoc _ _) (Heap.le_refl _) _ _ (rl.tmp i y v e1 e2), rl.defs, s2, rl.glob⟩
theorem Rel.nilRow {B : Base} {G : Glob} {D : List Deferred} {ρ : Env} {h : Heap} {S : St} {a : Act} {w : World} (rl : Rel B G D ρ h S a w) {i : Nat} {x : SV} (hx : S.t.getD i .any = x) (hne : x ≠ .any) (hv : ∀ v, x.rel ρ h v → v = .slice none 0 0) {ob : OB}
    (hs : ob.sat (ρ ++ [.slice none 0 0]) h w (.slice none 0 0)) (hf : ob.fp (.slice none 0 0) = none) : Rel B G D (ρ ++ [.slice none 0 0]) h ⟨S.t.set i (.row S.own.length), S.own ++ [ob]⟩ a w := by
  have e1 := getD_cases hx hne
  have sat := rl.sat.add (ob := ob) (v := .slice none 0 0) hs (fun b hb => by rw [hf] at hb; cases hb)
  refine ⟨by simp [rl.size], fun j y v h1 h2 => ?_, rl.defs, sat, rl.glob⟩
  simp only at h1
  by_cases hij : i = j
  · subst hij
    rw [List.getElem?_set_self (List.getElem?_eq_some_iff.1 e1).1] at h1
    cases h1
    have := hv v (rl.tmp i x v e1 h2)
    subst this
    refine ⟨?_, rfl⟩
    rw [← rl.sat.len]; simp
  · rw [List.getElem?_set_ne hij] at h1
    exact SV.rel_mono (Env.le_snoc _ _) (Heap.le_refl _) _ _ (rl.tmp j y v h1 h2)
theorem Rel.conv {B : Base} {G : Glob} {D : List Deferred} {a : Act} {w : World} {l : List (Nat × TypeId)} {S S' : St} (hc : Conv l S S') : ∀ {ρ : Env} {h : Heap}, Rel B G D ρ h S a w → ∃ ρ', Rel B G D ρ' h S' a w := by
  induction hc with
  | nil => intro ρ h rl; exact ⟨ρ, rl⟩
  | same _ ih => exact ih
  | isl e1 _ ih =>
    intro ρ h rl
    refine ih (rl.nilRow e1 (by simp) (fun v hv => ?_) (.inl ⟨rfl, rfl, rfl⟩) rfl)
    obtain ⟨ad, cap, rfl, h1, h2, h3, h4, _⟩ := hv
    have := h3.1 rfl
    subst this
    have h5 := h4 rfl
    subst h5
    have : _ = 0 := Nat.le_zero.1 h1
    rw [this]
  | sl e1 _ ih =>
    intro ρ h rl
    refine ih (rl.nilRow e1 (by simp) (fun v hv => ?_) (.inl ⟨rfl, rfl, rfl⟩) rfl)
    obtain ⟨ad, cap, rfl, h1, h2, h3, h4, _⟩ := hv
    have := h3.1 rfl
    subst this
    have h5 := h4 rfl
    subst h5
    have : _ = 0 := Nat.le_zero.1 h1
    rw [this]
  | boxI e1 e2 e3 _ ih =>
    intro ρ h rl
    refine ih (rl.nilBox e1 e2 e3 (by simp) (fun ρ' v hv => ?_) (.inl ⟨rfl, rfl, rfl⟩) rfl)
    obtain ⟨ad, cap, rfl, h1, h2, h3, h4, _⟩ := hv
    have := h3.1 rfl
    subst this
    have h5 := h4 rfl
    subst h5
    have : _ = 0 := Nat.le_zero.1 h1
    rw [this]
  | boxS e1 e2 e3 _ ih =>
    intro ρ h rl
    refine ih (rl.nilBox e1 e2 e3 (by simp) (fun ρ' v hv => ?_) (.inl ⟨rfl, rfl, rfl⟩) rfl)
    obtain ⟨ad, cap, rfl, h1, h2, h3, h4, _⟩ := hv
    have := h3.1 rfl
    subst this
    have h5 := h4 rfl
    subst h5
    have : _ = 0 := Nat.le_zero.1 h1
    rw [this]
theorem Does.conv {P : Program} {G : Glob} {c : IR} {S S' : St} {Kn : St → Prop} {Ke : Exit → St → Prop} {l : List (Nat × TypeId)} (hc : Conv l S S') (h : Does P G c S' Kn Ke) : Does P G c S Kn Ke := by
  intro c' B D ρ hh a w hcc rl
  obtain ⟨ρ', rl'⟩ := rl.conv hc
  exact h c' B D ρ' hh a w hcc rl'
/-- A state at a loop's head: nil slices as own rows, the own things in order. -/
def prepT {β : Type} (live : List Nat) (nils : List (Nat × TypeId)) (S : St) (K : St → Tree β) : Tree β := convNil nils S fun S => forgetT live S K
def Prep (live : List Nat) (nils : List (Nat × TypeId)) (S S' : St) : Prop := ∃ S1 ids, Conv nils S S1 ∧ ids.Nodup ∧ S' = S1.forget live ids
theorem prepT_sound {β : Type} {b : β} {live : List Nat} {nils : List (Nat × TypeId)} {S : St} {K : St → Tree β} (h : (prepT live nils S K).run = some b) : ∃ S', Prep live nils S S' ∧ (K S').run = some b := by
  obtain ⟨S1, h1, h2⟩ := convNil_sound h
  obtain ⟨ids, h3, h4⟩ := forgetT_sound h2
  exact ⟨_, ⟨S1, ids, h1, h3, rfl⟩, h4⟩
theorem Does.prep {P : Program} {G : Glob} {c : IR} {S S' : St} {Kn : St → Prop} {Ke : Exit → St → Prop} {live : List Nat} {l : List (Nat × TypeId)} (hc : Prep live l S S') (h : Does P G c S' Kn Ke) : Does P G c S Kn Ke := by
  obtain ⟨S1, ids, h1, h2, rfl⟩ := hc
  exact Does.conv h1 (does_forget live h2 h)
theorem lam_loop {P : Program} {G : Glob} {Γ : Gam} (hΓ : GamOk P G Γ) {Λ Λ' : Lam} {body : XR} (hx : body.lam P G Λ') {j : Nat} {live : List Nat} {nils : List (Nat × TypeId)} {X Y : Type} {bX : X → St} {accX : St → X} {σ : StSh} (hσ : ∀ S, σ.build S = bX (accX S))
    {step : X → Option (X ⊕ Y)} {kb : Exit → St → Tree (X ⊕ Y)} {kY : Dec Y} (hk : ExOk Sum.inr kb kY)
    (hstep : ∀ x, (ev G Γ Λ' body (bX x) (fun S => forgetT live S fun S => prepT live nils S fun S => .chk (σ.ok S) (.leaf (.inl (accX S)))) kb).run = step x)
    (hΛ : ∀ {β : Type} (S : St) (kn : St → Tree β) (ke : Exit → St → Tree β), Λ β j S kn ke = prepT live nils S fun S => .chk (σ.ok S) (.bind (loopN step (accX S)) fun y => kY β y ke)) : LamAt P G Λ j (.loop live body.erase) := by
  intro β S kn ke b h Kn Ke hn he
  rw [hΛ] at h
  obtain ⟨S0, hc0, h⟩ := prepT_sound h
  rw [Tree.run_chk, Tree.run_bind] at h
  obtain ⟨h1, y, h2, h3⟩ := h
  have hS : ∀ {S}, σ.ok S = true → S = bX (accX S) := fun {S} h => by rw [← hσ, StSh.build_eq _ h]
  refine .loop (fun n S => ∃ S' x, Prep live nils S S' ∧ S' = bX x ∧ iterN step n x = some y) ⟨_, S0, accX S0, hc0, hS h1, h2⟩ fun n S' ⟨S1, x, hcv, hx', hi⟩ => ?_
  refine Does.prep hcv ?_
  subst hx'
  cases n with
  | zero => cases hi
  | succ n =>
    simp only [iterN] at hi
    split at hi
    · cases hi
    · rename_i x' e1
      refine ev_sound hΓ hx ((hstep x).trans e1) (fun S2 h => ?_) fun e S2 h => ?_
      · obtain ⟨ids, g1, g2⟩ := forgetT_sound h
        obtain ⟨S3, g0, g2⟩ := prepT_sound g2
        rw [Tree.run_chk] at g2
        have g3 := g2.2
        simp only [Tree.run, Option.some.injEq, Sum.inl.injEq] at g3
        refine ⟨n, ids, g1, Nat.lt_succ_self n, S3, x', g0, ?_, hi⟩
        rw [← g3]; exact hS g2.1
      · obtain ⟨z, g1, _⟩ := hk _ _ _ h
        cases g1
    · rename_i y' e1
      cases hi
      refine ev_sound hΓ hx ((hstep x).trans e1) (fun S2 h => ?_) fun e S2 h => ?_
      · obtain ⟨ids, g1, g2⟩ := forgetT_sound h
        obtain ⟨S3, g0, g2⟩ := prepT_sound g2
        rw [Tree.run_chk] at g2
        have g3 := g2.2
        simp only [Tree.run, Option.some.injEq] at g3
        cases g3
      · obtain ⟨z, g1, lv, ids, g2, g3⟩ := hk _ _ _ h
        cases g1
        exact ⟨lv, ids, g2, he _ _ (g3 ke b h3)⟩
theorem Does.forgets {P : Program} {G : Glob} {c : IR} {S : St} {Kn : St → Prop} {Ke : Exit → St → Prop} (h : Does P G c S (fun S => ∃ lv ids, ids.Nodup ∧ Kn (S.forget lv ids)) (fun e S => e = .normal ∨ ∃ lv ids, ids.Nodup ∧ Ke e (S.forget lv ids))) : Does P G c S Kn Ke := by
  intro c' B D ρ hh a w hc rl
  refine wpIn_mono (h c' B D ρ hh a w hc rl) fun e a' w' hp => ?_
  cases e with
  | normal => obtain ⟨S, ρ, h, ⟨lv, ids, hn, hK⟩, rl⟩ := hp; exact ⟨_, _, h, hK, rl.forget lv hn⟩
  | panic => exact hp.elim
  | outgrown => exact hp.elim
  | _ =>
    obtain ⟨S, ρ, h, hK, rl⟩ := hp
    rcases hK with hK | ⟨lv, ids, hn, hK⟩
    · cases hK
    · exact ⟨_, _, h, hK, rl.forget lv hn⟩
theorem lam_piece {P : Program} {G : Glob} {Γ : Gam} (hΓ : GamOk P G Γ) {Λ Λ' : Lam} {body : XR} (hx : body.lam P G Λ') {j : Nat} {X Y : Type} {bX : X → St} {accX : St → X} {σ : StSh} (hσ : ∀ S, σ.build S = bX (accX S))
    {pc : X → Option Y} {kb : Exit → St → Tree Y} {kY : Dec Y} (hk : ExOk id kb kY)
    (hpc : ∀ x, (ev G Γ Λ' body (bX x) (kb .normal) kb).run = pc x)
    (hΛ : ∀ {β : Type} (S : St) (kn : St → Tree β) (ke : Exit → St → Tree β), Λ β j S kn ke = .chk (σ.ok S) (.bind (pc (accX S)) fun y => kY β y (joinK kn ke))) : LamAt P G Λ j body.erase := by
  intro β S kn ke b h Kn Ke hn he
  rw [hΛ, Tree.run_chk, Tree.run_bind] at h
  obtain ⟨h1, y, h2, h3⟩ := h
  have hS : S = bX (accX S) := by rw [← hσ, StSh.build_eq _ h1]
  rw [hS]
  refine Does.forgets (ev_sound hΓ hx ((hpc (accX S)).trans h2) (fun S2 h => ?_) fun e S2 h => ?_)
  · obtain ⟨z, g1, lv, ids, g2, g3⟩ := hk _ _ _ h
    cases g1
    exact ⟨lv, ids, g2, hn _ (g3 (joinK kn ke) b h3)⟩
  · obtain ⟨z, g1, lv, ids, g2, g3⟩ := hk _ _ _ h
    cases g1
    have := g3 (joinK kn ke) b h3
    cases e with
    | normal => exact .inl rfl
    | exit => exact .inr ⟨lv, ids, g2, he _ _ this⟩
    | goto => exact .inr ⟨lv, ids, g2, he _ _ this⟩
    | ret => exact .inr ⟨lv, ids, g2, he _ _ this⟩
    | _ => exact (Tree.run_fail.1 this).elim
/-- Exits where a label is jumped to. -/
def jumpK {β : Type} (l : Nat) (kg : St → Tree β) (kb : Exit → St → Tree β) : Exit → St → Tree β
  | .goto l', S => match l' == l with
    | true => kg S
    | false => .fail
  | e, S => kb e S
theorem lam_jump {P : Program} {G : Glob} {Γ : Gam} (hΓ : GamOk P G Γ) {Λ Λ' : Lam} {body : XR} (hx : body.lam P G Λ') {j l : Nat} {live : List Nat} {nils : List (Nat × TypeId)} {X Y : Type} {bX : X → St} {accX : St → X} {σ : StSh} (hσ : ∀ S, σ.build S = bX (accX S))
    {step : X → Option (X ⊕ Y)} {kb : Exit → St → Tree (X ⊕ Y)} {kY : Dec Y} (hk : ExOk Sum.inr kb kY)
    (hstep : ∀ x, (ev G Γ Λ' body (bX x) (kb .normal) (jumpK l (fun S => forgetT live S fun S => prepT live nils S fun S => .chk (σ.ok S) (.leaf (.inl (accX S)))) kb)).run = step x)
    (hΛ : ∀ {β : Type} (S : St) (kn : St → Tree β) (ke : Exit → St → Tree β), Λ β j S kn ke = prepT live nils S fun S => .chk (σ.ok S) (.bind (loopN step (accX S)) fun y => kY β y (joinK kn ke))) : JumpAt P G Λ j l body.erase := by
  intro β S kn ke b h Kn Ke hn he
  rw [hΛ] at h
  obtain ⟨S0, hc0, h⟩ := prepT_sound h
  rw [Tree.run_chk, Tree.run_bind] at h
  obtain ⟨h1, y, h2, h3⟩ := h
  have hS : ∀ {S}, σ.ok S = true → S = bX (accX S) := fun {S} h => by rw [← hσ, StSh.build_eq _ h]
  refine ⟨fun n S => ∃ S' x, Prep live nils S S' ∧ S' = bX x ∧ iterN step n x = some y, ⟨_, S0, accX S0, hc0, hS h1, h2⟩, fun n S' ⟨S1, x, hcv, hx', hi⟩ => ?_⟩
  refine Does.prep hcv ?_
  subst hx'
  cases n with
  | zero => cases hi
  | succ n =>
    simp only [iterN] at hi
    split at hi
    · cases hi
    · rename_i x' e1
      refine ev_sound hΓ hx ((hstep x).trans e1) (fun S2 h => ?_) fun e S2 h => ?_
      · obtain ⟨z, g1, _⟩ := hk _ _ _ h
        cases g1
      · cases e with
        | goto l' =>
          simp only [jumpK] at h ⊢
          split at h
          · rename_i e2
            obtain ⟨ids, g1, g2⟩ := forgetT_sound h
            obtain ⟨S3, g0, g2⟩ := prepT_sound g2
            rw [Tree.run_chk] at g2
            have g3 := g2.2
            simp only [Tree.run, Option.some.injEq, Sum.inl.injEq] at g3
            refine ⟨by simpa using e2, n, live, ids, g1, Nat.lt_succ_self n, S3, x', g0, ?_, hi⟩
            rw [← g3]; exact hS g2.1
          · exact (Tree.run_fail.1 h).elim
        | normal => trivial
        | _ =>
          obtain ⟨z, g1, _⟩ := hk _ _ _ h
          cases g1
    · rename_i y' e1
      cases hi
      refine ev_sound hΓ hx ((hstep x).trans e1) (fun S2 h => ?_) fun e S2 h => ?_
      · obtain ⟨z, g1, lv, ids, g2, g3⟩ := hk _ _ _ h
        cases g1
        exact ⟨lv, ids, g2, hn _ (g3 (joinK kn ke) b h3)⟩
      · cases e with
        | goto l' =>
          simp only [jumpK] at h
          split at h
          · obtain ⟨ids, g1, g2⟩ := forgetT_sound h
            obtain ⟨S3, g0, g2⟩ := prepT_sound g2
            rw [Tree.run_chk] at g2
            have g3 := g2.2
            simp only [Tree.run, Option.some.injEq] at g3
            cases g3
          · exact (Tree.run_fail.1 h).elim
        | exit =>
          obtain ⟨z, g1, lv, ids, g2, g3⟩ := hk _ _ _ h
          cases g1
          exact ⟨lv, ids, g2, he _ _ (g3 (joinK kn ke) b h3)⟩
        | ret =>
          obtain ⟨z, g1, lv, ids, g2, g3⟩ := hk _ _ _ h
          cases g1
          exact ⟨lv, ids, g2, he _ _ (g3 (joinK kn ke) b h3)⟩
        | normal => trivial
        | _ =>
          obtain ⟨z, g1, lv, ids, g2, g3⟩ := hk _ _ _ h
          cases g1
          exact (Tree.run_fail.1 (g3 (joinK kn ke) b h3)).elim
/-! ### Functions -/
section
variable {β : Type}
def resT (P : Program) (S : St) : List ResultVar → (List SV → Tree β) → Tree β
  | [], K => K []
  | .tmp t :: rs, K => ((S.t.getD t .any).res S.own).fz fun x => resT P S rs fun xs => K (x :: xs)
  | .cell a t :: rs, K => ldT S.own (isAggT P t) (P.cellsOf t) ((S.t.getD a .any).res S.own) fun x => resT P S rs fun xs => K (x :: xs)
theorem resT_sound {P : Program} {S : St} {b : β} : ∀ {rs : List ResultVar} {K : List SV → Tree β}, (resT P S rs K).run = some b → (resSV P S rs).1 ∧ (K (resSV P S rs).2).run = some b
  | [], K, h => ⟨trivial, h⟩
  | .tmp t :: rs, K, h => by
    simp only [resT, SV.fz_eq] at h
    obtain ⟨h3, h4⟩ := resT_sound h
    exact ⟨h3, h4⟩
  | .cell a t :: rs, K, h => by
    simp only [resT] at h
    obtain ⟨h1, h2⟩ := ldT_sound h
    obtain ⟨h3, h4⟩ := resT_sound h2
    exact ⟨⟨h1, h3⟩, h4⟩
def finT (P : Program) (rs : List ResultVar) (S : St) (K : PV → Tree β) : Tree β :=
  resT P S rs fun xs => forceL (xs.flatMap (SV.ids S.own)) fun ids => forceL (fzL S.own ids) fun own => match (oneSV xs).pvS own with
    | some v => K v
    | none => .fail
theorem finT_sound {P : Program} {rs : List ResultVar} {S : St} {K : PV → Tree β} {b : β} (h : (finT P rs S K).run = some b) : ∃ v, (K v).run = some b ∧ resK P rs v S := by
  unfold finT at h
  obtain ⟨h1, h2⟩ := resT_sound h
  simp only [forceL_eq] at h2
  split at h2
  · rename_i v e1
    exact ⟨v, h2, h1, e1⟩
  · exact (Tree.run_fail.1 h2).elim
/-- What a function leaves. -/
def retT (P : Program) (rs : List ResultVar) (K : PV → Tree β) (e : Exit) (S : St) : Tree β :=
  match e with
  | .ret => finT P rs S K
  | _ => .fail
/-- **A function's contract, out of what it was evaluated to.** -/
theorem fun_of_ev {P : Program} {G : Glob} {Γ : Gam} (hΓ : GamOk P G Γ) {Λ : Lam} {f : FuncId} {fn : Func} {c : Code} {x : XR} (L : List (List Nat)) (hf : P.funcs[f]? = some fn) (hb : fn.body = some c) (hok : calleeOk P f = true)
    (hir : compCode P c L = some (x.erase, [])) (hres : resOk P fn.results.toList = true) {rs : List ResultVar} (hrs : fn.results.toList = rs) {args : List PV} {n : Nat} (hnt : fn.ntmps = n) (hl : x.lam P G Λ) {R : Type} {emb : R → PV} {kf : PV → Tree R}
    (hkf : ∀ v r, (kf v).run = some r → v = emb r) {r : R} {S : St} (hS : ⟨args.map .p ++ List.replicate (n - args.length) .any, []⟩ = S)
    (h : (ev G Γ Λ x S (fun S => finT P rs S kf) (retT P rs kf)).run = some r) : FunEq P G f args (emb r) := by
  subst hrs
  subst hS
  refine fun_of_does L hf hb hok hir hres hnt (ev_sound hΓ hl h (fun S h => ?_) fun e S h => ?_)
  · obtain ⟨v, h1, h2⟩ := finT_sound h
    rw [hkf v r h1] at h2
    exact h2
  · cases e <;> first | (exact (Tree.run_fail.1 h).elim) | skip
    obtain ⟨v, h1, h2⟩ := finT_sound h
    rw [hkf v r h1] at h2
    exact ⟨rfl, h2⟩
/-- What a function leaves that gives back a new row. -/
def newX (own : List OB) (ty : TypeId) (rest : List PV) (x : SV) (K : PV → Tree β) : Tree β :=
  match x with
  | .row id => match own.getD id .gone with
    | .irow ty' k nil ex l => .chk (ty' == ty) (K (.tup (.isl nil ex k l :: rest)))
    | _ => .fail
  | .p (.isl nil _ k _) => .chk nil (K (.tup (.isl true true k [] :: rest)))
  | _ => .fail
def newT (P : Program) (ty : TypeId) (rs : List ResultVar) (S : St) (K : PV → Tree β) : Tree β :=
  resT P S rs fun xs => match xs with
    | x :: r => match allP r with
      | some rest => .chk (PV.flatL rest && !rest.isEmpty) (newX S.own ty rest x K)
      | none => .fail
    | [] => .fail
theorem allP_some : ∀ {l : List SV} {r : List PV}, allP l = some r → l = r.map .p
  | [], r, h => by cases h; rfl
  | x :: l, r, h => by
    cases x <;> simp only [allP] at h <;> try cases h
    obtain ⟨r', h1, rfl⟩ := Option.map_eq_some_iff.1 h
    rw [allP_some h1]
    rfl
theorem newT_sound {P : Program} {ty : TypeId} {rs : List ResultVar} {S : St} {K : PV → Tree β} {b : β} (h : (newT P ty rs S K).run = some b) : ∃ nil ex k l rest, (K (.tup (.isl nil ex k l :: rest))).run = some b ∧ newK P ty k nil l rest rs S := by
  unfold newT at h
  obtain ⟨h1, h2⟩ := resT_sound h
  split at h2
  · rename_i x r e1
    split at h2
    · rename_i rest e2
      rw [Tree.run_chk, Bool.and_eq_true, Bool.not_eq_true'] at h2
      obtain ⟨⟨f1, f2⟩, h2⟩ := h2
      have e3 := allP_some e2
      have hne : rest ≠ [] := fun e => by rw [e] at f2; cases f2
      unfold newX at h2
      split at h2
      · rename_i id
        split at h2
        · rename_i ty' k nil ex l e4
          rw [Tree.run_chk, beq_iff_eq] at h2
          obtain ⟨rfl, h2⟩ := h2
          exact ⟨nil, ex, k, l, rest, h2, h1, f1, hne, _, by rw [e1, e3], .inl ⟨id, ex, rfl, e4⟩⟩
        · exact (Tree.run_fail.1 h2).elim
      · rename_i nil ex k l
        rw [Tree.run_chk] at h2
        obtain ⟨rfl, h2⟩ := h2
        exact ⟨true, true, k, [], rest, h2, h1, f1, hne, _, by rw [e1, e3], .inr ⟨_, _, rfl, rfl, rfl⟩⟩
      · exact (Tree.run_fail.1 h2).elim
    · exact (Tree.run_fail.1 h2).elim
  · exact (Tree.run_fail.1 h2).elim
def retN (P : Program) (ty : TypeId) (rs : List ResultVar) (K : PV → Tree β) (e : Exit) (S : St) : Tree β :=
  match e with
  | .ret => newT P ty rs S K
  | _ => .fail
/-- **A function's contract that gives back a new row, out of what it was evaluated to.** -/
theorem new_of_ev {P : Program} {G : Glob} {Γ : Gam} (hΓ : GamOk P G Γ) {Λ : Lam} {f : FuncId} {fn : Func} {c : Code} {x : XR} (L : List (List Nat)) (hf : P.funcs[f]? = some fn) (hb : fn.body = some c) (hok : calleeOk P f = true)
    (hir : compCode P c L = some (x.erase, [])) (hres : resOk P fn.results.toList = true) {rs : List ResultVar} (hrs : fn.results.toList = rs) {ty : TypeId} {args : List PV} {n : Nat} (hnt : fn.ntmps = n) (hl : x.lam P G Λ) {R : Type} {emb : R → PV} {kf : PV → Tree R}
    (hkf : ∀ v r, (kf v).run = some r → v = emb r) {r : R} (hform : ∃ nil ex k l rest, emb r = .tup (.isl nil ex k l :: rest)) {S : St} (hS : ⟨args.map .p ++ List.replicate (n - args.length) .any, []⟩ = S)
    (h : (ev G Γ Λ x S (fun S => newT P ty rs S kf) (retN P ty rs kf)).run = some r) : FunNewT P G (f + 2000000) (.ref ty [] :: args) (emb r) := by
  subst hrs
  subst hS
  obtain ⟨nil, ex, k, l, rest, he⟩ := hform
  rw [he]
  refine ⟨Nat.le_add_left _ _, ?_⟩
  dsimp only
  rw [Nat.add_sub_cancel]
  have key : ∀ S, (newT P ty fn.results.toList S kf).run = some r → newK P ty k nil l rest fn.results.toList S := fun S h => by
    obtain ⟨nil', ex', k', l', rest', h1, h2⟩ := newT_sound h
    have := hkf _ _ h1
    rw [he] at this
    injection this with this
    injection this with e1 e2
    injection e1 with a1 a2 a3 a4
    subst a1; subst a3; subst a4; subst e2
    exact h2
  refine new_of_core hf hb hok hres hnt fun _ _ _ _ _ _ rl => ev_sound hΓ hl h (fun S h => key S h) (fun e S h => ?_) _ _ _ _ _ _ _ (compCode_ok hir) rl
  cases e <;> first | (exact (Tree.run_fail.1 h).elim) | skip
  exact ⟨rfl, key S h⟩
theorem leaf_of {R : Type} {ρ : Shp} {acc : PV → R} {emb : R → PV} (h : ∀ v, ρ.build v = emb (acc v)) (v : PV) (r : R) (hr : (Tree.chk (ρ.ok v) (.leaf (acc v))).run = some r) : v = emb r := by
  rw [Tree.run_chk] at hr
  have := hr.2
  simp only [Tree.run, Option.some.injEq] at this
  rw [← this, ← h, Shp.build_eq _ hr.1]
end
/-! ### Callees -/
def Gam.bot : Gam := fun _ _ _ _ => .fail
def Gam.fn (f : FuncId) (ss : List Shp) {R : Type} (go : List PV → Option R) (emb : R → PV) (Γ : Gam) : Gam := fun β g as k =>
  match g == f && Shp.okL ss as with
  | true => .bind (go as) fun r => k (emb r)
  | false => Γ β g as k
theorem GamOk.bot {P : Program} {G : Glob} : GamOk P G Gam.bot := fun _ _ _ _ h => (Tree.run_fail.1 h).elim
def FnAt (P : Program) (G : Glob) (f : FuncId) (ss : List Shp) {R : Type} (go : List PV → Option R) (emb : R → PV) : Prop := ∀ as, Shp.okL ss as = true → ∀ r, go as = some r → FunX P G f as (emb r)
theorem GamOk.fn {P : Program} {G : Glob} {f : FuncId} {ss : List Shp} {R : Type} {go : List PV → Option R} {emb : R → PV} {Γ : Gam} (h : FnAt P G f ss go emb) (hΓ : GamOk P G Γ) : GamOk P G (Gam.fn f ss go emb Γ) := fun g as k b hr => by
  unfold Gam.fn at hr
  split at hr
  · rename_i hc
    simp only [Bool.and_eq_true, beq_iff_eq] at hc
    obtain ⟨rfl, hc⟩ := hc
    rw [Tree.run_bind] at hr
    obtain ⟨r, h1, h2⟩ := hr
    exact ⟨emb r, h as hc r h1, h2⟩
  · exact hΓ g as k b hr
end Go.Fx
