/-
  Fx, part 27: a row that is only read for a while, and written afterwards: it is made persistent for a piece of code without loops, and is an own thing again behind it; of all else only plain values go on.
-/
import Derived.Test.YtajphaljpkeecaaDoorFxRng
set_option linter.unusedSimpArgs false
set_option linter.unusedVariables false
namespace Go.Fx
def thOk1 : SV → Bool
  | .p y => y.flat
  | .row id => id == 0
  | _ => false
def thOkL (outs : List Nat) : Nat → List SV → Bool
  | _, [] => true
  | i, x :: xs => (!outs.contains i || thOk1 x) && thOkL outs (i + 1) xs
theorem thOkL_get {outs : List Nat} : ∀ {l : List SV} {k i : Nat} {x : SV}, thOkL outs k l = true → l[i]? = some x → outs.contains (k + i) = true → thOk1 x = true
  | [], k, i, x, _, h, _ => by simp at h
  | y :: l, k, 0, x, h, e, hc => by
    simp only [List.getElem?_cons_zero, Option.some.injEq] at e
    subst e
    simp only [thOkL, Bool.and_eq_true, Bool.or_eq_true, Bool.not_eq_true'] at h
    rw [Nat.add_zero] at hc
    exact h.1.elim (fun h => by rw [hc] at h; cases h) id
  | y :: l, k, i + 1, x, h, e, hc => by
    simp only [thOkL, Bool.and_eq_true] at h
    exact thOkL_get (k := k + 1) (i := i) h.2 (by simpa using e) (by rw [show k + 1 + i = k + (i + 1) by omega]; exact hc)
def thawT {β : Type} (outs : List Nat) (own0 : List OB) (S : St) (K : St → Tree β) : Tree β := .chk (thOkL outs 0 S.t) (forceL (forgetL outs 0 S.t) fun t => K ⟨t, own0⟩)
def frz (S : St) : St := ⟨S.t, fz1 S.own 0⟩
theorem freeze_irow {B : Base} {ρ : Env} {h : Heap} {w : World} {ty : TypeId} {k : IntKind} {nil ex : Bool} {l : List Int} (s : Sat B ρ h [.irow ty k nil ex l] w) {v : Value} (hv : ρ[0]? = some v) :
    h ≤ thaw h w (.irow ty k nil ex l) v ∧ Sat B ρ (thaw h w (.irow ty k nil ex l) v) [.fro (.isl nil ex k l)] w := by
  have hs := s.ent 0 _ v rfl hv
  refine s.freeze (id := 0) rfl hv (x := .isl nil ex k l) ?_
  rcases hs with ⟨h1, h2, rfl⟩ | ⟨hn, b, c, cap, rfl, h1, h2, h3, h4, h5⟩
  · subst h1; subst h2
    exact ⟨none, 0, rfl, Nat.le_refl _, fun _ => rfl, by simp, fun _ => rfl, fun _ e => by cases e⟩
  · refine ⟨some ⟨b, 0, none⟩, cap, rfl, h1, h2, by simp [hn], fun e => by simp at e, fun ad e => ?_⟩
    cases e
    refine ⟨fun _ => rfl, fun j u hj => ⟨c, ty, (0, 0), by simp [thaw, OB.fp, h3], ?_⟩⟩
    have hlt : j < l.length := by simpa using (List.getElem?_eq_some_iff.1 hj).1
    rw [Nat.zero_add, h5 j hlt]
    rw [← hj]
    simp [hlt, List.getD_eq_getElem?_getD]
theorem thaw_rel {B : Base} {G : Glob} {D : List Deferred} {ρ : Env} {h0 : Heap} {S0 : St} {a0 : Act} {w0 : World} {ty : TypeId} {k : IntKind} {nil ex : Bool} {l : List Int} {v0 : Value} (rl : Rel B G D ρ h0 S0 a0 w0) (hown : S0.own = [.irow ty k nil ex l]) (hv : ρ[0]? = some v0)
    (hle0 : h0 ≤ thaw h0 w0 (.irow ty k nil ex l) v0) {ρ2 : Env} {h2 : Heap} {S2 : St} {a2 : Act} {w2 : World} (rl2 : Rel B G D ρ2 h2 S2 a2 w2) (l1 : Env.le ρ ρ2) (l2 : thaw h0 w0 (.irow ty k nil ex l) v0 ≤ h2) {outs : List Nat} (hok : thOkL outs 0 S2.t = true) :
    ∃ h', Rel B G D ρ h' ⟨forgetL outs 0 S2.t, [.irow ty k nil ex l]⟩ a2 w2 := by
  obtain ⟨bs, d1, d2, d3⟩ := rl2.defs
  have s0 := rl.sat
  rw [hown] at s0
  have hent := s0.ent 0 _ v0 rfl hv
  have hblk : ∀ b, (OB.irow ty k nil ex l).fp v0 = some b → ∃ c, w0.heap[b]? = some (.cells c ty (0, 0)) ∧ h2 b = some (.cells c ty (0, 0)) := fun b hb => by
    rcases hent with ⟨_, _, rfl⟩ | ⟨_, b', c, cap, rfl, _, _, e3, _⟩
    · cases hb
    · cases hb
      exact ⟨c, e3, l2 _ _ (by simp only [thaw, OB.fp, if_true]; exact e3)⟩
  have hlen : ρ.length = 1 := by have := s0.len; simpa using this
  have one : ∀ (i : Nat) (ob : OB), [OB.irow ty k nil ex l][i]? = some ob → i = 0 ∧ ob = .irow ty k nil ex l := fun i ob e => by
    cases i with
    | zero => simp at e; exact ⟨rfl, e.symm⟩
    | succ i => simp at e
  refine ⟨fun b => if b ∈ bs then h2 b else h0 b, ?_⟩
  have hle : h0 ≤ (fun b => if b ∈ bs then h2 b else h0 b : Heap) := fun b o e => by
    dsimp only
    split
    · exact l2 _ _ (hle0 _ _ e)
    · exact e
  refine ⟨?_, ?_, ?_, ?_, ?_⟩
  · rw [rl2.size]; exact (forgetL_length ..).symm
  · intro i x v hx hav
    have hx : (forgetL outs 0 S2.t)[i]? = some x := hx
    rw [forgetL_get] at hx
    cases e : S2.t[i]? with
    | none => rw [e] at hx; cases hx
    | some y =>
      rw [e] at hx
      simp only [Option.map_some, Option.some.injEq] at hx
      have hr := rl2.tmp i y v e hav
      by_cases hc : outs.contains (0 + i) = true
      · rw [if_pos hc] at hx
        subst hx
        have h1 := thOkL_get hok e hc
        cases y with
        | p z => exact PV.flat_rel z v h1 hr
        | row id =>
          have h1 : id = 0 := by simpa [thOk1] using h1
          subst h1
          have hr : ρ2[0]? = some v ∧ v.oneCell' = true := hr
          have := l1 _ _ hv
          rw [hr.1] at this
          cases this
          exact ⟨hv, hr.2⟩
        | _ => cases h1
      · rw [if_neg hc] at hx
        subst hx
        trivial
  · exact ⟨bs, d1, d2, fun b hb => ⟨(d3 b hb).1, by dsimp only; rw [if_pos hb]; exact (d3 b hb).2⟩⟩
  · have s2 := rl2.sat
    refine ⟨s0.len, ?_, ?_, ?_, ?_, s2.size, s2.keep, ?_, ?_, s2.outer⟩
    · intro b o e
      split at e
      · exact s2.sub _ _ e
      · exact s2.sub _ _ (l2 _ _ (hle0 _ _ e))
    · intro i ob v e1 e2
      obtain ⟨rfl, rfl⟩ := one i ob e1
      rw [hv] at e2
      cases e2
      rcases hent with h | ⟨hn, b', c, cap, rfl, e3, e4, e5, e6, e7⟩
      · exact .inl h
      · obtain ⟨c', g1, g2⟩ := hblk b' rfl
        rw [e5] at g1
        cases g1
        exact .inr ⟨hn, b', c, cap, rfl, e3, e4, s2.sub _ _ g2, e6, e7⟩
    · intro i j ob ob' v v' b e1 _ e2 _ _ _
      obtain ⟨rfl, _⟩ := one i ob e1
      obtain ⟨rfl, _⟩ := one j ob' e2
      rfl
    · intro i ob v b e1 e2 e3
      obtain ⟨rfl, rfl⟩ := one i ob e1
      rw [hv] at e2
      cases e2
      split
      · rename_i hb
        obtain ⟨c', _, g2⟩ := hblk b e3
        rw [(d3 b hb).2] at g2
        cases g2
      · exact s0.apart 0 _ v0 b rfl hv e3
    · intro b hb hf
      split
      · rename_i hm
        exact absurd hb (Nat.not_lt.2 (d3 b hm).1)
      · exact s0.old b hb hf
    · intro i ob v b e1 e2 e3
      exact s0.mine i ob v b e1 e2 e3
  · exact fun g x e => ⟨PV.rel_mono hle _ _ (rl.glob g x e).1, tabOk_mono hle (rl.glob g x e).2⟩
/-- **A row, read for a while.** -/
theorem lam_thaw {P : Program} {G : Glob} {Γ : Gam} (hΓ : GamOk P G Γ) {Λ Λ' : Lam} {body : XR} (hx : body.plain = true) {j : Nat} {outs : List Nat} {X Y : Type} {bX : X → St} {accX : St → X} {σ : StSh} (hσ : ∀ S, σ.build S = bX (accX S))
    (hrow : ∀ x, ∃ ty k nil ex l, (bX x).own = [.irow ty k nil ex l])
    {pc : X → Option Y} {kb : Exit → St → Tree Y} {kY : Dec Y} (hk : ExOk id kb kY)
    (hpc : ∀ x, (ev G Γ Λ' body (frz (bX x)) (fun S => thawT outs (bX x).own S (kb .normal)) (fun _ _ => .fail)).run = pc x)
    (hΛ : ∀ {β : Type} (S : St) (kn : St → Tree β) (ke : Exit → St → Tree β), Λ β j S kn ke = .chk (σ.ok S) (.bind (pc (accX S)) fun y => kY β y (joinK kn ke))) : LamAt P G Λ j body.erase := by
  intro β S kn ke b h Kn Ke hn he
  rw [hΛ, Tree.run_chk, Tree.run_bind] at h
  obtain ⟨h1, y, h2, h3⟩ := h
  have hS : S = bX (accX S) := by rw [← hσ, StSh.build_eq _ h1]
  obtain ⟨ty, k, nil, ex, l, hown⟩ := hrow (accX S)
  rw [← hS] at hown
  refine Does.forgets ?_
  intro c B D ρ h0 a w hc rl
  have s0 := rl.sat
  rw [hown] at s0
  obtain ⟨v0, hv⟩ : ∃ v, ρ[0]? = some v := s0.env (id := 0) rfl
  obtain ⟨hle0, s1⟩ := freeze_irow s0 hv
  have rl1 : Rel B G D ρ (thaw h0 w (.irow ty k nil ex l) v0) (frz S) a w := by
    refine ⟨rl.size, fun i x v e1 e2 => SV.rel_mono (Env.le_refl _) hle0 _ _ (rl.tmp i x v e1 e2), rl.defs.mono hle0, ?_, fun g x e => ⟨PV.rel_mono hle0 _ _ (rl.glob g x e).1, tabOk_mono hle0 (rl.glob g x e).2⟩⟩
    unfold frz fz1
    rw [hown]
    exact s1
  have hE := ev_soundE (r := none) (P := P) hΓ hx ((hpc (accX S)).trans h2) (Kn := fun S2 => thOkL outs 0 S2.t = true ∧ (kb .normal ⟨forgetL outs 0 S2.t, [.irow ty k nil ex l]⟩).run = some y) (Ke := fun _ _ => False)
    (fun S2 h => by
      unfold thawT at h
      rw [Tree.run_chk, forceL_eq, ← hS, hown] at h
      exact h) (fun e S2 h => Tree.run_fail.1 h)
  rw [← hS] at hE
  refine wpIn_mono (hE c B D ρ _ ρ _ a w hc rl1 (Env.le_refl _) (Heap.le_refl _)) fun e a' w' hp => ?_
  cases e with
  | normal =>
    obtain ⟨S2, ρ2, h2', ⟨hk1, hk2⟩, rl2, l1, l2⟩ := hp
    obtain ⟨h', rl3⟩ := thaw_rel rl hown hv hle0 rl2 l1 l2 hk1
    obtain ⟨z, g1, lv, ids, g2, g3⟩ := hk _ _ _ hk2
    cases g1
    exact ⟨_, ρ, h', ⟨lv, ids, g2, hn _ (g3 (joinK kn ke) b h3)⟩, rl3⟩
  | panic => exact hp.elim
  | outgrown => exact hp.elim
  | _ => exact hp.elim fun _ h => h.elim fun _ h => h.elim fun _ h => h.1.elim
/-- **A row, read for a while: two regions.** -/
theorem lam_thaw2 {P : Program} {G : Glob} {Γ : Gam} (hΓ : GamOk P G Γ) {Λ Λ' : Lam} {x1 x2 : XR} (hx1 : x1.plain = true) (hx2 : x2.plain = true) {j : Nat} {outs : List Nat} {X Y : Type} {bX : X → St} {accX : St → X} {σ : StSh} (hσ : ∀ S, σ.build S = bX (accX S))
    (hrow : ∀ x, ∃ ty k nil ex l, (bX x).own = [.irow ty k nil ex l])
    {pc : X → Option Y} {kb : Exit → St → Tree Y} {kY : Dec Y} (hk : ExOk id kb kY)
    (hpc : ∀ x, (ev G Γ Λ' (.seq x1 x2) (frz (bX x)) (fun S => thawT outs (bX x).own S (kb .normal)) (fun _ _ => .fail)).run = pc x)
    (hΛ : ∀ {β : Type} (S : St) (kn : St → Tree β) (ke : Exit → St → Tree β), Λ β j S kn ke = .chk (σ.ok S) (.bind (pc (accX S)) fun y => kY β y (joinK kn ke))) : LamS P G Λ j x1.erase x2.erase := by
  intro β S kn ke b h r Kn Ke hn he
  rw [hΛ, Tree.run_chk, Tree.run_bind] at h
  obtain ⟨h1, y, h2, h3⟩ := h
  have hS : S = bX (accX S) := by rw [← hσ, StSh.build_eq _ h1]
  obtain ⟨ty, k, nil, ex, l, hown⟩ := hrow (accX S)
  rw [← hS] at hown
  intro c B D ρ h0 a w hc rl
  have s0 := rl.sat
  rw [hown] at s0
  obtain ⟨v0, hv⟩ : ∃ v, ρ[0]? = some v := s0.env (id := 0) rfl
  obtain ⟨hle0, s1⟩ := freeze_irow s0 hv
  have rl1 : Rel B G D ρ (thaw h0 w (.irow ty k nil ex l) v0) (frz S) a w := by
    refine ⟨rl.size, fun i x v e1 e2 => SV.rel_mono (Env.le_refl _) hle0 _ _ (rl.tmp i x v e1 e2), rl.defs.mono hle0, ?_, fun g x e => ⟨PV.rel_mono hle0 _ _ (rl.glob g x e).1, tabOk_mono hle0 (rl.glob g x e).2⟩⟩
    unfold frz fz1
    rw [hown]
    exact s1
  let KnE : St → Prop := fun S2 => thOkL outs 0 S2.t = true ∧ (kb .normal ⟨forgetL outs 0 S2.t, [.irow ty k nil ex l]⟩).run = some y
  have hfin : ∀ S2, (thawT outs S.own S2 (kb .normal)).run = some y → KnE S2 := fun S2 h => by
    unfold thawT at h
    rw [Tree.run_chk, forceL_eq, hown] at h
    exact h
  have hp0 := (hpc (accX S)).trans h2
  rw [← hS] at hp0
  have hE : DoesE P G none x1.erase (frz S) (fun S' => DoesE P G none x2.erase S' KnE fun _ _ => False) (fun _ _ => False) :=
    ev_soundE (P := P) hΓ hx1 hp0 (fun S' h' => ev_soundE (P := P) hΓ hx2 h' (fun S2 h => hfin S2 h) (fun e S2 h => Tree.run_fail.1 h)) (fun e S2 h => Tree.run_fail.1 h)
  cases hc with
  | seq hc1 hc2 =>
    cases hc2 with
    | seq hc2 hc3 =>
      refine wpIn_seq (wpIn_mono (hE _ B D ρ _ ρ _ a w hc1 rl1 (Env.le_refl _) (Heap.le_refl _)) fun e a' w' hp => ?_)
      cases e with
      | normal =>
        obtain ⟨S1, ρ1, h1', hE2, rl2, l1, l2⟩ := hp
        refine wpIn_seq (wpIn_mono (hE2 _ B D ρ (thaw h0 w (.irow ty k nil ex l) v0) ρ1 h1' a' w' hc2 rl2 l1 l2) fun e a'' w'' hp => ?_)
        cases e with
        | normal =>
          obtain ⟨S2, ρ2, h2', ⟨hk1, hk2⟩, rl3, l3, l4⟩ := hp
          obtain ⟨h', rl4⟩ := thaw_rel rl hown hv hle0 rl3 l3 l4 hk1
          obtain ⟨z, g1, lv, ids, g2, g3⟩ := hk _ _ _ hk2
          cases g1
          exact hn _ (g3 (joinK kn ke) b h3) _ _ _ _ _ _ _ hc3 (rl4.forget lv g2)
        | panic => exact hp.elim
        | outgrown => exact hp.elim
        | _ => exact hp.elim fun _ h => h.elim fun _ h => h.elim fun _ h => h.1.elim
      | panic => exact hp.elim
      | outgrown => exact hp.elim
      | _ => exact hp.elim fun _ h => h.elim fun _ h => h.elim fun _ h => h.1.elim
end Go.Fx
