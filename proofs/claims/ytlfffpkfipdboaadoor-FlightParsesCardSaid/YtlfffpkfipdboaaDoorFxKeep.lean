/-
  Fx, part 10c: own things that nobody names any more are let go; the others get new numbers.
-/
import Derived.Test.YtlfffpkfipdboaaDoorFxDraw
set_option linter.unusedSimpArgs false
set_option linter.unusedVariables false
namespace Go.Fx
def keepEnv (ρ : Env) (ids : List Nat) : Env := ids.map fun i => ρ.getD i undef
theorem posOf_spec (id : Nat) : ∀ (ids : List Nat) (k j : Nat), posOf id ids k = some j → k ≤ j ∧ ids[j - k]? = some id
  | [], k, j, h => by simp only [posOf] at h; cases h
  | x :: xs, k, j, h => by
    simp only [posOf] at h
    split at h
    · rename_i e
      subst e
      cases h
      exact ⟨Nat.le_refl _, by simp⟩
    · obtain ⟨h1, h2⟩ := posOf_spec id xs (k + 1) j h
      refine ⟨by omega, ?_⟩
      rw [show j - k = (j - (k + 1)) + 1 by omega, List.getElem?_cons_succ]
      exact h2
theorem keep_get {ρ : Env} {ids : List Nat} {id j : Nat} {v : Value} (h : posOf id ids 0 = some j) (hv : ρ[id]? = some v) : (keepEnv ρ ids)[j]? = some v := by
  obtain ⟨_, h2⟩ := posOf_spec id ids 0 j h
  rw [Nat.sub_zero] at h2
  simp only [keepEnv, List.getElem?_map, h2, Option.map_some]
  rw [List.getD_eq_getElem?_getD, hv]; rfl
mutual
theorem SV.ren_rel {B : Base} {ρ : Env} {h : Heap} {own : List OB} {w : World} (s : Sat B ρ h own w) (ids : List Nat) : ∀ (x : SV) {v : Value}, x.rel ρ h v → (x.ren own ids).rel (keepEnv ρ ids) h v
  | .p x, v, hx => hx
  | .row id, v, hx => by
    have hr := SV.res_rel s (x := .row id) hx
    simp only [SV.ren, SV.res] at hr ⊢
    split
    · rename_i e; rw [e] at hr; exact hr
    · split
      · rename_i j e; exact ⟨keep_get e hx.1, hx.2⟩
      · trivial
  | .ptr id off, v, hx => by
    have hr := SV.res_rel s (x := .ptr id off) hx
    simp only [SV.ren, SV.res] at hr ⊢
    split
    · rename_i e; rw [e] at hr; exact hr
    · split
      · rename_i j e
        obtain ⟨b, h1, h2⟩ := hx
        exact ⟨b, keep_get e h1, h2⟩
      · trivial
  | .rptr id wd i o, v, hx => by
    simp only [SV.ren]
    split
    · rename_i j e
      obtain ⟨b, l, c, h1, h2⟩ := hx
      exact ⟨b, l, c, keep_get e h1, h2⟩
    · trivial
  | .mp id, v, hx => by
    simp only [SV.ren]
    split
    · rename_i j e; exact ⟨keep_get e hx.1, hx.2⟩
    · trivial
  | .agg cs, v, ⟨vs, e, hx⟩ => ⟨vs, e, SV.renL_rel s ids cs hx⟩
  | .tup cs, v, ⟨vs, e, hx⟩ => ⟨vs, e, SV.renL_rel s ids cs hx⟩
  | .fn f cs, v, ⟨vs, e, hx⟩ => ⟨vs, e, SV.renL_rel s ids cs hx⟩
  | .cnd b x, v, hx => ⟨fun hb => SV.ren_rel s ids x (hx.1 hb), hx.2⟩
  | .any, v, hx => trivial
theorem SV.renL_rel {B : Base} {ρ : Env} {h : Heap} {own : List OB} {w : World} (s : Sat B ρ h own w) (ids : List Nat) : ∀ (x : List SV) {v : List Value}, SV.relL ρ h x v → SV.relL (keepEnv ρ ids) h (SV.renL own ids x) v
  | [], v, hx => hx
  | x :: xs, v, ⟨u, us, e, h1, h2⟩ => ⟨u, us, e, SV.ren_rel s ids x h1, SV.renL_rel s ids xs h2⟩
end
theorem renE_rel {B : Base} {ρ : Env} {h : Heap} {own : List OB} {w : World} (s : Sat B ρ h own w) (ids : List Nat) : ∀ (x : List (PV × SV)) {v : List MapEntry}, relEntries ρ h x v → relEntries (keepEnv ρ ids) h (renE own ids x) v
  | [], v, hx => hx
  | (k, x) :: xs, v, ⟨u, us, e, h1, h2, h3⟩ => ⟨u, us, e, h1, SV.ren_rel s ids x h2, renE_rel s ids xs h3⟩
theorem OB.ren_sat {B : Base} {ρ : Env} {h : Heap} {own : List OB} {w : World} (s : Sat B ρ h own w) (ids : List Nat) {ob : OB} {v : Value} (hs : ob.sat ρ h w v) : (ob.ren own ids).sat (keepEnv ρ ids) h w v := by
  cases ob with
  | box ty cs =>
    obtain ⟨b, c, e, h1, h2⟩ := hs
    exact ⟨b, c, e, h1, SV.renL_rel s ids _ h2⟩
  | map es =>
    obtain ⟨r, ms, cl, e, h1, h2⟩ := hs
    exact ⟨r, ms, cl, e, h1, renE_rel s ids _ h2⟩
  | irow => exact hs
  | row => exact hs
  | fro => exact hs
  | iter => exact hs
  | gone => exact hs
theorem OB.ren_fp (own : List OB) (ids : List Nat) (ob : OB) (v : Value) : (ob.ren own ids).fp v = ob.fp v := by
  cases ob <;> first | rfl | (cases v <;> first | rfl | (rename_i a; cases a <;> rfl))
theorem renO_get (own : List OB) (ids : List Nat) : ∀ (l : List Nat) (i : Nat), (renO own ids l)[i]? = (l[i]?).map fun k => (own.getD k .gone).ren own ids
  | [], i => by simp [renO]
  | x :: l, 0 => by simp [renO]
  | x :: l, i + 1 => by simp [renO, renO_get own ids l i]
theorem Sat.keepIds {B : Base} {ρ : Env} {h : Heap} {own : List OB} {w : World} (s : Sat B ρ h own w) {ids : List Nat} (hn : ids.Nodup) : Sat B (keepEnv ρ ids) h (renO own ids ids) w := by
  have key : ∀ (i : Nat) ob v, (renO own ids ids)[i]? = some ob → (keepEnv ρ ids)[i]? = some v → ∃ k, ids[i]? = some k ∧ ((ob = .gone) ∨ ∃ ob0, own[k]? = some ob0 ∧ ρ[k]? = some v ∧ ob = ob0.ren own ids) := by
    intro i ob v h1 h2
    rw [renO_get] at h1
    rw [Option.map_eq_some_iff] at h1
    obtain ⟨k, hk, rfl⟩ := h1
    refine ⟨k, hk, ?_⟩
    simp only [keepEnv, List.getElem?_map, hk, Option.map_some, Option.some.injEq] at h2
    rcases Nat.lt_or_ge k own.length with hl | hl
    · right
      have hl' : k < ρ.length := by rw [s.len]; exact hl
      refine ⟨own[k], List.getElem?_eq_getElem hl, ?_, ?_⟩
      · rw [← h2, List.getD_eq_getElem?_getD, List.getElem?_eq_getElem hl']; rfl
      · rw [List.getD_eq_getElem?_getD, List.getElem?_eq_getElem hl]; rfl
    · left
      rw [List.getD_eq_getElem?_getD, List.getElem?_eq_none hl]; rfl
  have nofp : ∀ v b, OB.gone.fp v ≠ some b := fun v b e => by cases v <;> cases e
  have inj : ∀ {i j k : Nat}, ids[i]? = some k → ids[j]? = some k → i = j := by
    intro i j k h1 h2
    obtain ⟨l1, e1⟩ := List.getElem?_eq_some_iff.1 h1
    obtain ⟨l2, e2⟩ := List.getElem?_eq_some_iff.1 h2
    have := List.pairwise_iff_getElem.1 hn
    rcases Nat.lt_trichotomy i j with hlt | hlt | hlt
    · exact absurd (e1.trans e2.symm) (this i j l1 l2 hlt)
    · exact hlt
    · exact absurd (e2.trans e1.symm) (this j i l2 l1 hlt)
  exact {
    len := by
      have : ∀ l : List Nat, (renO own ids l).length = l.length := by
        intro l
        induction l with
        | nil => rfl
        | cons x l ih => simp [renO, ih]
      simp [keepEnv, this]
    sub := s.sub
    ent := fun i ob v h1 h2 => by
      obtain ⟨k, hk, rfl | ⟨ob0, g1, g2, rfl⟩⟩ := key i ob v h1 h2
      · trivial
      · exact OB.ren_sat s ids (s.ent k ob0 v g1 g2)
    nodup := fun i j ob ob' v v' b h1 h2 h3 h4 h5 h6 => by
      obtain ⟨k, hk, rfl | ⟨ob0, g1, g2, rfl⟩⟩ := key i ob v h1 h2
      · exact absurd h5 (nofp _ _)
      obtain ⟨k', hk', rfl | ⟨ob0', g1', g2', rfl⟩⟩ := key j ob' v' h3 h4
      · exact absurd h6 (nofp _ _)
      rw [OB.ren_fp] at h5 h6
      have := s.nodup k k' ob0 ob0' v v' b g1 g2 g1' g2' h5 h6
      subst this
      exact inj hk hk'
    apart := fun i ob v b h1 h2 h3 => by
      obtain ⟨k, hk, rfl | ⟨ob0, g1, g2, rfl⟩⟩ := key i ob v h1 h2
      · exact absurd h3 (nofp _ _)
      rw [OB.ren_fp] at h3
      exact s.apart k ob0 v b g1 g2 h3
    size := s.size
    keep := s.keep
    old := s.old
    outer := s.outer
    mine := fun i ob v b h1 h2 h3 => by
      obtain ⟨k, hk, rfl | ⟨ob0, g1, g2, rfl⟩⟩ := key i ob v h1 h2
      · exact absurd h3 (nofp _ _)
      rw [OB.ren_fp] at h3
      exact s.mine k ob0 v b g1 g2 h3 }
end Go.Fx
