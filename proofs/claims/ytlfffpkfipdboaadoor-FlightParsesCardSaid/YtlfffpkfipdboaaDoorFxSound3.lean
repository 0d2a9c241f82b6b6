/-
  Fx, part 8: what is made persistent; operations that make or write own things; calls.
-/
import Derived.Test.YtlfffpkfipdboaaDoorFxSound2
import Derived.Laws.CopyRow
set_option linter.unusedSimpArgs false
set_option linter.unusedVariables false
namespace Go.Fx
theorem Sat.env {B : Base} {ρ : Env} {h : Heap} {own : List OB} {w : World} (s : Sat B ρ h own w) {id : Nat} {ob : OB} (hi : own[id]? = some ob) : ∃ v, ρ[id]? = some v := by
  have : id < ρ.length := by rw [s.len]; exact (List.getElem?_eq_some_iff.1 hi).1
  exact ⟨_, List.getElem?_eq_getElem this⟩
theorem fz1_sat {B : Base} {ρ : Env} {h : Heap} {own : List OB} {w : World} (s : Sat B ρ h own w) (id : Nat) : ∃ h', h ≤ h' ∧ Sat B ρ h' (fz1 own id) w := by
  unfold fz1
  split
  · rename_i ty k nil ex l e
    have hi := getD_cases e (by simp)
    obtain ⟨v, hv⟩ := s.env hi
    have hs := s.ent id _ v hi hv
    refine ⟨_, s.freeze hi hv (x := .isl nil ex k l) ?_⟩
    rcases hs with ⟨h1, h2, rfl⟩ | ⟨hn, b, c, cap, rfl, h1, h2, h3, h4, h5⟩
    · subst h1; subst h2
      exact ⟨none, 0, rfl, Nat.le_refl _, fun _ => rfl, by simp, fun _ => rfl, fun _ e => by cases e⟩
    · refine ⟨some ⟨b, 0, none⟩, cap, rfl, h1, h2, by simp [hn], fun e => by simp at e, fun ad e => ?_⟩
      cases e
      refine ⟨fun _ => rfl, fun j u hj => ⟨c, ty, (0, 0), by simp [thaw, OB.fp, h3], ?_⟩⟩
      have hlt : j < l.length := by simpa using (List.getElem?_eq_some_iff.1 hj).1
      rw [Nat.zero_add, h5 j hlt]
      rw [← hj]
      simp [hlt, List.getD_eq_getElem?_getD]
  · rename_i ty wd nil ex es e
    have hi := getD_cases e (by simp)
    obtain ⟨v, hv⟩ := s.env hi
    have hs := s.ent id _ v hi hv
    refine ⟨_, s.freeze hi hv (x := .sl nil ex wd es) ?_⟩
    rcases hs with ⟨h1, h2, rfl⟩ | ⟨hn, b, c, cap, vs, rfl, h1, h2, h3, h4, h5, h6⟩
    · subst h1; subst h2
      exact ⟨none, 0, rfl, Nat.le_refl _, fun _ => rfl, by simp, fun _ => rfl, [], rfl, fun _ e => by cases e⟩
    · have hle : h ≤ thaw h w (.row ty wd nil ex es) (.slice (some ⟨b, 0, none⟩) es.length cap) := (fun b' o e' => by
        simp only [thaw]
        split
        · exact s.sub b' o e'
        · exact e')
      refine ⟨some ⟨b, 0, none⟩, cap, rfl, h1, h2, by simp [hn], fun e => by simp at e, vs, PV.relE_mono hle _ _ _ h5, fun ad e => ?_⟩
      cases e
      exact ⟨fun _ => rfl, fun j u hj => ⟨c, ty, (0, 0), by simp [thaw, OB.fp, h3], by rw [Nat.zero_add]; exact h6 j u hj⟩⟩
  · rename_i ty cs e
    have hi := getD_cases e (by simp)
    split
    · rename_i ys e2
      obtain ⟨v, hv⟩ := s.env hi
      obtain ⟨b, c, rfl, h1, h2⟩ := s.ent id _ v hi hv
      have hle : h ≤ thaw h w (.box ty cs) (.pointer (some ⟨b, 0, none⟩)) := (fun b' o e' => by
        simp only [thaw]
        split
        · exact s.sub b' o e'
        · exact e')
      refine ⟨_, s.freeze hi hv (x := .ref 0 ys) ⟨b, rfl, c.toList, PV.relL_mono hle _ _ (SV.pvSL_rel s cs ys _ e2 h2), fun j u hj => ⟨c, ty, (0, 0), by simp [thaw, OB.fp, h1], by simpa using hj⟩⟩⟩
    · exact ⟨h, Heap.le_refl _, s⟩
  · exact ⟨h, Heap.le_refl _, s⟩
theorem fzL_sat {B : Base} {ρ : Env} {w : World} : ∀ (ids : List Nat) {h : Heap} {own : List OB}, Sat B ρ h own w → ∃ h', h ≤ h' ∧ Sat B ρ h' (fzL own ids) w
  | [], h, own, s => ⟨h, Heap.le_refl _, s⟩
  | id :: ids, h, own, s => by
    obtain ⟨h1, l1, s1⟩ := fz1_sat s id
    obtain ⟨h2, l2, s2⟩ := fzL_sat ids s1
    exact ⟨h2, Heap.le_trans l1 l2, s2⟩
/-- What an operation with own effects has come to. -/
def Goes (B : Base) (ρ : Env) (h : Heap) (K : SV → List OB → Prop) (v : Value) (w' : World) : Prop :=
  ∃ x own' ρ' h', K x own' ∧ x.rel ρ' h' v ∧ Sat B ρ' h' own' w' ∧ Env.le ρ ρ' ∧ h ≤ h'
theorem newVar_run {P : Program} (w : World) (t : TypeId) (v : Value) : (newVar t v).run P w = .ok ⟨w.heap.size, 0, none⟩ (w.alloc (.cells v.cells t)) := by
  simp [newVar, newRow]
/-- A new variable. -/
theorem Sat.box {B : Base} {ρ : Env} {h : Heap} {own : List OB} {w : World} (s : Sat B ρ h own w) (t : TypeId) {cs : List SV} {c : Array Value} (hc : SV.relL ρ h cs c.toList) :
    Sat B (ρ ++ [.pointer (some ⟨w.heap.size, 0, none⟩)]) h (own ++ [.box t cs]) (w.alloc (.cells c t)) :=
  s.alloc ⟨_, c, rfl, push_new w _, SV.relL_mono (Env.le_snoc _ _) (Heap.le_refl _) _ _ hc⟩ fun b hb => by cases hb; rfl
theorem Sat.env_new {B : Base} {ρ : Env} {h : Heap} {own : List OB} {w : World} (s : Sat B ρ h own w) (v : Value) : (ρ ++ [v])[own.length]? = some v := by
  rw [← s.len]; simp
end Go.Fx
