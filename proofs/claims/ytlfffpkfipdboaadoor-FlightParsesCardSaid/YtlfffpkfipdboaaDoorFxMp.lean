/-
  Fx: functions that give back a new map.
-/
import Derived.Test.YtlfffpkfipdboaaDoorFxFin
set_option linter.unusedSimpArgs false
set_option linter.unusedVariables false
namespace Go.Fx
/-- Entries that are plain. -/
def flatE : List (PV × SV) → Bool
  | [] => true
  | (k, .p x) :: r => k.flat && x.flat && flatE r
  | _ => false
theorem flatE_rel {ρ : Env} {h h' : Heap} : ∀ (es : List (PV × SV)) (ms : List MapEntry), flatE es = true → relEntries ρ h es ms → relEntries [] h' es ms
  | [], _, _, e => e
  | (k, x) :: r, ms, f, ⟨v, vs', h1, h2, h3, h4⟩ => by
    cases x <;> simp only [flatE, Bool.and_eq_true] at f <;> first | (cases f; done) | skip
    rename_i y
    exact ⟨v, vs', h1, PV.flat_rel _ _ f.1.1 h2, PV.flat_rel y _ f.1.2 h3, flatE_rel r vs' f.2 h4⟩
def mapK (P : Program) (es : List (PV × SV)) (rs : List ResultVar) (S : St) : Prop :=
  (resSV P S rs).1 ∧ ∃ id, (resSV P S rs).2 = [.mp id] ∧ S.own.getD id .gone = .map es ∧ flatE es = true
theorem map_of_core {P : Program} {G : Glob} {f : FuncId} {fn : Func} {c : Code} (hf : P.funcs[f]? = some fn) (hb : fn.body = some c) (hok : calleeOk P f = true)
    (hres : resOk P fn.results.toList = true) {args : List PV} {es : List (PV × SV)} {n : Nat} (hnt : fn.ntmps = n)
    (hvc : ∀ (B : Base) (D : List Deferred) (ρ : Env) (h : Heap) (a : Act) (w : World), Rel B G D ρ h ⟨args.map .p ++ List.replicate (n - args.length) .any, []⟩ a w →
      c.wpIn (FR none) 0 P (Post B G D (mapK P es fn.results.toList) (fun e S => e = .ret ∧ mapK P es fn.results.toList S)) a w) : FunMap P G f args es := by
  refine ⟨hok, fun w h vs hs hG hargs => ?_⟩
  let B : Base := ⟨w, h, fun _ => False⟩
  have hl := (PV.relL_get hargs).1
  have sat : Sat B [] h [] w := {
    len := rfl
    sub := hs
    ent := fun i ob v e _ => by simp at e
    nodup := fun i j ob ob' v v' b e _ _ _ _ _ => by simp at e
    apart := fun i ob v b e _ _ => by simp at e
    size := Nat.le_refl _
    keep := fun _ _ _ => rfl
    old := fun _ _ _ => rfl
    mine := fun i ob v b e _ _ => by simp at e
    outer := Out.refl }
  have rl : Rel B G [] [] h ⟨args.map .p ++ List.replicate (n - args.length) .any, []⟩ { tmps := vs.toArray ++ Array.replicate (fn.ntmps - vs.toArray.size) undef, defers := [] } w := by
    refine ⟨by simp [hnt, hl], fun i x v e1 e2 => ?_, Defs.refl _ _ _, sat, hG⟩
    simp only at e1 e2
    rcases Nat.lt_or_ge i args.length with hi | hi
    · rw [List.getElem?_append_left (by simpa using hi)] at e1
      rw [Array.getElem?_append_left (by simp; omega)] at e2
      exact (SV.relL_get (SV.relL_p (ρ := []) hargs)).2 i x v e1 (by simpa using e2)
    · rw [List.getElem?_append_right (by simpa using hi)] at e1
      have := (List.getElem?_eq_some_iff.1 e1).2
      rw [List.getElem_replicate] at this
      rw [← this]; trivial
  have hw := hvc _ _ _ _ _ _ rl
  have fin : ∀ (S : St) (ρ : Env) (h' : Heap) (a : Act) (w' : World), mapK P es fn.results.toList S → Rel B G [] ρ h' S a w' → ∃ v, (results fn a.tmps).run P w' = .ok v w' ∧
      (fun (e : Ending) (w' : World) => ∃ u, e = .returned u ∧ (OB.map es).sat [] h w' u ∧ u.oneCell' = true ∧ (∀ b, (OB.map es).fp u = some b → w.heap.size ≤ b) ∧
        w.heap.size ≤ w'.heap.size ∧ (∀ b : Nat, b < w.heap.size → w'.heap[b]? = w.heap[b]?) ∧ Out w w') (.returned v) w' := by
    intro S ρ h' a w' ⟨hK1, id, hx, e3, hfl⟩ rl'
    obtain ⟨us, g1, g2⟩ := results_run rl' fn.results.toList hres hK1
    rw [hx] at g2
    obtain ⟨u, us', rfl, g3, g4⟩ := g2
    have g4 : us' = [] := g4
    subst g4
    have hr : (results fn a.tmps).run P w' = .ok u w' := by
      rw [results_eq, Sem.run_bind]
      have e2 : (fn.results.mapM (resOne a.tmps)).run P w' = .ok [u].toArray w' := by
        rw [Array.mapM_eq_mapM_toList]
        simp only [Sem.run_map, g1, Result.andThen_ok]
      rw [e2]
      simp
    refine ⟨_, hr, u, rfl, ?_⟩
    obtain ⟨hv, hone'⟩ := g3
    obtain ⟨hi, hs'⟩ := rl'.sat.look hv e3 (by simp)
    refine ⟨?_, hone', fun b hb => (rl'.sat.mine id _ _ b hi hv hb).resolve_left (fun x => x), rl'.sat.size, fun b hb => rl'.sat.keep b hb fun x => x, rl'.sat.outer⟩
    obtain ⟨r, ms, clock, q1, q2, q3⟩ := hs'
    exact ⟨r, ms, clock, q1, q2, flatE_rel es _ hfl q3⟩
  refine calls_of_marks hf hb hw fun e a w' hpost => ?_
  cases e with
  | normal => obtain ⟨S, ρ, h', hK, rl'⟩ := hpost; exact leaves_rel a.tmps (fun h2 w2 r2 => fin S ρ h2 ⟨a.tmps, []⟩ w2 hK r2) a.defers rl'
  | ret => obtain ⟨S, ρ, h', ⟨_, hK⟩, rl'⟩ := hpost; exact leaves_rel a.tmps (fun h2 w2 r2 => fin S ρ h2 ⟨a.tmps, []⟩ w2 hK r2) a.defers rl'
  | panic => exact hpost.elim
  | outgrown => exact hpost.elim
  | exit => obtain ⟨S, ρ, h', ⟨e, _⟩, rl'⟩ := hpost; cases e
  | goto => obtain ⟨S, ρ, h', ⟨e, _⟩, rl'⟩ := hpost; cases e
section
variable {β : Type}
def encE : List (PV × SV) → Option (List PV)
  | [] => some []
  | (k, .p v) :: r => (encE r).map (.tup [k, v] :: ·)
  | _ => none
theorem encE_map : ∀ {es : List (PV × SV)} {l : List PV}, encE es = some l → mapOf l = some es
  | [], l, h => by cases h; rfl
  | (k, x) :: r, l, h => by
    cases x <;> simp only [encE] at h <;> first | (cases h; done) | skip
    obtain ⟨l', h1, rfl⟩ := Option.map_eq_some_iff.1 h
    simp only [mapOf, encE_map h1, Option.map_some]
def mapT (P : Program) (rs : List ResultVar) (S : St) (K : PV → Tree β) : Tree β :=
  resT P S rs fun xs => match xs with
    | [.mp id] => match S.own.getD id .gone with
      | .map es => .chk (flatE es) (match encE es with
        | some l => K (.agg l)
        | none => .fail)
      | _ => .fail
    | _ => .fail
theorem mapT_sound {P : Program} {rs : List ResultVar} {S : St} {K : PV → Tree β} {b : β} (h : (mapT P rs S K).run = some b) : ∃ l es, (K (.agg l)).run = some b ∧ mapOf l = some es ∧ mapK P es rs S := by
  unfold mapT at h
  obtain ⟨h1, h2⟩ := resT_sound h
  split at h2
  · rename_i id e1
    split at h2
    · rename_i es e2
      rw [Tree.run_chk] at h2
      obtain ⟨hf, h2⟩ := h2
      split at h2
      · rename_i l e3
        exact ⟨l, es, h2, encE_map e3, h1, id, e1, e2, hf⟩
      · exact (Tree.run_fail.1 h2).elim
    · exact (Tree.run_fail.1 h2).elim
  · exact (Tree.run_fail.1 h2).elim
def retM (P : Program) (rs : List ResultVar) (K : PV → Tree β) (e : Exit) (S : St) : Tree β :=
  match e with
  | .ret => mapT P rs S K
  | _ => .fail
/-- **A function's contract that gives back a new map, out of what it was evaluated to.** -/
theorem map_of_ev {P : Program} {G : Glob} {Γ : Gam} (hΓ : GamOk P G Γ) {Λ : Lam} {f : FuncId} {fn : Func} {c : Code} {x : XR} (L : List (List Nat)) (hf : P.funcs[f]? = some fn) (hb : fn.body = some c) (hok : calleeOk P f = true)
    (hir : compCode P c L = some (x.erase, [])) (hres : resOk P fn.results.toList = true) {rs : List ResultVar} (hrs : fn.results.toList = rs) {args : List PV} {n : Nat} (hnt : fn.ntmps = n) (hl : x.lam P G Λ)
    {l : List PV} {es : List (PV × SV)} (hm : mapOf l = some es) {S : St} (hS : ⟨args.map .p ++ List.replicate (n - args.length) .any, []⟩ = S)
    (h : (ev G Γ Λ x S (fun S => mapT P rs S fun v => .leaf v) (retM P rs fun v => .leaf v)).run = some (.agg l)) : FunMoreT P G (f + 3000000) (.nilMap :: args) (.agg l) := by
  subst hrs
  subst hS
  refine ⟨Nat.le_add_left _ _, es, hm, ?_⟩
  rw [Nat.add_sub_cancel]
  have key : ∀ S, (mapT P fn.results.toList S fun v => Tree.leaf v).run = some (.agg l) → mapK P es fn.results.toList S := fun S h => by
    obtain ⟨l', es', h1, h2, h3⟩ := mapT_sound h
    simp only [Tree.run, Option.some.injEq, PV.agg.injEq] at h1
    subst h1
    rw [hm] at h2
    cases h2
    exact h3
  refine map_of_core hf hb hok hres hnt fun _ _ _ _ _ _ rl => ev_sound hΓ hl h (fun S h => key S h) (fun e S h => ?_) _ _ _ _ _ _ _ (compCode_ok hir) rl
  cases e <;> first | (exact (Tree.run_fail.1 h).elim) | skip
  exact ⟨rfl, key S h⟩
end
end Go.Fx
