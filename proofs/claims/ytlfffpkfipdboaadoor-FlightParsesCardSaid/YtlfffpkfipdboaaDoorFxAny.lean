/-
  Fx, part 26: regions of open order, all orders looked at. An evaluation is natural: what an operation gives does not hang on how one goes on.
-/
import Derived.Test.YtlfffpkfipdboaaDoorFxFin
set_option linter.unusedSimpArgs false
set_option linter.unusedVariables false
namespace Go.Fx
def Nt {β X : Type} (A : Tree β) (L : Tree X) (K : X → Tree β) : Prop := A.run = L.run.bind fun x => (K x).run
section
variable {β X : Type} {K : X → Tree β}
theorem Nt.k {x : X} : Nt (K x) (.leaf x) K := rfl
theorem Nt.fail : Nt .fail .fail K := rfl
theorem Nt.chk {p : Bool} {A : Tree β} {L : Tree X} (h : Nt A L K) : Nt (.chk p A) (.chk p L) K := by cases p <;> first | exact h | rfl
theorem Nt.br {p : Bool} {A A' : Tree β} {L L' : Tree X} (h : Nt A L K) (h' : Nt A' L' K) : Nt (.br p A A') (.br p L L') K := by cases p <;> assumption
theorem Nt.bind {τ : Type} {c : Option τ} {F : τ → Tree β} {L : τ → Tree X} (h : ∀ t, Nt (F t) (L t) K) : Nt (.bind c F) (.bind c L) K := by
  cases c with
  | none => rfl
  | some t => exact h t
theorem fz_nat {x : SV} {F : SV → Tree β} {L : SV → Tree X} (h : ∀ y, Nt (F y) (L y) K) : Nt (x.fz F) (x.fz L) K := by rw [SV.fz_eq, SV.fz_eq]; exact h x
theorem forceL_nat {α : Type} {l : List α} {F : List α → Tree β} {L : List α → Tree X} (h : ∀ y, Nt (F y) (L y) K) : Nt (forceL l F) (forceL l L) K := by rw [forceL_eq, forceL_eq]; exact h l
theorem eltT_nat {agg : Bool} {n w o : Nat} {x : PV} {F : PV → Tree β} {L : PV → Tree X} (h : ∀ y, Nt (F y) (L y) K) : Nt (eltT agg n w o x F) (eltT agg n w o x L) K := by
  unfold eltT
  repeat' (first | exact h _ | exact Nt.fail | apply Nt.chk | apply Nt.br | (apply fz_nat; intro _) | (apply forceL_nat; intro _) | split)
theorem pldT_nat {agg : Bool} {n : Nat} {x : PV} {F : PV → Tree β} {L : PV → Tree X} (h : ∀ y, Nt (F y) (L y) K) : Nt (x.ldT agg n F) (x.ldT agg n L) K := by
  unfold PV.ldT
  repeat' (first | exact h _ | exact Nt.fail | apply Nt.chk | apply Nt.br | apply eltT_nat h | (apply fz_nat; intro _) | (apply forceL_nat; intro _) | split)
theorem ldT_nat {own : List OB} {agg : Bool} {n : Nat} {x : SV} {F : SV → Tree β} {L : SV → Tree X} (h : ∀ y, Nt (F y) (L y) K) : Nt (ldT own agg n x F) (ldT own agg n x L) K := by
  unfold ldT
  repeat' (first | exact h _ | exact Nt.fail | apply Nt.chk | apply Nt.br | exact eltT_nat fun y => h _ | exact pldT_nat fun y => h _ | (apply fz_nat; intro _) | (apply forceL_nat; intro _) | split)
theorem binT_nat {op : BinOp} {k k' : IntKind} {a b : Int} {F : PV → Tree β} {L : PV → Tree X} (h : ∀ y, Nt (F y) (L y) K) : Nt (binT op k a k' b F) (binT op k a k' b L) K := by
  cases op <;> (unfold binT; dsimp only; repeat' (first | exact h _ | exact Nt.fail | apply Nt.chk))
theorem slcB_nat {len : Nat} {q : Option (Int × Int × Option Int)} {F : Int → Int → Option Int → Tree β} {L : Int → Int → Option Int → Tree X} (h : ∀ a b c, Nt (F a b c) (L a b c) K) : Nt (slcB len q F) (slcB len q L) K := by
  unfold slcB
  repeat' (first | exact h _ _ _ | exact Nt.fail | apply Nt.chk | split)
theorem idxT_nat {n : Nat} {F : Nat → Tree β} {L : Nat → Tree X} (h : ∀ y, Nt (F y) (L y) K) : ∀ {m i : Nat}, Nt (idxT n m i F) (idxT n m i L) K
  | 0, i => Nt.fail
  | m + 1, i => Nt.br (h _) (idxT_nat h)
theorem pevT_nat {own : List OB} {e : Opd → SV} {io : Ins} {F : SV → Tree β} {L : SV → Tree X} (h : ∀ y, Nt (F y) (L y) K) : Nt (pevT own e io F) (pevT own e io L) K := by
  cases io <;> (simp only [pevT]; repeat' (first | exact h _ | exact Nt.fail | apply Nt.chk | apply Nt.br | exact ldT_nat h | (exact binT_nat fun y => h _) | (apply fz_nat; intro _) | (apply forceL_nat; intro _) | (apply slcB_nat; intro _ _ _) | (apply idxT_nat; intro _) | split))
theorem appIT_nat {own : List OB} {elem : TypeId} {k : IntKind} {bytes : Nat} {x : SV} {m : List Int} {F : SV → List OB → Tree β} {L : SV → List OB → Tree X} (h : ∀ y o, Nt (F y o) (L y o) K) : Nt (appIT own elem k bytes x m F) (appIT own elem k bytes x m L) K := by
  unfold appIT
  repeat' (first | exact h _ _ | exact Nt.fail | apply Nt.chk | apply Nt.br | split)
theorem appST_nat {own : List OB} {elem : TypeId} {w bytes : Nat} {x : SV} {m : List PV} {F : SV → List OB → Tree β} {L : SV → List OB → Tree X} (h : ∀ y o, Nt (F y o) (L y o) K) : Nt (appST own elem w bytes x m F) (appST own elem w bytes x m L) K := by
  unfold appST
  repeat' (first | exact h _ _ | exact Nt.fail | apply Nt.chk | apply Nt.br | split)
theorem keyNewT_nat {k : PV} {F : Tree β} {L : Tree X} (h : Nt F L K) : ∀ {es : List (PV × SV)}, Nt (keyNewT k es F) (keyNewT k es L) K
  | [] => h
  | (k', x) :: r => by
    unfold keyNewT
    repeat' (first | exact Nt.fail | exact keyNewT_nat h | apply Nt.chk | apply Nt.br | split)
theorem keyNewS_nat {s : List Int} {F : Tree β} {L : Tree X} (h : Nt F L K) : ∀ {es : List (PV × SV)}, Nt (keyNewS s es F) (keyNewS s es L) K
  | [] => h
  | (k', x) :: r => by
    unfold keyNewS
    repeat' (first | exact Nt.fail | exact keyNewS_nat h | apply Nt.br | split)
theorem lookST_nat {s : List Int} {F : SV → Tree β} {L : SV → Tree X} {Z : Tree β} {W : Tree X} (h : ∀ y, Nt (F y) (L y) K) (hz : Nt Z W K) : ∀ {es : List (PV × SV)}, Nt (lookST s es F Z) (lookST s es L W) K
  | [] => hz
  | (k', x) :: r => by
    unfold lookST
    repeat' (first | exact Nt.fail | exact h _ | exact lookST_nat h hz | apply Nt.br | split)
theorem lookT_nat {k : PV} {F : SV → Tree β} {L : SV → Tree X} {Z : Tree β} {W : Tree X} (h : ∀ y, Nt (F y) (L y) K) (hz : Nt Z W K) : ∀ {es : List (PV × SV)}, Nt (lookT k es F Z) (lookT k es L W) K
  | [] => hz
  | (k', x) :: r => by
    unfold lookT
    repeat' (first | exact Nt.fail | exact h _ | exact lookT_nat h hz | apply Nt.chk | apply Nt.br | split)
end
/-- Callees: what they give does not hang on how one goes on. -/
def GamNat (Γ : Gam) : Prop := ∀ {β X : Type} {K : X → Tree β} (g : FuncId) (as : List PV) {F : PV → Tree β} {L : PV → Tree X}, (∀ y, Nt (F y) (L y) K) → Nt (Γ β g as F) (Γ X g as L) K
theorem GamNat.bot : GamNat Gam.bot := fun _ _ _ _ _ => Nt.fail
theorem GamNat.fn {f : FuncId} {ss : List Shp} {R : Type} {go : List PV → Option R} {emb : R → PV} {Γ : Gam} (hΓ : GamNat Γ) : GamNat (Gam.fn f ss go emb Γ) := fun g as F L h => by
  unfold Gam.fn
  split
  · exact Nt.bind fun r => h _
  · exact hΓ g as h
section
variable {β X : Type} {K : X → Tree β}
theorem FTtree_nat {Γ : Gam} (hΓ : GamNat Γ) {F : SV → List OB → Tree β} {L : SV → List OB → Tree X} (h : ∀ y o, Nt (F y o) (L y o) K) : ∀ t : FT, Nt (t.tree Γ F) (t.tree Γ L) K := by
  intro t
  induction t with
  | no => exact Nt.fail
  | ok x own => exact fz_nat (fun y => h _ _)
  | chk b t ih => exact Nt.chk ih
  | br b t f iht ihf => exact Nt.br iht ihf
  | call g as k ih => exact hΓ g as fun y => ih y
theorem evIns_nat {Γ : Gam} (hΓ : GamNat Γ) {dr : Nat} {own : List OB} {raw e : Opd → SV} {io : Ins} {F : SV → List OB → Tree β} {L : SV → List OB → Tree X} (h : ∀ y o, Nt (F y o) (L y o) K) :
    Nt (evIns Γ dr own raw e io F) (evIns Γ dr own raw e io L) K := by
  cases io <;> (simp only [evIns]; first | (exact pevT_nat fun y => h _ _) | (exact FTtree_nat hΓ h _) | repeat' (first | exact h _ _ | exact Nt.fail | apply Nt.chk | apply Nt.br | exact appIT_nat h | exact appST_nat h | exact keyNewT_nat (h _ _) | exact keyNewS_nat (h _ _) | (apply lookT_nat; rotate_left) | (apply lookST_nat; rotate_left) | (apply fz_nat; intro _) | (apply forceL_nat; intro _) | (apply hΓ; intro _) | intro _ | split))
theorem shT_nat {sh : Option Shp} {x : SV} {F : SV → Tree β} {L : SV → Tree X} (h : ∀ y, Nt (F y) (L y) K) : Nt (shT sh x F) (shT sh x L) K := by
  unfold shT
  repeat' (first | exact h _ | exact Nt.fail | apply Nt.chk | split)
theorem putT_nat {S : St} {d : Option Nat} {x : SV} {own : List OB} {F : St → Tree β} {L : St → Tree X} (h : ∀ y, Nt (F y) (L y) K) : Nt (putT S d x own F) (putT S d x own L) K := by
  rw [putT_eq, putT_eq]; exact h _
theorem evDo_nat {G : Glob} {Γ : Gam} (hΓ : GamNat Γ) {dr : Nat} {S : St} {o : XOp} {F : St → Tree β} {L : St → Tree X} (h : ∀ y, Nt (F y) (L y) K) : Nt (evDo G Γ dr S o F) (evDo G Γ dr S o L) K :=
  Nt.chk (evIns_nat hΓ fun _ _ => shT_nat fun _ => putT_nat h)
theorem setG_nat {S : St} {g : Nat} {t : Bool} {F : St → Tree β} {L : St → Tree X} (h : ∀ y, Nt (F y) (L y) K) : Nt (setG S g t F) (setG S g t L) K := forceL_nat fun _ => h _
theorem evOp_nat {G : Glob} {Γ : Gam} (hΓ : GamNat Γ) {dr : Nat} {S : St} {o : XOp} {F : St → Tree β} {L : St → Tree X} (h : ∀ y, Nt (F y) (L y) K) : Nt (evOp G Γ dr S o F) (evOp G Γ dr S o L) K := by
  unfold evOp
  repeat' (first | exact Nt.fail | exact evDo_nat hΓ h | exact putT_nat h | apply Nt.chk | apply Nt.br | (apply setG_nat; intro _) | split)
end
/-! ### All orders -/
def drOf (l : List XOp) : Nat := match IOp.apps (l.map (·.op)) with
  | true => 2
  | false => 1
def pickL (l : List XOp) (p : List Nat) : List XOp := p.filterMap fun i => l[i]?
theorem okT_paths {ops : Array Oper} {is : List IOp} : ∀ {t : OT} {fuel : Nat} {listed : Array Bool}, okT ops is t false fuel listed = true → t.paths ≠ []
  | .done, _, _, _ => by simp [OT.paths]
  | .no, _, _, h => by simp [okT] at h
  | .one i t, 0, _, h => by simp [okT] at h
  | .one i t, f + 1, _, h => by
    simp only [okT, Bool.and_eq_true] at h
    simp only [OT.paths, ne_eq, List.map_eq_nil_iff]
    exact okT_paths h.2.2
  | .alt i t r, 0, _, h => by simp [okT] at h
  | .alt i t r, f + 1, _, h => by
    simp only [okT, Bool.and_eq_true] at h
    simp only [OT.paths, ne_eq, List.append_eq_nil_iff, List.map_eq_nil_iff, not_and]
    exact fun e => absurd e (okT_paths h.2.1)
/-- One operation, whatever comes behind it. -/
theorem evOp_step {P : Program} {G : Glob} {Γ : Gam} (hΓ : GamOk P G Γ) (hN : GamNat Γ) {β : Type} {xs : List XOp} {S : St} {o : XOp} {K : St → Tree β} {b : β} {ps : List (List XOp)} (hne : ps ≠ [])
    (h : ∀ p ∈ ps, (evOp G Γ (drOf xs) S o fun S' => evOps G Γ (drOf xs) p S' K).run = some b) :
    ∃ x own, yVal P G S o.op (fun y own' => y = x ∧ own' = own) ∧ okOwn o.op.io.kind S.own own ∧ (IOp.apps (xs.map (·.op)) = true → noIds S.own (fun x => (evS G S x).strip) o.op.io) ∧
      ∀ p ∈ ps, (evOps G Γ (drOf xs) p (S.put o.op.dst x own) K).run = some b := by
  have nat : ∀ p : List XOp, (evOp G Γ (drOf xs) S o fun S' => evOps G Γ (drOf xs) p S' K).run = (evOp G Γ (drOf xs) S o Tree.leaf).run.bind fun S' => (evOps G Γ (drOf xs) p S' K).run := fun p =>
    evOp_nat (K := fun S' => evOps G Γ (drOf xs) p S' K) (F := fun S' => evOps G Γ (drOf xs) p S' K) (L := Tree.leaf) hN fun y => rfl
  cases e : (evOp G Γ (drOf xs) S o Tree.leaf).run with
  | none =>
    obtain ⟨p, l, rfl⟩ := List.exists_cons_of_ne_nil hne
    have := h p (List.mem_cons_self ..)
    rw [nat, e] at this
    cases this
  | some S1 =>
    have hb : drOf xs = 1 ∧ IOp.apps (xs.map (·.op)) = false ∨ drOf xs = 2 := by
      unfold drOf
      cases IOp.apps (xs.map (·.op)) <;> simp
    obtain ⟨h1, h2⟩ := evOp_sound hΓ (by omega) e (Kp := fun x own => S.put o.op.dst x own = S1 ∧ okOwn o.op.io.kind S.own own) fun x own hx hok => by
      refine ⟨by simpa [Tree.run] using hx, ?_⟩
      rcases hb with ⟨hb, _⟩ | hb <;> rw [hb] at hok <;> exact hok
    obtain ⟨x, own, ⟨g1, g2⟩, g3⟩ := yVal_take h1
    refine ⟨x, own, g3, g2, fun ha => ?_, fun p hp => ?_⟩
    · rcases hb with ⟨_, hb⟩ | hb
      · rw [ha] at hb; cases hb
      · exact h2 hb
    · have := h p hp
      rw [nat, e] at this
      rw [g1]; exact this
theorem yAny_tree {P : Program} {G : Glob} {Γ : Gam} (hΓ : GamOk P G Γ) (hN : GamNat Γ) {β : Type} {ops : Array Oper} {xs : List XOp} {K : St → Tree β} {b : β} {Kp : St → Prop} (hk : ∀ S, (K S).run = some b → Kp S) :
    ∀ (t : OT) (m : Bool) (fuel : Nat) (listed : Array Bool) (S : St), Closed ops listed → okT ops (xs.map (·.op)) t m fuel listed = true →
      (∀ p ∈ t.paths, (evOps G Γ (drOf xs) (pickL xs p) S K).run = some b) →
      (m = false → yAny P G ops (xs.map (·.op)) Kp fuel listed S) ∧ (m = true → ∀ i ∈ t.heads, i ∈ Region.ready .any ops listed → ∀ o, (xs.map (·.op))[i]? = some o → ∀ f, fuel = f + 1 →
        yVal P G S o fun x own => okOwn o.io.kind S.own own ∧ yAny P G ops (xs.map (·.op)) Kp f (listed.setIfInBounds i true) (S.put o.dst x own))
  | .done, m, fuel, listed, S, hcl, hok, h => by
    simp only [okT, Bool.and_eq_true, Bool.not_eq_true', List.isEmpty_iff] at hok
    obtain ⟨rfl, hr⟩ := hok
    have h0 := hk S (h [] (by simp [OT.paths]))
    refine ⟨fun _ => ?_, fun e => by cases e⟩
    cases fuel with
    | zero => exact ⟨hr, h0⟩
    | succ f => exact ⟨fun _ => h0, fun i hi => by rw [hr] at hi; cases hi⟩
  | .no, m, fuel, listed, S, hcl, hok, h => by
    simp only [okT] at hok
    subst hok
    exact ⟨(fun e => by cases e), fun _ i hi => by cases hi⟩
  | .one i t, m, 0, listed, S, hcl, hok, h => by simp [okT] at hok
  | .one i t, m, f + 1, listed, S, hcl, hok, h => by
    simp only [okT, Bool.and_eq_true, Bool.not_eq_true', List.contains_eq_mem, decide_eq_true_eq] at hok
    obtain ⟨rfl, ⟨hr, hf⟩, ht⟩ := hok
    refine ⟨fun _ => ?_, fun e => by cases e⟩
    obtain ⟨o, ho⟩ : ∃ o, xs[i]? = some o := by
      cases e : xs[i]? with
      | none =>
        simp only [freeI, List.getElem?_map, e, Option.map_none] at hf
        cases hf
      | some o => exact ⟨o, rfl⟩
    have ho' : (xs.map (·.op))[i]? = some o.op := by rw [List.getElem?_map, ho]; rfl
    have hp : ∀ p ∈ t.paths.map (pickL xs), (evOp G Γ (drOf xs) S o fun S' => evOps G Γ (drOf xs) p S' K).run = some b := fun p hp => by
      obtain ⟨q, hq, rfl⟩ := List.mem_map.1 hp
      have := h (i :: q) (List.mem_map.2 ⟨q, hq, rfl⟩)
      simpa [pickL, ho, evOps] using this
    obtain ⟨x, own, g1, g2, g3, g4⟩ := evOp_step (P := P) hΓ hN (by simpa using okT_paths ht) hp
    have ih := (yAny_tree hΓ hN hk t false f (listed.setIfInBounds i true) (S.put o.op.dst x own) (hcl.set hr) ht fun p hp => g4 _ (List.mem_map.2 ⟨p, hp, rfl⟩)).1 rfl
    refine yAny_first ho' _ rfl f listed S own hcl (fun j oj opj hj hj' hne hun => ?_) hr g3 g2 g1 ih
    simp only [freeI, ho', List.all_eq_true, List.mem_range] at hf
    have h3 := hf j (Array.getElem?_eq_some_iff.1 hj').1
    simp only [hj, hj', Bool.or_eq_true, beq_iff_eq, hne, false_or, hun, Bool.false_eq_true] at h3
    exact h3
  | .alt i t r, m, 0, listed, S, hcl, hok, h => by simp [okT] at hok
  | .alt i t r, m, f + 1, listed, S, hcl, hok, h => by
    simp only [okT, Bool.and_eq_true] at hok
    obtain ⟨hall, ht, hr⟩ := hok
    have key : ∀ k ∈ (OT.alt i t r).heads, k ∈ Region.ready .any ops listed → ∀ o, (xs.map (·.op))[k]? = some o → 
        yVal P G S o fun x own => okOwn o.io.kind S.own own ∧ yAny P G ops (xs.map (·.op)) Kp f (listed.setIfInBounds k true) (S.put o.dst x own) := fun k hk1 hk2 o ho => by
      rcases List.mem_cons.1 hk1 with rfl | hk1
      · rw [List.getElem?_map] at ho
        cases e : xs[k]? with
        | none => rw [e] at ho; cases ho
        | some q =>
          rw [e] at ho
          cases ho
          have hp : ∀ p ∈ t.paths.map (pickL xs), (evOp G Γ (drOf xs) S q fun S' => evOps G Γ (drOf xs) p S' K).run = some b := fun p hp => by
            obtain ⟨q', hq, rfl⟩ := List.mem_map.1 hp
            have := h (k :: q') (List.mem_append_left _ (List.mem_map.2 ⟨q', hq, rfl⟩))
            simpa [pickL, e, evOps] using this
          obtain ⟨x, own, g1, g2, g3, g4⟩ := evOp_step (P := P) hΓ hN (by simpa using okT_paths ht) hp
          have ih := (yAny_tree hΓ hN hk t false f (listed.setIfInBounds k true) (S.put q.op.dst x own) (hcl.set hk2) ht fun p hp => g4 _ (List.mem_map.2 ⟨p, hp, rfl⟩)).1 rfl
          exact yVal_mono g1 ⟨g2, ih⟩
      · exact (yAny_tree hΓ hN hk r true (f + 1) listed S hcl hr fun p hp => h p (List.mem_append_right _ hp)).2 rfl k hk1 hk2 o ho f rfl
    refine ⟨fun e => ?_, fun _ k hk1 hk2 o ho f' e => ?_⟩
    · subst e
      simp only [Bool.false_or, Bool.and_eq_true, Bool.not_eq_true', List.isEmpty_eq_false_iff, List.all_eq_true, List.contains_eq_mem, decide_eq_true_eq] at hall
      exact ⟨fun e => absurd e hall.1, fun k hk2 o ho => key k (hall.2 k hk2) hk2 o ho⟩
    · cases e
      exact key k hk1 hk2 o ho
theorem Does.any {P : Program} {G : Glob} {S : St} {Kn : St → Prop} {Ke : Exit → St → Prop} {t : OT} {is : List IOp} (hp : ∀ ops : Array Oper, okT ops is t false is.length (Array.replicate ops.size false) = true → yAny P G ops is Kn is.length (Array.replicate ops.size false) S) : Does P G (.any t is) S Kn Ke := by
  intro c B D ρ h a w hc rl
  cases hc with
  | @regionA id ops _ _ hops hlex hm =>
    have rl' : Rel B G D ρ h S a { w with drawn := w.drawn + 1 } := ⟨rl.size, rl.tmp, rl.defs, rl.sat.heap rfl ⟨rfl, rfl⟩, rl.glob⟩
    refine wpIn_region_draw fun t => ?_
    simp only [Region.schedule, hm, Bool.true_or, if_true]
    have hl : is.length = ops.size := by have := hops.length; simpa using this.symm
    have hget : ∀ {os : List Oper} {js : List IOp}, All2 (CompOp P ops) os js → ∀ (i : Nat) o, os[i]? = some o → ∃ io, js[i]? = some io ∧ CompOp P ops o io := by
      intro os js h
      induction h with
      | nil => intro i o e; simp at e
      | cons hx _ ih =>
        intro i o e
        cases i with
        | zero => simp at e; subst e; exact ⟨_, rfl, hx⟩
        | succ i => simp at e; simpa using ih i o e
    have hany := hp ops hlex
    rw [hl] at hany
    exact yAny_sound (is := is) (K := Kn) (fun i o e => hget hops i o (by simpa using e)) (ρ0 := ρ) (h0 := h) (fun S' ρ' h' a' w' hK rl' _ _ => ⟨S', ρ', h', hK, rl'⟩) ops.size t _ rl' (Env.le_refl _) (Heap.le_refl _) hany
/-- A region of open order where one order stands for all (no choice is open): walked in place. -/
def evAny1 {β : Type} (G : Glob) (Γ : Gam) (l : List XOp) (t : OT) (S : St) (kn : St → Tree β) : Tree β := evOps G Γ (drOf l) (pickL l (t.paths.headD [])) S kn
def OT.single : OT → Bool
  | .done => true
  | .one _ t => t.single
  | _ => false
theorem OT.single_paths : ∀ {t : OT}, t.single = true → ∀ p ∈ t.paths, p = t.paths.headD []
  | .done, _, p, hp => by simpa [OT.paths] using hp
  | .one i t, h, p, hp => by
    have ih := OT.single_paths (t := t) h
    simp only [OT.paths, List.mem_map] at hp ⊢
    obtain ⟨q, hq, rfl⟩ := hp
    rw [ih q hq]
    cases e : t.paths with
    | nil => rw [e] at hq; cases hq
    | cons x xs => rfl
theorem lam_any1 {P : Program} {G : Glob} {Γ : Gam} (hΓ : GamOk P G Γ) (hN : GamNat Γ) {Λ : Lam} {t : OT} {xs : List XOp} {j : Nat} (ht : t.single = true)
    (hΛ : ∀ {β : Type} (S : St) (kn : St → Tree β) (ke : Exit → St → Tree β), Λ β j S kn ke = evAny1 G Γ xs t S kn) : LamAt P G Λ j (.any t (xs.map (·.op))) := by
  intro β S kn ke b h Kn Ke hn he
  rw [hΛ] at h
  refine Does.any fun ops hok => (yAny_tree (P := P) hΓ hN (K := kn) (b := b) (fun S2 h => hn _ h) t false _ _ _ (fun k o _ hk => by simp [Array.getElem?_replicate] at hk; split at hk <;> simp at hk) hok fun p hp => ?_).1 rfl
  rw [OT.single_paths ht p hp]
  exact h
/-- **A region of open order: every order comes to the same.** -/
theorem lam_any {P : Program} {G : Glob} {Γ : Gam} (hΓ : GamOk P G Γ) (hN : GamNat Γ) {Λ : Lam} {t : OT} {xs : List XOp} {j : Nat} {X Y : Type} {bX : X → St} {accX : St → X} {σ : StSh} (hσ : ∀ S, σ.build S = bX (accX S))
    {pc : X → Option Y} {kb : Exit → St → Tree Y} {kY : Dec Y} (hk : ExOk id kb kY) {n : Nat}
    (hpc : ∀ x, t.paths.map (fun p => (evOps G Γ (drOf xs) (pickL xs p) (bX x) (kb .normal)).run) = List.replicate n (pc x))
    (hΛ : ∀ {β : Type} (S : St) (kn : St → Tree β) (ke : Exit → St → Tree β), Λ β j S kn ke = .chk (σ.ok S) (.bind (pc (accX S)) fun y => kY β y (joinK kn ke))) : LamAt P G Λ j (.any t (xs.map (·.op))) := by
  intro β S kn ke b h Kn Ke hn he
  rw [hΛ, Tree.run_chk, Tree.run_bind] at h
  obtain ⟨h1, y, h2, h3⟩ := h
  have hS : S = bX (accX S) := by rw [← hσ, StSh.build_eq _ h1]
  rw [hS]
  refine Does.forgets (Does.any fun ops hok => ?_)
  refine (yAny_tree (P := P) hΓ hN (K := kb .normal) (b := y) (fun S2 h => ?_) t false _ _ _ (fun k o _ hk => by simp [Array.getElem?_replicate] at hk; split at hk <;> simp at hk) hok fun p hp => ?_).1 rfl
  · obtain ⟨z, g1, lv, ids, g2, g3⟩ := hk _ _ _ h
    cases g1
    exact ⟨lv, ids, g2, hn _ (g3 (joinK kn ke) b h3)⟩
  · rw [← h2]
    have := List.mem_map_of_mem (f := fun p => (evOps G Γ (drOf xs) (pickL xs p) (bX (accX S)) (kb .normal)).run) hp
    rw [hpc] at this
    exact List.eq_of_mem_replicate this
end Go.Fx
