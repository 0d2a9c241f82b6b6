/-
  Fx, part 14: regions again, by another rule for guards: what is not done leaves nothing known; and pieces of code by their meaning (Does).
-/
import Derived.Test.YtlfffpkfipdboaaDoorFxCut
set_option linter.unusedSimpArgs false
set_option linter.unusedVariables false
namespace Go.Fx
/-- One operation: it is done, or it is not, and nothing is known. -/
def yVal (P : Program) (G : Glob) (S : St) (o : IOp) (K : SV → List OB → Prop) : Prop :=
  match o.guard with
  | none => vcRun P G S.own (evS G S) o.io K
  | some (g, want) => match S.t.getD g .any with
    | .p (.bool t) => ((t == want) = true → vcRun P G S.own (evS G S) o.io K) ∧ ((t == want) = false → K (.cnd false .any) S.own)
    | .cnd false _ => K (.cnd false .any) S.own
    | _ => False
def yOp (P : Program) (G : Glob) (S : St) (o : IOp) (K : St → Prop) : Prop := yVal P G S o fun x own => K (S.put o.dst x own)
def yOps (P : Program) (G : Glob) : List IOp → St → (St → Prop) → Prop
  | [], S, K => K S
  | o :: l, S, K => yOp P G S o fun S' => yOps P G l S' K
/-- Operations whose order is open. -/
def yDraw (P : Program) (G : Glob) (ap : Bool) : List IOp → St → (St → Prop) → Prop
  | [], S, K => K S
  | o :: l, S, K => (ap = true → noIds S.own (fun y => (evS G S y).strip) o.io) ∧ yVal P G S o fun x own => okOwn o.io.kind S.own own ∧ yDraw P G ap l (S.put o.dst x own) K
theorem yVal_agree {P : Program} {G : Glob} {S S' : St} {o : IOp} {K : SV → List OB → Prop} (ho : S.own = S'.own) (h : ∀ t ∈ o.slots, S.t.getD t .any = S'.t.getD t .any) :
    yVal P G S o K = yVal P G S' o K := by
  have h1 : ∀ y ∈ o.io.all, evS G S y = evS G S' y := fun y hy => evS_agree ho fun t ht => h t (by
    simp only [IOp.slots, List.mem_append, List.mem_flatMap]
    exact .inl ⟨y, hy, ht⟩)
  unfold yVal
  cases hg : o.guard with
  | none => dsimp only; rw [ho, vcRun_agree h1]
  | some gw =>
    obtain ⟨g, want⟩ := gw
    have h2 := h g (by simp [IOp.slots, hg])
    dsimp only
    rw [h2, ho, vcRun_agree h1]
theorem eff_mono {own : List OB} {e : Opd → SV} {io : Ins} {K K' : SV → List OB → Prop} (hk : ∀ y own', K y own' → K' y own') (h : eff own e io K) : eff own e io K' := by
  cases io <;> simp only [eff] at h ⊢ <;> first | exact h.elim | skip
  case alloc => exact hk _ _ h
  case box => exact ⟨h.1, hk _ _ h.2⟩
  case mkS elem k bytes x =>
    split at h
    · rename_i e1
      try simp only [e1]
      exact ⟨h.1, h.2.1, h.2.2.1, hk _ _ h.2.2.2⟩
    · exact h.elim
  case st n a x =>
    split at h
    · split at h
      · rename_i e1 _ _ _ e2
        try simp only [e1, e2]
        exact ⟨h.1, h.2.1, h.2.2.1, hk _ _ h.2.2.2⟩
      · exact h.elim
    · split at h
      · rename_i e1 _ _ _ _ _ _ _ _ _ e2 e3
        try simp only [e1, e2, e3]
        exact ⟨h.1, h.2.1, h.2.2.1, h.2.2.2.1, h.2.2.2.2.1, hk _ _ h.2.2.2.2.2⟩
      · rename_i e1 _ _ _ _ _ _ _ _ e2 e3
        try simp only [e1, e2, e3]
        exact ⟨h.1, h.2.1, h.2.2.1, h.2.2.2.1, h.2.2.2.2.1, h.2.2.2.2.2.1, hk _ _ h.2.2.2.2.2.2⟩
      · exact h.elim
    · exact h.elim
  case app elem ik w bytes x y =>
    cases ik with
    | some k =>
      dsimp only at h ⊢
      split at h
      · exact ⟨h.1, appI_mono hk h.2⟩
      · exact h.elim
    | none =>
      dsimp only at h ⊢
      split at h
      · exact ⟨h.1, appS_mono hk h.2⟩
      · exact h.elim
  case bsl elem ik w ps =>
    split at h
    · cases ik with
      | some k =>
        dsimp only at h ⊢
        split at h
        · exact hk _ _ h
        · exact h.elim
      | none => exact ⟨h.1, hk _ _ h.2⟩
    · exact h.elim
  case mkMap => exact hk _ _ h
  case cvtSB elem x =>
    split at h
    · split at h
      · rename_i e1 _ _ _ _ _ _ e2
        try simp only [e1, e2]
        exact ⟨h.1, hk _ _ h.2⟩
      · exact h.elim
    · exact h.elim
  case ins m k v =>
    split at h
    · split at h
      · exact ⟨h.1, h.2.1, hk _ _ h.2.2⟩
      · exact h.elim
    · exact h.elim
  case insS m k v =>
    split at h
    · split at h
      · exact ⟨h.1, hk _ _ h.2⟩
      · exact h.elim
    · exact h.elim
  case lookS z m k =>
    split at h
    · split at h
      · exact lookSK_mono (fun x hx => hk _ _ hx) (hk _ _) h
      · exact h.elim
    · exact h.elim
  case look z m k =>
    split at h
    · split at h
      · exact ⟨h.1, lookK_mono (fun x hx => hk _ _ hx) (hk _ _) h.2⟩
      · exact h.elim
    · exact h.elim
theorem vcRun_mono {P : Program} {G : Glob} {own : List OB} {raw : Opd → SV} {io : Ins} {K K' : SV → List OB → Prop} (hk : ∀ y own', K y own' → K' y own') (h : vcRun P G own raw io K) : vcRun P G own raw io K' := by
  obtain ⟨x, o2, h1, h2⟩ := vcRun_take h
  unfold vcRun at h2 ⊢
  obtain ⟨h0, h2⟩ := h2
  refine ⟨h0, ?_⟩
  have hK := hk _ _ h1
  cases io
  case pick c a b =>
    dsimp only at h2 ⊢
    split at h2
    · obtain ⟨p1, p2, p3, p4⟩ := h2
      subst p3; subst p4
      exact ⟨p1, p2, hK⟩
    · exact h2.elim
  case call c args =>
    unfold callVC at h2 ⊢
    dsimp only at h2 ⊢
    split at h2
    · obtain ⟨r, p1, p2, p3⟩ := h2
      subst p2; subst p3
      exact ⟨r, p1, hK⟩
    · exact h2.elim
  case callR c t a args => exact rowVC_mono (fun y own' (hy : y = x ∧ own' = o2) => by rw [hy.1, hy.2]; exact hK) h2
  case callN c t args => exact newVC_mono (fun y own' (hy : y = x ∧ own' = o2) => by rw [hy.1, hy.2]; exact hK) h2
  case callI c t a args => exact invVC_mono (fun y own' (hy : y = x ∧ own' = o2) => by rw [hy.1, hy.2]; exact hK) h2
  case fx o => exact FT.holds_mono (fun y own' (hy : y = x ∧ own' = o2) => by rw [hy.1, hy.2]; exact hK) h2
  all_goals (simp only [Ins.calm, Bool.false_eq_true, if_false, if_true] at h2 ⊢; first | (obtain ⟨p1, p2, p3⟩ := h2; subst p2; subst p3; exact ⟨p1, hK⟩) | skip)
  all_goals (have := eff_mono (K' := K') (fun y own' (hy : y = x ∧ own' = o2) => by rw [hy.1, hy.2]; exact hK) h2; exact this)
theorem yVal_take {P : Program} {G : Glob} {S : St} {o : IOp} {K : SV → List OB → Prop} (h : yVal P G S o K) :
    ∃ x o2, K x o2 ∧ yVal P G S o fun y own' => y = x ∧ own' = o2 := by
  unfold yVal at h ⊢
  cases hg : o.guard with
  | none => rw [hg] at h; exact vcRun_take h
  | some gw =>
    obtain ⟨g, want⟩ := gw
    rw [hg] at h
    dsimp only at h ⊢
    split at h
    · rename_i t e1
      try simp only [e1]
      cases ht : (t == want) with
      | true =>
        obtain ⟨x, o2, h2, h3⟩ := vcRun_take (h.1 ht)
        exact ⟨x, o2, h2, fun _ => h3, fun e => by cases e⟩
      | false => exact ⟨.cnd false .any, S.own, h.2 ht, (fun e => by cases e), fun _ => ⟨rfl, rfl⟩⟩
    · rename_i e1
      try simp only [e1]
      exact ⟨_, _, h, rfl, rfl⟩
    · exact h.elim
theorem yVal_mono {P : Program} {G : Glob} {S : St} {o : IOp} {x : SV} {o2 : List OB} {K2 : SV → List OB → Prop} (h : yVal P G S o fun y own' => y = x ∧ own' = o2) (hR : K2 x o2) : yVal P G S o K2 := by
  have hk : ∀ y own', (y = x ∧ own' = o2) → K2 y own' := fun y own' hy => by rw [hy.1, hy.2]; exact hR
  unfold yVal at h ⊢
  cases ho : o.guard with
  | none => rw [ho] at h; exact vcRun_mono hk h
  | some gw =>
    obtain ⟨g, want⟩ := gw
    rw [ho] at h
    dsimp only at h ⊢
    split at h
    · exact ⟨fun e => vcRun_mono hk (h.1 e), fun e => hk _ _ (h.2 e)⟩
    · exact hk _ _ h
    · exact h.elim
theorem yVal_grow {P : Program} {G : Glob} {S : St} {ob : OB} {o : IOp} {x : SV} (hf : ob.isFro = false) (hg : o.guard = none) (hm : mov o.io = true) (hn : noIds S.own (fun y => (evS G S y).strip) o.io)
    (h : yVal P G S o fun y own' => y = x ∧ own' = S.own) : yVal P G ⟨S.t, S.own ++ [ob]⟩ o fun y own' => y = x ∧ own' = S.own ++ [ob] := by
  unfold yVal at h ⊢
  rw [hg] at h ⊢
  dsimp only at h ⊢
  have : evS G ⟨S.t, S.own ++ [ob]⟩ = evS G S := by funext y; exact evS_grow hf y
  rw [this]
  exact vcRun_grow hm hn h
theorem yOp_sound {P : Program} {B : Base} {G : Glob} {D : List Deferred} {ρ : Env} {h : Heap} {S : St} {w : World} {a : Act} (rl : Rel B G D ρ h S a w) {r : Option Nat} {ops : Array Oper} {o : Oper} {i : IOp}
    (hc : CompOp P ops o i) {K : St → Prop} (hp : yOp P G S i K) {next : Act → World → Prop} {Q : Exit → Act → World → Prop}
    (hn : ∀ S' ρ' h' a' w', K S' → Rel B G D ρ' h' S' a' w' → Env.le ρ ρ' → h ≤ h' → next a' w') : opIn P r ops o a w next Q := by
  obtain ⟨hc, hd, hg⟩ := hc
  have hN : Next' B ρ h (fun x own => K (S.put i.dst x own)) a o.dst next := fun v w' ⟨x, own', ρ', h', hK, hx, s', hr, hh⟩ =>
    hn _ ρ' h' _ w' hK (by rw [hd]; exact rl.put hx s' hr hh) hr hh
  have he : ∀ x y, OpdOk x y → (evS G S y).rel ρ h (a.eval x) := fun x y hxy => rl.eval hxy
  unfold opIn
  unfold yOp yVal at hp
  cases hog : o.guard with
  | none =>
    rw [hog] at hg
    cases hig : i.guard with
    | some g => rw [hig] at hg; exact hg.elim
    | none =>
      rw [hig] at hp
      rw [if_pos (by simp [Region.wanted, hog])]
      exact vcRun_sound rl.sat rl.glob hc he hp hN
  | some gj =>
    obtain ⟨j, want⟩ := gj
    rw [hog] at hg
    cases hig : i.guard with
    | none => rw [hig] at hg; exact hg.elim
    | some gw =>
      obtain ⟨g, want'⟩ := gw
      rw [hig] at hg hp
      obtain ⟨rfl, oj, hj, hdj⟩ := hg
      dsimp only at hp
      have hgt : ∀ x, S.t.getD g .any = x → x ≠ .any → ∃ v, a.tmps[g]? = some v ∧ x.rel ρ h v := fun x e hx => by
        have e1 := getD_cases e hx
        have hl : g < a.tmps.size := by rw [rl.size]; exact (List.getElem?_eq_some_iff.1 e1).1
        exact ⟨_, Array.getElem?_eq_getElem hl, rl.tmp g x _ e1 (Array.getElem?_eq_getElem hl)⟩
      split at hp
      · rename_i t e1
        obtain ⟨v, g1, g2⟩ := hgt _ e1 (by simp)
        have g2' : v = .bool t := g2
        have hw : Region.wanted o (yielded ops a.tmps) = (t == want) := by rw [wanted_some hog hj hdj, g1, g2']
        rw [hw]
        cases ht : (t == want) with
        | true => rw [if_pos rfl]; exact vcRun_sound rl.sat rl.glob hc he (hp.1 ht) hN
        | false =>
          rw [if_neg (by simp)]
          exact hn _ ρ h _ w (hp.2 ht) (by rw [hd]; exact rl.put (x := .cnd false .any) ⟨(fun e => by cases e), fun _ => rfl⟩ rl.sat (Env.le_refl _) (Heap.le_refl _)) (Env.le_refl _) (Heap.le_refl _)
      · rename_i x e1
        obtain ⟨v, g1, g2⟩ := hgt _ e1 (by simp)
        have g2' : v = undef := g2.2 rfl
        have hw : Region.wanted o (yielded ops a.tmps) = false := by rw [wanted_some hog hj hdj, g1, g2']; rfl
        rw [hw, if_neg (by simp)]
        exact hn _ ρ h _ w hp (by rw [hd]; exact rl.put (x := .cnd false .any) ⟨(fun e => by cases e), fun _ => rfl⟩ rl.sat (Env.le_refl _) (Heap.le_refl _)) (Env.le_refl _) (Heap.le_refl _)
      · exact hp.elim
theorem yOps_sound {P : Program} {B : Base} {G : Glob} {D : List Deferred} {r : Option Nat} {ops : Array Oper} {K : St → Prop} {Q : Exit → Act → World → Prop} {ρ0 : Env} {h0 : Heap}
    (hn : ∀ S' ρ' h' a' w', K S' → Rel B G D ρ' h' S' a' w' → Env.le ρ0 ρ' → h0 ≤ h' → Q .normal a' w') :
    ∀ (is : List IOp) (os : List Oper) (k : Nat) {ρ : Env} {h : Heap} {S : St} {w : World} {a : Act}, ops.toList.drop k = os → All2 (CompOp P ops) os is → Rel B G D ρ h S a w → Env.le ρ0 ρ → h0 ≤ h → yOps P G is S K →
      wpOpsIn (FR r) 0 P ops Q (List.range' k os.length) a w
  | [], os, k, ρ, h, S, w, a, hos, hc, rl, hρ, hh, hp => by
    cases hc
    exact hn S ρ h a w hp rl hρ hh
  | i :: is, os, k, ρ, h, S, w, a, hos, hc, rl, hρ, hh, hp => by
    cases hc with
    | @cons o _ os' _ hc1 hc2 =>
      have hk : ops[k]? = some o := by
        have : (ops.toList.drop k)[0]? = some o := by rw [hos]; rfl
        simpa [List.getElem?_drop] using this
      have hd : ops.toList.drop (k + 1) = os' := by
        rw [← List.drop_drop, hos]; rfl
      rw [List.length_cons, List.range'_succ]
      simp only [wpOpsIn, hk]
      have := yOp_sound (ops := ops) (r := r) (Q := Q) (next := wpOpsIn (FR r) 0 P ops Q (List.range' (k + 1) os'.length)) rl hc1 hp fun S' ρ' h' a' w' hK rl' l1 l2 =>
        yOps_sound hn is os' (k + 1) hd hc2 rl' (Env.le_trans hρ l1) (Heap.le_trans hh l2) hK
      unfold opIn at this
      split
      · rename_i hw; rw [if_pos hw] at this; exact this
      · rename_i hw; rw [if_neg hw] at this; exact ⟨fun _ _ => trivial, this⟩
def yAny (P : Program) (G : Glob) (ops : Array Oper) (is : List IOp) (K : St → Prop) : Nat → Array Bool → St → Prop
  | 0, listed, S => Region.ready .any ops listed = [] ∧ K S
  | fuel + 1, listed, S => (Region.ready .any ops listed = [] → K S) ∧
    ∀ i ∈ Region.ready .any ops listed, ∀ o, is[i]? = some o → yVal P G S o fun x own => okOwn o.io.kind S.own own ∧ yAny P G ops is K fuel (listed.setIfInBounds i true) (S.put o.dst x own)
theorem yAny_first {P : Program} {G : Glob} {ops : Array Oper} {is : List IOp} {K : St → Prop} {i : Nat} {oi : IOp} {x : SV} (hi : is[i]? = some oi) (ap : Bool) (hapq : ap = IOp.apps is) :
    ∀ (fuel : Nat) (listed : Array Bool) (S : St) (own2 : List OB), Closed ops listed →
      (∀ (j : Nat) (oj : IOp) (opj : Oper), is[j]? = some oj → ops[j]? = some opj → j ≠ i → listed.getD j true = false → aheadI ops oi oj i j = true) →
      i ∈ Region.ready .any ops listed → (ap = true → noIds S.own (fun y => (evS G S y).strip) oi.io) → okOwn oi.io.kind S.own own2 → yVal P G S oi (fun y own' => y = x ∧ own' = own2) →
      yAny P G ops is K fuel (listed.setIfInBounds i true) (S.put oi.dst x own2) → yAny P G ops is K (fuel + 1) listed S := by
  intro fuel
  induction fuel with
  | zero =>
    intro listed S own2 hcl hfree hr hn hok hy H
    refine ⟨fun h => (by rw [h] at hr; cases hr), fun j hj o ho => ?_⟩
    by_cases hji : j = i
    · subst hji; rw [hi] at ho; cases ho; exact yVal_mono hy ⟨hok, H⟩
    · have := ready_mono hj hji
      rw [H.1] at this
      cases this
  | succ fuel ih =>
    intro listed S own2 hcl hfree hr hn hok hy H
    refine ⟨fun h => (by rw [h] at hr; cases hr), fun j hj o ho => ?_⟩
    by_cases hji : j = i
    · subst hji; rw [hi] at ho; cases ho; exact yVal_mono hy ⟨hok, H⟩
    · have h1 := H.2 j (ready_mono hj hji) o ho
      obtain ⟨hjun, opj, hopj, hall⟩ := mem_ready.1 hj
      have hah := hfree j o opj ho hopj hji hjun
      simp only [aheadI, Bool.or_eq_true, Bool.and_eq_true, beq_iff_eq] at hah
      rcases hah with ⟨⟨hk0, hap⟩, hkj⟩ | hd
      rotate_left
      · exact (unlisted_ne (mem_ready.1 hr).1 (depT_listed hcl _ _ _ hd fun o' ho' e he hb => by rw [hopj] at ho'; cases ho'; exact hall e he hb)).elim
      have hap := apartI_spec hap
      rw [hk0] at hok
      have hok : own2 = S.own := hok
      subst hok
      rw [yVal_agree (S := S.put oi.dst x S.own) (S' := S) rfl fun t ht => put_get fun d hd e => hap.1 d hd (e ▸ ht)] at h1
      obtain ⟨z, own3, ⟨h2a, h2b⟩, h3⟩ := yVal_take h1
      have h2a : okOwn o.io.kind S.own own3 := h2a
      refine yVal_mono h3 ⟨h2a, ?_⟩
      have hown3 : own3 = S.own ∨ (∃ ob, ob.isFro = false ∧ own3 = S.own ++ [ob]) ∧ mov oi.io = true ∧ oi.guard = none ∧ ap = true := by
        rcases hkj with hkj | ⟨⟨hkj, hmv⟩, hgd⟩
        · rw [hkj] at h2a; exact .inl h2a
        · rw [hkj] at h2a
          rcases grows_cases h2a with h | h
          · exact .inl h
          · refine .inr ⟨h, hmv, by simpa using hgd, ?_⟩
            rw [hapq]
            simp only [IOp.apps, List.any_eq_true, beq_iff_eq]
            exact ⟨o, List.mem_of_getElem? ho, hkj⟩
      have hown3' : own3 = S.own ∨ ∃ ob, ob.isFro = false ∧ own3 = S.own ++ [ob] := by
        rcases hown3 with h | h
        · exact .inl h
        · exact .inr h.1
      have hfree' : ∀ (k : Nat) (ok : IOp) (opk : Oper), is[k]? = some ok → ops[k]? = some opk → k ≠ i → (listed.setIfInBounds j true).getD k true = false → aheadI ops oi ok i k = true := fun k ok opk hk hk' hki hun => by
        refine hfree k ok opk hk hk' hki ?_
        by_cases hjk : j = k
        · subst hjk; exact hjun
        · rw [getD_set_ne true hjk] at hun; exact hun
      refine ih (listed.setIfInBounds j true) (S.put o.dst z own3) own3 (hcl.set hj) hfree' (ready_mono hr (Ne.symm hji)) (fun ha => noIds_put hap.2.2 hown3' (hn ha)) (by rw [hk0]; rfl) ?_ ?_
      · have hbase : yVal P G ⟨S.t, own3⟩ oi (fun y own' => y = x ∧ own' = own3) := by
          rcases hown3 with rfl | ⟨⟨ob, hf, rfl⟩, hmv, hgd, ha⟩
          · exact hy
          · exact yVal_grow hf hgd hmv (hn ha) hy
        rw [yVal_agree (S := S.put o.dst z own3) (S' := ⟨S.t, own3⟩) rfl fun t ht => put_get (S := ⟨S.t, own3⟩) (own := own3) fun d hd e => hap.2.2 d hd (e ▸ ht)]
        exact hbase
      · rw [Array.setIfInBounds_comm _ _ hji, put_comm' (a := own3) (b := own3) (c := S.own) (d := o.dst) (e := oi.dst) (fun i' hd hc => hap.2.1 i' hc hd)]
        exact h2b
theorem yAny_lex {P : Program} {G : Glob} {ops : Array Oper} {is : List IOp} {K : St → Prop} : ∀ (l : List IOp) (k : Nat) (listed : Array Bool) (S : St), (∀ j : Nat, l[j]? = is[k + j]?) → Closed ops listed →
    lexI ops is l.length k listed = true → yDraw P G (IOp.apps is) l S K → yAny P G ops is K l.length listed S
  | [], _, _, _, _, _, hB, h => ⟨by simpa [lexI] using hB, h⟩
  | o :: l, k, listed, S, hl, hcl, hB, h => by
    have h0 : is[k]? = some o := by simpa using (hl 0).symm
    simp only [List.length_cons, lexI, Bool.and_eq_true] at hB
    obtain ⟨⟨hr, hf⟩, hB'⟩ := hB
    obtain ⟨hn, h⟩ := h
    obtain ⟨x, own2, ⟨h1a, h1b⟩, h2⟩ := yVal_take h
    have hr' : k ∈ Region.ready .any ops listed := by simpa using hr
    refine yAny_first h0 (IOp.apps is) rfl l.length listed S own2 hcl (fun j oj opj hj hj' hne hun => ?_) hr' hn h1a h2
      (yAny_lex l (k + 1) _ _ (fun j => by have := hl (j + 1); simpa [Nat.add_assoc, Nat.add_comm 1 j] using this) (hcl.set hr') hB' h1b)
    simp only [freeI, h0, List.all_eq_true, List.mem_range] at hf
    have h3 := hf j (Array.getElem?_eq_some_iff.1 hj').1
    simp only [hj, hj', Bool.or_eq_true, beq_iff_eq, hne, false_or, hun, Bool.false_eq_true] at h3
    exact h3
/-- **Whatever order: the walk.** -/
theorem yAny_sound {P : Program} {B : Base} {G : Glob} {D : List Deferred} {r : Option Nat} {ops : Array Oper} {is : List IOp} {K : St → Prop} {Q : Exit → Act → World → Prop} {ρ0 : Env} {h0 : Heap}
    (hc : ∀ (i : Nat) o, ops[i]? = some o → ∃ io, is[i]? = some io ∧ CompOp P ops o io)
    (hn : ∀ S' ρ' h' a' w', K S' → Rel B G D ρ' h' S' a' w' → Env.le ρ0 ρ' → h0 ≤ h' → Q .normal a' w') :
    ∀ (fuel t : Nat) (listed : Array Bool) {ρ : Env} {h : Heap} {S : St} {w : World} {a : Act}, Rel B G D ρ h S a w → Env.le ρ0 ρ → h0 ≤ h → yAny P G ops is K fuel listed S →
      wpOpsIn (FR r) 0 P ops Q (Region.linearise.go .any ops fuel t listed []) a w := by
  intro fuel
  induction fuel with
  | zero => intro t listed ρ h S w a rl hρ hh hp; simpa [Region.linearise.go, wpOpsIn] using hn S ρ h a w hp.2 rl hρ hh
  | succ fuel ih =>
    intro t listed ρ h S w a rl hρ hh hp
    obtain ⟨h₀, h₁⟩ := hp
    simp only [Region.linearise.go]
    change wpOpsIn (FR r) 0 P ops Q (match (Region.ready .any ops listed)[t % (Region.ready .any ops listed).length]? with
      | some i => Region.linearise.go .any ops fuel (t / (Region.ready .any ops listed).length) (listed.setIfInBounds i true) [i]
      | none => [].reverse) a w
    cases hi : (Region.ready .any ops listed)[t % (Region.ready .any ops listed).length]? with
    | none =>
      have hnil : Region.ready .any ops listed = [] := by
        cases hr : Region.ready .any ops listed with
        | nil => rfl
        | cons x xs =>
          rw [hr] at hi
          have hlt : t % (x :: xs).length < (x :: xs).length := Nat.mod_lt _ (by simp)
          simp at hi
          simp at hlt
          omega
      simpa [wpOpsIn] using hn S ρ h a w (h₀ hnil) rl hρ hh
    | some i =>
      dsimp only
      rw [linearise_go_acc, List.reverse_singleton, List.singleton_append]
      have hmem : i ∈ Region.ready .any ops listed := List.mem_of_getElem? hi
      obtain ⟨_, o, ho, _⟩ := mem_ready.1 hmem
      obtain ⟨io, hio, hco⟩ := hc i o ho
      have h2 := h₁ i hmem io hio
      simp only [wpOpsIn, ho]
      have := yOp_sound (ops := ops) (r := r) (Q := Q) (K := fun S' => yAny P G ops is K fuel (listed.setIfInBounds i true) S')
        (next := wpOpsIn (FR r) 0 P ops Q (Region.linearise.go .any ops fuel (t / (Region.ready .any ops listed).length) (listed.setIfInBounds i true) [])) rl hco (by
          obtain ⟨x, own2, ⟨h3a, h3b⟩, h4⟩ := yVal_take h2
          unfold yOp
          exact yVal_mono h4 h3b) fun S' ρ' h' a' w' hK rl' l1 l2 => ih _ _ rl' (Env.le_trans hρ l1) (Heap.le_trans hh l2) hK
      unfold opIn at this
      split
      · rename_i hw; rw [if_pos hw] at this; exact this
      · rename_i hw; rw [if_neg hw] at this; exact ⟨fun _ _ => trivial, this⟩
end Go.Fx
