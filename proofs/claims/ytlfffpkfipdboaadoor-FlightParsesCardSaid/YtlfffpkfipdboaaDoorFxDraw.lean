/-
  Fx, part 10b: operations whose order is open.
-/
import Derived.Test.YtlfffpkfipdboaaDoorFxSound5
import Derived.Orders
set_option linter.unusedSimpArgs false
set_option linter.unusedVariables false
namespace Go.Fx
def Ins.all : Ins → List Opd
  | .pick c a b => [c, a, b]
  | io => io.opds
def Opd.slots : Opd → List Nat
  | .tmp t => [t]
  | _ => []
def IOp.slots (o : IOp) : List Nat := o.io.all.flatMap Opd.slots ++ (match o.guard with
  | some (g, _) => [g]
  | none => [])
theorem map_agree {α β : Type} {f g : α → β} : ∀ {l : List α}, (∀ y ∈ l, f y = g y) → l.map f = l.map g := fun h => List.map_congr_left h
theorem sureL_agree {f g : Opd → SV} : ∀ {l : List Opd}, (∀ y ∈ l, f y = g y) → sureL f l = sureL g l
  | [], _ => rfl
  | [x], h => by simp only [sureL, h x (by simp)]
  | x :: y :: l, h => by
    simp only [sureL, h x (by simp)]
    rw [sureL_agree (l := y :: l) fun z hz => h z (by simp at hz ⊢; exact .inr hz)]
theorem pev_agree {own : List OB} {f g : Opd → SV} {io : Ins} (h : ∀ y ∈ io.all, f y = g y) : pev own f io = pev own g io := by
  cases io <;> simp only [Ins.all, Ins.opds, List.mem_cons, List.not_mem_nil, or_false, forall_eq_or_imp, forall_eq, List.mem_append, Option.mem_toList] at h <;> simp only [pev, h]
  case mkFn f' caps =>
    cases caps with
    | nil => rfl
    | cons c cs => rw [map_agree h]
  case slc w x lo hi mx =>
    have h1 : (lo.map fun o => (f o).num) = (lo.map fun o => (g o).num) := by cases lo <;> simp_all
    have h2 : (hi.map fun o => (f o).num) = (hi.map fun o => (g o).num) := by cases hi <;> simp_all
    have h3 : (mx.map fun o => (f o).num) = (mx.map fun o => (g o).num) := by cases mx <;> simp_all
    rw [h1, h2, h3]
  case slcS x lo hi =>
    have h1 : (lo.map fun o => (f o).num) = (lo.map fun o => (g o).num) := by cases lo <;> simp_all
    have h2 : (hi.map fun o => (f o).num) = (hi.map fun o => (g o).num) := by cases hi <;> simp_all
    rw [h1, h2]
  case build z ps =>
    have h1 : (ps.map fun q => (q.1, q.2.1, f q.2.2)) = (ps.map fun q => (q.1, q.2.1, g q.2.2)) := List.map_congr_left fun q hq => by
      rw [h q.2.2 (List.mem_map.2 ⟨q, hq, rfl⟩)]
    rw [h1]
  case maxs l => rw [map_agree h]
  case mins l => rw [map_agree h]
theorem eff_agree {own : List OB} {f g : Opd → SV} {io : Ins} {K : SV → List OB → Prop} (h : ∀ y ∈ io.all, f y = g y) : eff own f io K = eff own g io K := by
  cases io <;> simp only [Ins.all, Ins.opds, List.mem_cons, List.not_mem_nil, or_false, forall_eq_or_imp, forall_eq, List.mem_append, Option.mem_toList] at h <;> simp only [eff, h]
  case bsl elem ik w ps => rw [map_agree h]
theorem fxT_agree {own : List OB} {f g : Opd → SV} {o : FX} (h : ∀ y ∈ o.opds, f y = g y) : fxT own f o = fxT own g o := by
  cases o <;> simp only [FX.opds, List.mem_cons, List.not_mem_nil, or_false, forall_eq_or_imp, forall_eq, List.mem_append, Option.mem_toList] at h <;> simp only [fxT, h]
  case slcX w x lo hi mx =>
    have h1 : (lo.map fun o => (f o).num) = (lo.map fun o => (g o).num) := by cases lo <;> simp_all
    have h2 : (hi.map fun o => (f o).num) = (hi.map fun o => (g o).num) := by cases hi <;> simp_all
    have h3 : (mx.map fun o => (f o).num) = (mx.map fun o => (g o).num) := by cases mx <;> simp_all
    rw [h1, h2, h3]
  case callM g' as => rw [map_agree h]
theorem callVC_agree {P : Program} {G : Glob} {act : Bool} {own : List OB} {f g : Opd → SV} {c : Opd} {args : List Opd} {K : SV → List OB → Prop} (h : ∀ y ∈ c :: args, f y = g y) :
    callVC P G act own f c args K = callVC P G act own g c args K := by
  have h1 : ((c :: args).flatMap fun x => SV.ids own (f x)) = ((c :: args).flatMap fun x => SV.ids own (g x)) := by
    rw [List.flatMap_def, List.flatMap_def, map_agree (l := c :: args) (f := fun x => SV.ids own (f x)) (g := fun x => SV.ids own (g x)) fun y hy => by rw [h y hy]]
  have h2 : args.map f = args.map g := map_agree fun y hy => h y (by simp [hy])
  unfold callVC
  simp only [h1, h2, h c (by simp)]
theorem rowVC_agree {P : Program} {G : Glob} {own : List OB} {f g : Opd → SV} {c : FuncId} {t : TypeId} {a : Opd} {args : List Opd} {K : SV → List OB → Prop} (h : ∀ y ∈ a :: args, f y = g y) :
    rowVC P G own f c t a args K = rowVC P G own g c t a args K := by
  have h2 : args.map f = args.map g := map_agree fun y hy => h y (by simp [hy])
  unfold rowVC
  rw [h2, h a (by simp)]
theorem rowVC_mono {P : Program} {G : Glob} {own : List OB} {e : Opd → SV} {c : FuncId} {t : TypeId} {a : Opd} {args : List Opd} {K K' : SV → List OB → Prop} (hk : ∀ y own', K y own' → K' y own')
    (h : rowVC P G own e c t a args K) : rowVC P G own e c t a args K' := by
  unfold rowVC at h ⊢
  split at h
  · split at h
    · obtain ⟨h0, n', l', h1, h2⟩ := h
      exact ⟨h0, n', l', h1, hk _ _ h2⟩
    · exact h.elim
  · split at h
    · obtain ⟨h0, n', l', h1, h2⟩ := h
      exact ⟨h0, n', l', h1, hk _ _ h2⟩
    · exact h.elim
  · exact h.elim
theorem rowVC_take {P : Program} {G : Glob} {own : List OB} {e : Opd → SV} {c : FuncId} {t : TypeId} {a : Opd} {args : List Opd} {K : SV → List OB → Prop}
    (h : rowVC P G own e c t a args K) : ∃ x o2, K x o2 ∧ rowVC P G own e c t a args fun y own' => y = x ∧ own' = o2 := by
  unfold rowVC at h ⊢
  split at h
  · split at h
    · obtain ⟨h0, n', l', h1, h2⟩ := h
      exact ⟨_, _, h2, h0, n', l', h1, rfl, rfl⟩
    · exact h.elim
  · split at h
    · obtain ⟨h0, n', l', h1, h2⟩ := h
      exact ⟨_, _, h2, h0, n', l', h1, rfl, rfl⟩
    · exact h.elim
  · exact h.elim
theorem newVC_agree {P : Program} {G : Glob} {own : List OB} {f g : Opd → SV} {c : FuncId} {t : TypeId} {args : List Opd} {K : SV → List OB → Prop} (h : ∀ y ∈ args, f y = g y) :
    newVC P G own f c t args K = newVC P G own g c t args K := by
  have h2 : args.map f = args.map g := map_agree fun y hy => h y hy
  have h1 : (args.flatMap fun x => SV.ids own (f x)) = args.flatMap fun x => SV.ids own (g x) := by
    rw [List.flatMap_def, List.flatMap_def, map_agree (l := args) (f := fun x => SV.ids own (f x)) (g := fun x => SV.ids own (g x)) fun y hy => by rw [h y hy]]
  unfold newVC
  simp only [h1, h2]
theorem newVC_mono {P : Program} {G : Glob} {own : List OB} {e : Opd → SV} {c : FuncId} {t : TypeId} {args : List Opd} {K K' : SV → List OB → Prop} (hk : ∀ y own', K y own' → K' y own')
    (h : newVC P G own e c t args K) : newVC P G own e c t args K' := by
  unfold newVC at h ⊢
  dsimp only at h ⊢
  split at h
  · obtain ⟨k, n', l', r, h0, h1, h2⟩ := h
    exact ⟨k, n', l', r, h0, h1, hk _ _ h2⟩
  · exact h.elim
theorem newVC_take {P : Program} {G : Glob} {own : List OB} {e : Opd → SV} {c : FuncId} {t : TypeId} {args : List Opd} {K : SV → List OB → Prop}
    (h : newVC P G own e c t args K) : ∃ x o2, K x o2 ∧ newVC P G own e c t args fun y own' => y = x ∧ own' = o2 := by
  unfold newVC at h ⊢
  dsimp only at h ⊢
  split at h
  · obtain ⟨k, n', l', r, h0, h1, h2⟩ := h
    exact ⟨_, _, h2, k, n', l', r, h0, h1, rfl, rfl⟩
  · exact h.elim
theorem invVC_agree {P : Program} {G : Glob} {own : List OB} {f g : Opd → SV} {c : FuncId} {t : TypeId} {a : Opd} {args : List Opd} {K : SV → List OB → Prop} (h : ∀ y ∈ a :: args, f y = g y) :
    invVC P G own f c t a args K = invVC P G own g c t a args K := by
  have h2 : args.map f = args.map g := map_agree fun y hy => h y (List.mem_cons_of_mem _ hy)
  unfold invVC
  rw [h2, h a (List.mem_cons_self ..)]
theorem invVC_mono {P : Program} {G : Glob} {own : List OB} {e : Opd → SV} {c : FuncId} {t : TypeId} {a : Opd} {args : List Opd} {K K' : SV → List OB → Prop} (hk : ∀ y own', K y own' → K' y own')
    (h : invVC P G own e c t a args K) : invVC P G own e c t a args K' := by
  unfold invVC at h ⊢
  split at h
  · obtain ⟨h0, r, h1, h2⟩ := h
    exact ⟨h0, r, h1, hk _ _ h2⟩
  · exact h.elim
theorem invVC_take {P : Program} {G : Glob} {own : List OB} {e : Opd → SV} {c : FuncId} {t : TypeId} {a : Opd} {args : List Opd} {K : SV → List OB → Prop}
    (h : invVC P G own e c t a args K) : ∃ x o2, K x o2 ∧ invVC P G own e c t a args fun y own' => y = x ∧ own' = o2 := by
  unfold invVC at h ⊢
  split at h
  · obtain ⟨h0, r, h1, h2⟩ := h
    exact ⟨_, _, h2, h0, r, h1, rfl, rfl⟩
  · exact h.elim
theorem vcRun_agree {P : Program} {G : Glob} {own : List OB} {f g : Opd → SV} {io : Ins} {K : SV → List OB → Prop} (h : ∀ y ∈ io.all, f y = g y) : vcRun P G own f io K = vcRun P G own g io K := by
  have hs : ∀ y ∈ io.all, (f y).strip = (g y).strip := fun y hy => by rw [h y hy]
  have hsub : ∀ y ∈ io.opds, y ∈ io.all := by
    cases io <;> simp [Ins.all, Ins.opds]
  have h1 := sureL_agree (f := f) (g := g) (l := io.opds) fun y hy => h y (hsub y hy)
  have h2 := pev_agree (own := own) (f := fun x => (f x).strip) (g := fun x => (g x).strip) (io := io) hs
  have h3 := eff_agree (own := own) (f := fun x => (f x).strip) (g := fun x => (g x).strip) (io := io) (K := K) hs
  unfold vcRun
  rw [h1]
  cases io
  case pick c a b =>
    simp only [Ins.all, List.mem_cons, List.not_mem_nil, or_false, forall_eq_or_imp, forall_eq] at h
    simp only [h]
  case call c args =>
    dsimp only
    rw [callVC_agree (f := fun x => (f x).strip) (g := fun x => (g x).strip) hs]
  case callR c t a args =>
    dsimp only
    rw [rowVC_agree (f := fun x => (f x).strip) (g := fun x => (g x).strip) hs]
  case callN c t args =>
    dsimp only
    rw [newVC_agree (args := args) (f := fun x => (f x).strip) (g := fun x => (g x).strip) hs]
  case callI c t a args =>
    dsimp only
    rw [invVC_agree (f := fun x => (f x).strip) (g := fun x => (g x).strip) hs]
  case fx o =>
    dsimp only
    rw [fxT_agree (o := o) (f := fun x => (f x).strip) (g := fun x => (g x).strip) hs]
  all_goals (dsimp only; rw [h2, h3])
theorem vcGuard_agree {P : Program} {G : Glob} {act : Bool} {own : List OB} {f g : Opd → SV} {io : Ins} {K : SV → List OB → Prop} (h : ∀ y ∈ io.all, f y = g y) :
    vcGuard P G act own f io K = vcGuard P G act own g io K := by
  have hs : ∀ y ∈ io.all, (f y).strip = (g y).strip := fun y hy => by rw [h y hy]
  have hsub : ∀ y ∈ io.opds, y ∈ io.all := by
    cases io <;> simp [Ins.all, Ins.opds]
  have h1 := sureL_agree (f := f) (g := g) (l := io.opds) fun y hy => h y (hsub y hy)
  have h2 := pev_agree (own := own) (f := fun x => (f x).strip) (g := fun x => (g x).strip) (io := io) hs
  have h3 := eff_agree (own := own) (f := fun x => (f x).strip) (g := fun x => (g x).strip) (io := io) (K := K) hs
  unfold vcGuard
  cases io
  case pick c a b =>
    simp only [Ins.all, List.mem_cons, List.not_mem_nil, or_false, forall_eq_or_imp, forall_eq] at h
    simp only [h]
  case call c args =>
    dsimp only
    rw [callVC_agree (f := fun x => (f x).strip) (g := fun x => (g x).strip) hs]
    rw [show sureL f (c :: args) = sureL g (c :: args) from h1]
  all_goals (dsimp only; rw [h1, h2, h3])
theorem evS_agree {G : Glob} {S S' : St} (ho : S.own = S'.own) {y : Opd} (h : ∀ t ∈ y.slots, S.t.getD t .any = S'.t.getD t .any) : evS G S y = evS G S' y := by
  cases y
  case tmp t => simp only [evS, ho, h t (by simp [Opd.slots])]
  all_goals rfl
theorem vcVal_agree {P : Program} {G : Glob} {S S' : St} {o : IOp} {K : SV → List OB → Prop} (ho : S.own = S'.own) (h : ∀ t ∈ o.slots, S.t.getD t .any = S'.t.getD t .any) :
    vcVal P G S o K = vcVal P G S' o K := by
  have h1 : ∀ y ∈ o.io.all, evS G S y = evS G S' y := fun y hy => evS_agree ho fun t ht => h t (by
    simp only [IOp.slots, List.mem_append, List.mem_flatMap]
    exact .inl ⟨y, hy, ht⟩)
  unfold vcVal
  cases hg : o.guard with
  | none => dsimp only; rw [ho, vcRun_agree h1]
  | some gw =>
    obtain ⟨g, want⟩ := gw
    have h2 := h g (by simp [IOp.slots, hg])
    have h3 : ∀ act, vcGuard P G act S.own (evS G S) o.io K = vcGuard P G act S'.own (evS G S') o.io K := fun act => by rw [ho, vcGuard_agree h1]
    dsimp only
    rw [h2]
    simp only [h3]
theorem appI_mono {own : List OB} {elem : TypeId} {k : IntKind} {bytes : Nat} {x : SV} {m : List Int} {K K' : SV → List OB → Prop} (hk : ∀ y own', K y own' → K' y own') (h : appI own elem k bytes x m K) : appI own elem k bytes x m K' := by
  unfold appI at h ⊢
  split at h
  · split at h
    · exact ⟨h.1, h.2.1, h.2.2.1, h.2.2.2.1, hk _ _ h.2.2.2.2⟩
    · exact h.elim
  · obtain ⟨h1, h2, h3, h4, h5⟩ := h
    refine ⟨h1, h2, h3, h4, ?_⟩
    split at h5
    · exact hk _ _ h5
    · split at h5
      · exact hk _ _ h5
      · exact hk _ _ h5
  · exact h.elim
theorem appS_mono {own : List OB} {elem : TypeId} {w bytes : Nat} {x : SV} {m : List PV} {K K' : SV → List OB → Prop} (hk : ∀ y own', K y own' → K' y own') (h : appS own elem w bytes x m K) : appS own elem w bytes x m K' := by
  unfold appS at h ⊢
  split at h
  · split at h
    · exact ⟨h.1, h.2.1, h.2.2.1, h.2.2.2.1, h.2.2.2.2.1, hk _ _ h.2.2.2.2.2⟩
    · exact h.elim
  · obtain ⟨h1, h2, h3, h4, h5, h6⟩ := h
    refine ⟨h1, h2, h3, h4, h5, ?_⟩
    split at h6
    · exact hk _ _ h6
    · split at h6
      · exact hk _ _ h6
      · exact hk _ _ h6
  · exact h.elim
theorem appI_take {own : List OB} {elem : TypeId} {k : IntKind} {bytes : Nat} {x : SV} {m : List Int} {K : SV → List OB → Prop} (h : appI own elem k bytes x m K) :
    ∃ z own2, K z own2 ∧ appI own elem k bytes x m fun y own' => y = z ∧ own' = own2 := by
  unfold appI at h ⊢
  split at h
  · split at h
    · rename_i e1
      obtain ⟨h1, h2, h3, h4, h5⟩ := h
      exact ⟨_, _, h5, by first | exact ⟨h1, h2, h3, h4, rfl, rfl⟩ | (simp only [e1]; exact ⟨h1, h2, h3, h4, trivial, trivial⟩)⟩
    · exact h.elim
  · obtain ⟨h1, h2, h3, h4, h5⟩ := h
    split at h5
    · exact ⟨_, _, h5, h1, h2, h3, h4, rfl, rfl⟩
    · split at h5
      · exact ⟨_, _, h5, h1, h2, h3, h4, rfl, rfl⟩
      · exact ⟨_, _, h5, h1, h2, h3, h4, rfl, rfl⟩
  · exact h.elim
theorem appS_take {own : List OB} {elem : TypeId} {w bytes : Nat} {x : SV} {m : List PV} {K : SV → List OB → Prop} (h : appS own elem w bytes x m K) :
    ∃ z own2, K z own2 ∧ appS own elem w bytes x m fun y own' => y = z ∧ own' = own2 := by
  unfold appS at h ⊢
  split at h
  · split at h
    · rename_i e1
      obtain ⟨h1, h2, h3, h4, h0, h5⟩ := h
      exact ⟨_, _, h5, by first | exact ⟨h1, h2, h3, h4, h0, rfl, rfl⟩ | (simp only [e1]; exact ⟨h1, h2, h3, h4, h0, trivial, trivial⟩)⟩
    · exact h.elim
  · obtain ⟨h1, h2, h3, h4, h0, h5⟩ := h
    split at h5
    · exact ⟨_, _, h5, h1, h2, h3, h4, h0, rfl, rfl⟩
    · split at h5
      · exact ⟨_, _, h5, h1, h2, h3, h4, h0, rfl, rfl⟩
      · exact ⟨_, _, h5, h1, h2, h3, h4, h0, rfl, rfl⟩
  · exact h.elim
/-- What becomes of an operation, taken out. -/
theorem lookSK_mono {s : List Int} {F F' : SV → Prop} {Z Z' : Prop} (hf : ∀ x, F x → F' x) (hz : Z → Z') : ∀ {es : List (PV × SV)}, lookSK s es F Z → lookSK s es F' Z'
  | [], h => hz h
  | (k', v) :: r, h => by
    unfold lookSK at h ⊢
    split at h
    · exact ⟨fun e => hf _ (h.1 e), fun e => lookSK_mono hf hz (h.2 e)⟩
    · exact h.elim
theorem lookSK_take {s : List Int} {own : List OB} {f : SV → SV} {z : SV} {K : SV → List OB → Prop} : ∀ {es : List (PV × SV)}, lookSK s es (fun x => K (f x) own) (K z own) →
    ∃ x o2, K x o2 ∧ lookSK s es (fun y => f y = x ∧ own = o2) (z = x ∧ own = o2)
  | [], h => ⟨z, own, h, rfl, rfl⟩
  | (k', v) :: r, h => by
    unfold lookSK at h
    split at h
    · rename_i b
      by_cases hab : s = b
      · exact ⟨f v, own, h.1 hab, by unfold lookSK; exact ⟨fun _ => ⟨rfl, rfl⟩, fun hn => absurd hab hn⟩⟩
      · obtain ⟨x, o2, h4, h5⟩ := lookSK_take (h.2 hab)
        exact ⟨x, o2, h4, by unfold lookSK; exact ⟨fun e => absurd e hab, fun _ => h5⟩⟩
    · exact h.elim
theorem lookK_mono {k : PV} {F F' : SV → Prop} {Z Z' : Prop} (hf : ∀ x, F x → F' x) (hz : Z → Z') : ∀ {es : List (PV × SV)}, lookK k es F Z → lookK k es F' Z'
  | [], h => hz h
  | (k', v) :: r, h => by
    unfold lookK at h ⊢
    split at h
    · exact ⟨h.1, fun e => hf _ (h.2.1 e), fun e => lookK_mono hf hz (h.2.2 e)⟩
    · exact h.elim
theorem lookK_take {k : PV} {own : List OB} {z : SV} {K : SV → List OB → Prop} : ∀ {es : List (PV × SV)}, lookK k es (fun x => K x own) (K z own) →
    ∃ x o2, K x o2 ∧ lookK k es (fun y => y = x ∧ own = o2) (z = x ∧ own = o2)
  | [], h => ⟨_, _, h, rfl, rfl⟩
  | (k', v) :: r, h => by
    unfold lookK at h
    split at h
    · rename_i q a q' b
      obtain ⟨h1, h2, h3⟩ := h
      by_cases hab : a = b
      · exact ⟨v, own, h2 hab, by unfold lookK; exact ⟨h1, fun _ => ⟨rfl, rfl⟩, fun hn => absurd hab hn⟩⟩
      · obtain ⟨x, o2, h4, h5⟩ := lookK_take (h3 hab)
        exact ⟨x, o2, h4, by unfold lookK; exact ⟨h1, fun e => absurd e hab, fun _ => h5⟩⟩
    · exact h.elim
theorem eff_take {own : List OB} {e : Opd → SV} {io : Ins} {K : SV → List OB → Prop} (h : eff own e io K) : ∃ x o2, K x o2 ∧ eff own e io fun y own' => y = x ∧ own' = o2 := by
  cases io <;> simp only [eff] at h <;> first | exact h.elim | skip
  case alloc => exact ⟨_, _, h, rfl, rfl⟩
  case box => exact ⟨_, _, h.2, h.1, rfl, rfl⟩
  case mkS elem k bytes x =>
    split at h
    · rename_i e1
      refine ⟨_, _, h.2.2.2, ?_⟩
      simp only [eff, e1]
      exact ⟨h.1, h.2.1, h.2.2.1, trivial, trivial⟩
    · exact h.elim
  case st n a x =>
    split at h
    · split at h
      · rename_i e1 _ _ _ e2
        obtain ⟨h1, h2, h3, h4⟩ := h
        refine ⟨_, _, h4, ?_⟩
        simp only [eff, e1, e2]
        exact ⟨h1, h2, h3, trivial, trivial⟩
      · exact h.elim
    · split at h
      · rename_i e1 _ _ _ _ _ _ _ _ _ e2 e3
        obtain ⟨h1, h2, h3, h4, h5, h6⟩ := h
        refine ⟨_, _, h6, ?_⟩
        simp only [eff, e1, e2, e3]
        exact ⟨h1, h2, h3, h4, h5, trivial, trivial⟩
      · rename_i e1 _ _ _ _ _ _ _ _ e2 e3
        obtain ⟨h1, h2, h3, h4, h5, h6, h7⟩ := h
        refine ⟨_, _, h7, ?_⟩
        simp only [eff, e1, e2, e3]
        exact ⟨h1, h2, h3, h4, h5, h6, trivial, trivial⟩
      · exact h.elim
    · exact h.elim
  case app elem ik w bytes x y =>
    cases ik with
    | some k =>
      dsimp only at h
      split at h
      · rename_i e1
        obtain ⟨h1, h⟩ := h
        obtain ⟨z, o2, h2, h3⟩ := appI_take h
        exact ⟨z, o2, h2, by simp only [eff, e1]; exact ⟨h1, h3⟩⟩
      · exact h.elim
    | none =>
      dsimp only at h
      split at h
      · rename_i e1
        obtain ⟨h1, h⟩ := h
        obtain ⟨z, o2, h2, h3⟩ := appS_take h
        exact ⟨z, o2, h2, by simp only [eff, e1]; exact ⟨h1, h3⟩⟩
      · exact h.elim
  case bsl elem ik w ps =>
    split at h
    · rename_i xs e1
      cases ik with
      | some k =>
        dsimp only at h
        split at h
        · rename_i l e2
          refine ⟨_, _, h, ?_⟩
          simp only [eff, e1, e2]
          exact ⟨trivial, trivial⟩
        · exact h.elim
      | none =>
        refine ⟨_, _, h.2, ?_⟩
        simp only [eff, e1]
        exact ⟨h.1, trivial, trivial⟩
    · exact h.elim
  case mkMap => exact ⟨_, _, h, rfl, rfl⟩
  case cvtSB elem x =>
    split at h
    · split at h
      · rename_i e1 _ _ _ _ _ _ e2
        refine ⟨_, _, h.2, ?_⟩
        simp only [eff, e1, e2]
        exact ⟨h.1, trivial, trivial⟩
      · exact h.elim
    · exact h.elim
  case ins m k v =>
    split at h
    · split at h
      · rename_i e1 e2 _ _ e3
        refine ⟨_, _, h.2.2, ?_⟩
        simp only [eff, e1, e2, e3]
        exact ⟨h.1, h.2.1, trivial, trivial⟩
      · exact h.elim
    · exact h.elim
  case insS m k v =>
    split at h
    · split at h
      · rename_i e1 e2 _ _ e3
        refine ⟨_, _, h.2, ?_⟩
        simp only [eff, e1, e2, e3]
        exact ⟨h.1, trivial, trivial⟩
      · exact h.elim
    · exact h.elim
  case lookS z m k =>
    split at h
    · split at h
      · rename_i e1 e2 _ _ e3
        obtain ⟨x, o2, h4, h5⟩ := lookSK_take (f := fun x => .tup [x, .p (.bool true)]) h
        refine ⟨x, o2, h4, ?_⟩
        simp only [eff, e1, e2, e3]
        exact h5
      · exact h.elim
    · exact h.elim
  case look z m k =>
    split at h
    · split at h
      · rename_i e1 e2 _ _ e3
        obtain ⟨x, o2, h4, h5⟩ := lookK_take h.2
        refine ⟨x, o2, h4, ?_⟩
        simp only [eff, e1, e2, e3]
        exact ⟨h.1, h5⟩
      · exact h.elim
    · exact h.elim
theorem callVC_take {P : Program} {G : Glob} {act : Bool} {own : List OB} {e : Opd → SV} {c : Opd} {args : List Opd} {f : SV → SV} {K : SV → List OB → Prop}
    (h : callVC P G act own e c args fun x own' => K (f x) own') : ∃ x o2, K x o2 ∧ callVC P G act own e c args fun y own' => f y = x ∧ own' = o2 := by
  unfold callVC at h ⊢
  dsimp only at h ⊢
  split at h
  · rename_i g caps as e1 e2
    obtain ⟨r, h1, h2⟩ := h
    exact ⟨_, _, h2, ⟨r, h1, rfl, rfl⟩⟩
  · exact h.elim
theorem vcRun_take {P : Program} {G : Glob} {own : List OB} {raw : Opd → SV} {io : Ins} {K : SV → List OB → Prop} (h : vcRun P G own raw io K) :
    ∃ x o2, K x o2 ∧ vcRun P G own raw io fun y own' => y = x ∧ own' = o2 := by
  unfold vcRun at h ⊢
  obtain ⟨h0, h⟩ := h
  cases io
  case pick c a b =>
    dsimp only at h ⊢
    split at h
    · rename_i t e1
      exact ⟨_, _, h.2.2, h0, by first | exact ⟨h.1, h.2.1, rfl, rfl⟩ | (simp only [e1]; exact ⟨h.1, h.2.1, trivial, trivial⟩)⟩
    · exact h.elim
  case call c args =>
    obtain ⟨x, o2, h1, h2⟩ := callVC_take (f := id) h
    exact ⟨x, o2, h1, h0, h2⟩
  case callR c t a args =>
    obtain ⟨x, o2, h1, h2⟩ := rowVC_take h
    exact ⟨x, o2, h1, h0, h2⟩
  case callN c t args =>
    obtain ⟨x, o2, h1, h2⟩ := newVC_take h
    exact ⟨x, o2, h1, h0, h2⟩
  case callI c t a args =>
    obtain ⟨x, o2, h1, h2⟩ := invVC_take h
    exact ⟨x, o2, h1, h0, h2⟩
  case fx o =>
    obtain ⟨x, o2, h1, h2⟩ := FT.holds_take h
    exact ⟨x, o2, h1, h0, h2⟩
  all_goals first
    | exact ⟨_, _, h.2, h0, h.1, rfl, rfl⟩
    | (simp only [Ins.calm, Bool.false_eq_true, if_false] at h ⊢
       obtain ⟨x, o2, h1, h2⟩ := eff_take h
       exact ⟨x, o2, h1, h0, h2⟩)
theorem vcGuard_take {P : Program} {G : Glob} {act : Bool} {own : List OB} {raw : Opd → SV} {io : Ins} {K : SV → List OB → Prop} (h : vcGuard P G act own raw io K) :
    ∃ x o2, K x o2 ∧ vcGuard P G act own raw io fun y own' => y = x ∧ own' = o2 := by
  unfold vcGuard at h ⊢
  cases io
  case pick c a b =>
    dsimp only at h ⊢
    split at h
    · rename_i t e1
      exact ⟨_, _, h.2, by first | exact ⟨h.1, rfl, rfl⟩ | (simp only [e1]; exact ⟨h.1, trivial, trivial⟩)⟩
    · exact h.elim
  case call c args =>
    obtain ⟨h0, h⟩ := h
    obtain ⟨x, o2, h1, h2⟩ := callVC_take (f := SV.cnd act) h
    exact ⟨x, o2, h1, h0, h2⟩
  all_goals first
    | exact ⟨_, _, h.2, h.1, rfl, rfl⟩
    | (simp only [Ins.calm, Bool.false_eq_true, if_false] at h ⊢
       cases act with
       | true =>
         obtain ⟨h0, h1⟩ := h.1 rfl
         obtain ⟨x, o2, h2, h3⟩ := eff_take h1
         exact ⟨x, o2, h2, fun _ => ⟨h0, h3⟩, fun e => by cases e⟩
       | false => exact ⟨.any, own, h.2 rfl, (fun e => by cases e), fun _ => ⟨by first | trivial | rfl, by first | trivial | rfl⟩⟩)
theorem vcVal_take {P : Program} {G : Glob} {S : St} {o : IOp} {K : SV → List OB → Prop} (h : vcVal P G S o K) :
    ∃ x o2, K x o2 ∧ vcVal P G S o fun y own' => y = x ∧ own' = o2 := by
  unfold vcVal at h ⊢
  cases hg : o.guard with
  | none => rw [hg] at h; exact vcRun_take h
  | some gw =>
    obtain ⟨g, want⟩ := gw
    rw [hg] at h
    dsimp only at h ⊢
    split at h
    · rename_i e1; first | exact vcGuard_take h | (simp only [e1]; exact vcGuard_take h)
    · rename_i e1; first | exact vcGuard_take h | (simp only [e1]; exact vcGuard_take h)
    · exact h.elim
theorem vcVal_mono {P : Program} {G : Glob} {S : St} {o : IOp} {x : SV} {o2 : List OB} {K2 : SV → List OB → Prop} (h : vcVal P G S o fun y own' => y = x ∧ own' = o2) (hR : K2 x o2) : vcVal P G S o K2 := by
  have step : ∀ {K K' : SV → List OB → Prop}, (∀ y own', K y own' → K' y own') → vcVal P G S o K → vcVal P G S o K' := by
    intro K K' hk h
    have he : ∀ {own : List OB} {e : Opd → SV} {io : Ins} {K K' : SV → List OB → Prop}, (∀ y own', K y own' → K' y own') → eff own e io K → eff own e io K' := by
      intro own e io K K' hk h
      cases io <;> simp only [eff] at h ⊢ <;> first | exact h.elim | skip
      case alloc => exact hk _ _ h
      case box => exact ⟨h.1, hk _ _ h.2⟩
      case mkS elem k bytes x =>
        split at h
        · rename_i e1
          try simp only [e1]
          exact ⟨h.1, h.2.1, h.2.2.1, hk _ _ h.2.2.2⟩
        · exact h.elim
      case st n a x =>
        split at h
        · split at h
          · rename_i e1 _ _ _ e2
            try simp only [e1, e2]
            exact ⟨h.1, h.2.1, h.2.2.1, hk _ _ h.2.2.2⟩
          · exact h.elim
        · split at h
          · rename_i e1 _ _ _ _ _ _ _ _ _ e2 e3
            try simp only [e1, e2, e3]
            exact ⟨h.1, h.2.1, h.2.2.1, h.2.2.2.1, h.2.2.2.2.1, hk _ _ h.2.2.2.2.2⟩
          · rename_i e1 _ _ _ _ _ _ _ _ e2 e3
            try simp only [e1, e2, e3]
            exact ⟨h.1, h.2.1, h.2.2.1, h.2.2.2.1, h.2.2.2.2.1, h.2.2.2.2.2.1, hk _ _ h.2.2.2.2.2.2⟩
          · exact h.elim
        · exact h.elim
      case app elem ik w bytes x y =>
        cases ik with
        | some k =>
          dsimp only at h ⊢
          split at h
          · exact ⟨h.1, appI_mono hk h.2⟩
          · exact h.elim
        | none =>
          dsimp only at h ⊢
          split at h
          · exact ⟨h.1, appS_mono hk h.2⟩
          · exact h.elim
      case bsl elem ik w ps =>
        split at h
        · cases ik with
          | some k =>
            dsimp only at h ⊢
            split at h
            · exact hk _ _ h
            · exact h.elim
          | none => exact ⟨h.1, hk _ _ h.2⟩
        · exact h.elim
      case mkMap => exact hk _ _ h
      case cvtSB elem x =>
        split at h
        · split at h
          · exact ⟨h.1, hk _ _ h.2⟩
          · exact h.elim
        · exact h.elim
      case ins m k v =>
        split at h
        · split at h
          · exact ⟨h.1, h.2.1, hk _ _ h.2.2⟩
          · exact h.elim
        · exact h.elim
      case insS m k v =>
        split at h
        · split at h
          · exact ⟨h.1, hk _ _ h.2⟩
          · exact h.elim
        · exact h.elim
      case lookS z m k =>
        split at h
        · split at h
          · exact lookSK_mono (fun x hx => hk _ _ hx) (hk _ _) h
          · exact h.elim
        · exact h.elim
      case look z m k =>
        split at h
        · split at h
          · exact ⟨h.1, lookK_mono (fun x hx => hk _ _ hx) (hk _ _) h.2⟩
          · exact h.elim
        · exact h.elim
    have hc : ∀ {act : Bool} {own : List OB} {e : Opd → SV} {c : Opd} {args : List Opd} {K K' : SV → List OB → Prop}, (∀ y own', K y own' → K' y own') → callVC P G act own e c args K → callVC P G act own e c args K' := by
      intro act own e c args K K' hk h
      unfold callVC at h ⊢
      dsimp only at h ⊢
      split at h
      · obtain ⟨r, h1, h2⟩ := h
        exact ⟨r, h1, hk _ _ h2⟩
      · exact h.elim
    have hr : ∀ {own : List OB} {raw : Opd → SV} {io : Ins}, vcRun P G own raw io K → vcRun P G own raw io K' := by
      intro own raw io h
      unfold vcRun at h ⊢
      obtain ⟨h0, h⟩ := h
      refine ⟨h0, ?_⟩
      cases io
      case pick c a b =>
        dsimp only at h ⊢
        split at h
        · exact ⟨h.1, h.2.1, hk _ _ h.2.2⟩
        · exact h.elim
      case call c args => exact hc hk h
      case callR c t a args => exact rowVC_mono hk h
      case callN c t args => exact newVC_mono hk h
      case callI c t a args => exact invVC_mono hk h
      case fx o => exact FT.holds_mono hk h
      all_goals (simp only [Ins.calm, Bool.false_eq_true, if_false, if_true] at h ⊢; first | exact ⟨h.1, hk _ _ h.2⟩ | exact he hk h)
    have hg : ∀ {act : Bool} {own : List OB} {raw : Opd → SV} {io : Ins}, vcGuard P G act own raw io K → vcGuard P G act own raw io K' := by
      intro act own raw io h
      unfold vcGuard at h ⊢
      cases io
      case pick c a b =>
        dsimp only at h ⊢
        split at h
        · exact ⟨h.1, hk _ _ h.2⟩
        · exact h.elim
      case call c args => exact ⟨h.1, hc (fun y own' hy => hk _ _ hy) h.2⟩
      all_goals (simp only [Ins.calm, Bool.false_eq_true, if_false, if_true] at h ⊢; first | exact ⟨h.1, hk _ _ h.2⟩ | exact ⟨fun ha => ⟨(h.1 ha).1, he hk (h.1 ha).2⟩, fun ha => hk _ _ (h.2 ha)⟩)
    unfold vcVal at h ⊢
    cases ho : o.guard with
    | none => rw [ho] at h; exact hr h
    | some gw =>
      obtain ⟨g, want⟩ := gw
      rw [ho] at h
      dsimp only at h ⊢
      split at h
      · exact hg h
      · exact hg h
      · exact h.elim
  exact step (fun y own' hy => by rw [hy.1, hy.2]; exact hR) h
/-- Neither looks at what the other one writes. -/
def apartI (x y : IOp) : Bool :=
  (match x.dst with
   | some d => !(y.slots).contains d && y.dst != some d
   | none => true) &&
  (match y.dst with
   | some d => !(x.slots).contains d
   | none => true)
theorem put_own (S : St) (d : Option Nat) (x : SV) (own : List OB) : (S.put d x own).own = own := rfl
theorem put_get {S : St} {d : Option Nat} {x : SV} {own : List OB} {t : Nat} (h : ∀ i, d = some i → i ≠ t) : (S.put d x own).t.getD t .any = S.t.getD t .any := by
  cases d with
  | none => rfl
  | some i =>
    simp only [St.put]
    rw [List.getD_eq_getElem?_getD, List.getD_eq_getElem?_getD, List.getElem?_set_ne (h i rfl)]
theorem put_comm {S : St} {d e : Option Nat} {x y : SV} {own : List OB} (h : ∀ i, d = some i → e ≠ some i) : (S.put d x own).put e y own = (S.put e y own).put d x own := by
  cases d with
  | none => rfl
  | some i =>
    cases e with
    | none => rfl
    | some j =>
      have hne : i ≠ j := fun e => h i rfl (by rw [e])
      simp only [St.put, List.set_comm _ _ hne]
theorem apartI_spec {x y : IOp} (h : apartI x y = true) : (∀ d, x.dst = some d → d ∉ y.slots) ∧ (∀ d, x.dst = some d → y.dst ≠ some d) ∧ (∀ d, y.dst = some d → d ∉ x.slots) := by
  refine ⟨fun d hd => ?_, fun d hd => ?_, fun d hd => ?_⟩ <;> simp [apartI, hd] at h
  · exact h.1.1
  · exact h.1.2
  · exact h.2
/-- Whatever order: what is asked. -/
def vcAny (P : Program) (G : Glob) (ops : Array Oper) (is : List IOp) (K : St → Prop) : Nat → Array Bool → St → Prop
  | 0, listed, S => Region.ready .any ops listed = [] ∧ K S
  | fuel + 1, listed, S => (Region.ready .any ops listed = [] → K S) ∧
    ∀ i ∈ Region.ready .any ops listed, ∀ o, is[i]? = some o → vcVal P G S o fun x own => okOwn o.io.kind S.own own ∧ vcAny P G ops is K fuel (listed.setIfInBounds i true) (S.put o.dst x own)
theorem ready_ne {ops : Array Oper} {listed : Array Bool} {i j : Nat} (hj : j ∈ Region.ready .any ops listed) (hi : i ∈ Region.ready .any ops listed) {oj : Oper} (hoj : ops[j]? = some oj) :
    ∀ e ∈ oj.after, Region.binds .any e = true → e.on ≠ i := fun e he hb heq => by
  obtain ⟨_, o', ho', hall⟩ := mem_ready.1 hj
  rw [hoj] at ho'
  cases ho'
  have h1 := hall e he hb
  have h0 := (mem_ready.1 hi).1
  rw [heq] at h1
  rcases Nat.lt_or_ge i listed.size with h' | h'
  · simp [h'] at h0 h1; rw [h0] at h1; cases h1
  · simp [Array.getElem?_eq_none h'] at h1
/-- What was listed has all ahead of it listed. -/
def Closed (ops : Array Oper) (listed : Array Bool) : Prop := ∀ (k : Nat) o, ops[k]? = some o → listed.getD k false = true → ∀ e ∈ o.after, Region.binds .any e = true → listed.getD e.on false = true
/-- j is behind i, in the end. -/
def depT (ops : Array Oper) : Nat → Nat → Nat → Bool
  | 0, _, _ => false
  | n + 1, j, i => match ops[j]? with
    | some o => (o.after.any fun e => Region.binds .any e && e.on == i) || (o.after.any fun e => Region.binds .any e && depT ops n e.on i)
    | none => false
theorem depT_listed {ops : Array Oper} {listed : Array Bool} (hc : Closed ops listed) : ∀ (n j i : Nat), depT ops n j i = true → (∀ o, ops[j]? = some o → ∀ e ∈ o.after, Region.binds .any e = true → listed.getD e.on false = true) → listed.getD i false = true
  | 0, j, i, h, _ => by cases h
  | n + 1, j, i, h, hj => by
    simp only [depT] at h
    split at h
    · rename_i o ho
      rcases Bool.or_eq_true_iff.1 h with h | h
      · obtain ⟨e, he, hb⟩ := Array.any_eq_true'.1 h
        simp only [Bool.and_eq_true, beq_iff_eq] at hb
        obtain ⟨hb1, rfl⟩ := hb
        exact hj o ho e he hb1
      · obtain ⟨e, he, hb⟩ := Array.any_eq_true'.1 h
        simp only [Bool.and_eq_true] at hb
        obtain ⟨hb1, hb2⟩ := hb
        have h1 := hj o ho e he hb1
        exact depT_listed hc n e.on i hb2 fun o' ho' e' he' hb' => hc e.on o' ho' h1 e' he' hb'
    · cases h
theorem Closed.set {ops : Array Oper} {listed : Array Bool} (hc : Closed ops listed) {i : Nat} (hi : i ∈ Region.ready .any ops listed) : Closed ops (listed.setIfInBounds i true) := by
  have mono : ∀ k, listed.getD k false = true → (listed.setIfInBounds i true).getD k false = true := fun k h => by
    by_cases e : i = k
    · subst e
      by_cases hlt : i < listed.size
      · simp [hlt]
      · simp [Array.getElem?_eq_none (Nat.le_of_not_lt hlt)] at h
    · rw [getD_set_ne false e]; exact h
  intro k o ho hl e he hb
  by_cases hk : i = k
  · subst hk
    obtain ⟨_, o', ho', hall⟩ := mem_ready.1 hi
    rw [ho] at ho'
    cases ho'
    exact mono _ (hall e he hb)
  · rw [getD_set_ne false hk] at hl
    exact mono _ (hc k o ho hl e he hb)
theorem unlisted_ne {listed : Array Bool} {i : Nat} (h1 : listed.getD i true = false) (h2 : listed.getD i false = true) : False := by
  rcases Nat.lt_or_ge i listed.size with h | h
  · simp [h] at h1 h2; rw [h1] at h2; cases h2
  · simp [Array.getElem?_eq_none h] at h1
theorem put_comm' {S : St} {d e : Option Nat} {x y : SV} {a b c : List OB} (h : ∀ i, d = some i → e ≠ some i) : (S.put d x a).put e y b = (S.put e y c).put d x b := by
  cases d with
  | none => rfl
  | some i =>
    cases e with
    | none => rfl
    | some j =>
      have hne : i ≠ j := fun e => h i rfl (by rw [e])
      simp only [St.put, List.set_comm _ _ hne]
/-! ### What is put behind all own things changes nothing of what was seen -/
theorem getD_grow {own : List OB} {ob : OB} {id : Nat} {x : OB} (h : own.getD id .gone = x) (hx : x ≠ .gone) : (own ++ [ob]).getD id .gone = x := by
  have h1 := getD_cases h hx
  have hl := (List.getElem?_eq_some_iff.1 h1).1
  rw [List.getD_eq_getElem?_getD, List.getElem?_append_left hl, h1]; rfl
theorem getD_grow2 (own : List OB) (ob : OB) (id : Nat) : (own ++ [ob]).getD id .gone = own.getD id .gone ∨ (own.getD id .gone = .gone ∧ (own ++ [ob]).getD id .gone = ob) := by
  rcases Nat.lt_trichotomy id own.length with h | h | h
  · left; rw [List.getD_eq_getElem?_getD, List.getElem?_append_left h, List.getD_eq_getElem?_getD]
  · right
    subst h
    simp [List.getD_eq_getElem?_getD]
  · left
    rw [List.getD_eq_getElem?_getD, List.getElem?_eq_none (by simp; omega), List.getD_eq_getElem?_getD, List.getElem?_eq_none (by omega)]
theorem res_grow {own : List OB} {ob : OB} (hf : ob.isFro = false) (x : SV) : x.res (own ++ [ob]) = x.res own := by
  cases x
  case row id =>
    rcases getD_grow2 own ob id with h | ⟨h1, h2⟩
    · simp only [SV.res, h]
    · simp only [SV.res, h1, h2]
      cases ob <;> first | rfl | (cases hf)
  case ptr id off =>
    rcases getD_grow2 own ob id with h | ⟨h1, h2⟩
    · simp only [SV.res, h]
    · simp only [SV.res, h1, h2]
      cases ob <;> first | rfl | (cases hf)
  all_goals rfl
mutual
theorem pvS_grow {own : List OB} {ob : OB} : ∀ (x : SV) {y : PV}, x.pvS own = some y → x.pvS (own ++ [ob]) = some y
  | .p x, y, h => h
  | .row id, y, h => by
    simp only [SV.pvS] at h ⊢
    split at h
    · rename_i x e; rw [getD_grow e (by simp)]; exact h
    · cases h
  | .ptr id off, y, h => by
    simp only [SV.pvS] at h ⊢
    split at h
    · rename_i cs e; rw [getD_grow e (by simp)]; exact h
    · cases h
  | .agg cs, y, h => by
    simp only [SV.pvS, Option.map_eq_some_iff] at h ⊢
    obtain ⟨ys, e, rfl⟩ := h
    exact ⟨ys, pvSL_grow cs e, rfl⟩
  | .tup cs, y, h => by
    simp only [SV.pvS, Option.map_eq_some_iff] at h ⊢
    obtain ⟨ys, e, rfl⟩ := h
    exact ⟨ys, pvSL_grow cs e, rfl⟩
  | .fn f cs, y, h => by
    simp only [SV.pvS, Option.map_eq_some_iff] at h ⊢
    obtain ⟨ys, e, rfl⟩ := h
    exact ⟨ys, pvSL_grow cs e, rfl⟩
  | .rptr .., _, h => by cases h
  | .mp .., _, h => by cases h
  | .cnd .., _, h => by cases h
  | .any, _, h => by cases h
theorem pvSL_grow {own : List OB} {ob : OB} : ∀ (x : List SV) {y : List PV}, SV.pvSL own x = some y → SV.pvSL (own ++ [ob]) x = some y
  | [], y, h => h
  | x :: xs, y, h => by
    simp only [SV.pvSL] at h
    split at h
    · rename_i a b e1 e2
      cases h
      simp only [SV.pvSL, pvS_grow x e1, pvSL_grow xs e2]
    · cases h
end
theorem isSl_grow {own : List OB} {ob : OB} {x : SV} {b : Bool} (h : x.isSl own = some b) : x.isSl (own ++ [ob]) = some b := by
  cases x <;> simp only [SV.isSl] at h ⊢ <;> first | exact h | skip
  rename_i id
  cases e : own.getD id .gone <;> rw [e] at h <;> simp only [OB.isNil] at h <;> first | (cases h; done) | (rw [getD_grow e (by simp)]; exact h)
theorem isNil_grow {own : List OB} {ob : OB} {x : SV} {b : Bool} (h : x.isNil own = some b) : x.isNil (own ++ [ob]) = some b := by
  cases x <;> simp only [SV.isNil] at h ⊢ <;> first | exact h | skip
  rename_i id
  cases e : own.getD id .gone <;> rw [e] at h <;> simp only [OB.isNil] at h <;> first | (cases h; done) | (rw [getD_grow e (by simp)]; exact h)
theorem see_grow {own : List OB} {ob : OB} {x : SV} {b : PV} (h : x.see own = some b) : x.see (own ++ [ob]) = some b := by
  cases x <;> simp only [SV.see] at h ⊢ <;> first | exact h | skip
  rename_i id
  cases e : own.getD id .gone <;> rw [e] at h <;> simp only [OB.pv] at h <;> first | (cases h; done) | (rw [getD_grow e (by simp)]; exact h)
theorem ld_grow {own : List OB} {ob : OB} {x : SV} {agg : Bool} {n : Nat} (h : (x.ld own agg n).1) : x.ld (own ++ [ob]) agg n = x.ld own agg n := by
  cases x <;> first | rfl | skip
  case ptr id off =>
    simp only [SV.ld] at h ⊢
    cases e : own.getD id .gone <;> rw [e] at h <;> first | exact h.elim | (rw [getD_grow e (by simp)])
  case rptr id w i o =>
    simp only [SV.ld] at h ⊢
    cases e : own.getD id .gone <;> rw [e] at h <;> first | exact h.elim | (rw [getD_grow e (by simp)])
theorem pev_grow {own : List OB} {ob : OB} {e : Opd → SV} {io : Ins} (h : (pev own e io).1) : pev (own ++ [ob]) e io = pev own e io := by
  cases io <;> first | rfl | skip
  case ld agg n a => exact ld_grow h
  case eqNil neg x y =>
    simp only [pev] at h ⊢
    split at h
    · rename_i e1 e2
      rw [isSl_grow e1, isSl_grow e2]
    · exact h.elim
  case eqAgg neg ks x y =>
    simp only [pev] at h ⊢
    split at h
    · rename_i e1 e2
      rw [pvS_grow _ e1, pvS_grow _ e2]
    · exact h.elim
  case cvtBS x =>
    simp only [pev] at h ⊢
    split at h
    · rename_i e1
      rw [see_grow e1]
    · exact h.elim
  case ixA w x i =>
    simp only [pev] at h ⊢
    split at h
    · rename_i e1 e2; try rfl
    · rename_i e1 e2; try rfl
    · rename_i id k n e1 e2
      try simp only [e1, e2]
      cases e3 : own.getD id .gone <;> rw [e3] at h <;> first | exact h.elim | (rw [getD_grow e3 (by simp)])
    · exact h.elim
  case len x =>
    simp only [pev] at h ⊢
    split at h
    · rename_i e1; try rfl
    · rename_i e1; try rfl
    · rename_i e1; try rfl
    · rename_i id e1
      try simp only [e1]
      cases e3 : own.getD id .gone <;> rw [e3] at h <;> first | exact h.elim | (rw [getD_grow e3 (by simp)])
    · exact h.elim
  case nilchk x =>
    simp only [pev] at h ⊢
    split at h
    · rename_i e1
      rw [isNil_grow e1]
    · exact h.elim
theorem ids_none {own : List OB} {ob : OB} {x : SV} (h : SV.ids own x = []) : SV.ids (own ++ [ob]) x = [] := by
  cases x <;> first | exact h | skip
  case ptr id off => simp [SV.ids] at h
  case fn f cs =>
    simp only [SV.ids, List.flatMap_eq_nil_iff] at h ⊢
    intro c hc
    have := h c hc
    cases c <;> first | rfl | (simp [SV.ids1] at this)
/-- What an operation that keeps the own things has come to: with one more own thing too. -/
def mov (io : Ins) : Bool := io.calm || (match io with
  | .pick .. | .call .. => true
  | _ => false)
theorem evS_grow {G : Glob} {t : List SV} {own : List OB} {ob : OB} (hf : ob.isFro = false) (y : Opd) : evS G ⟨t, own ++ [ob]⟩ y = evS G ⟨t, own⟩ y := by
  cases y <;> first | rfl | exact res_grow hf _
theorem callVC_grow {P : Program} {G : Glob} {act : Bool} {own : List OB} {ob : OB} {e : Opd → SV} {c : Opd} {args : List Opd} {f : SV → SV} {x : SV} (hn : ((c :: args).flatMap fun y => SV.ids own (e y)) = [])
    (h : callVC P G act own e c args fun y own' => f y = x ∧ own' = own) : callVC P G act (own ++ [ob]) e c args fun y own' => f y = x ∧ own' = own ++ [ob] := by
  have hn2 : ((c :: args).flatMap fun y => SV.ids (own ++ [ob]) (e y)) = [] := by
    rw [List.flatMap_eq_nil_iff] at hn ⊢
    exact fun y hy => ids_none (hn y hy)
  unfold callVC at h ⊢
  rw [hn] at h
  rw [hn2]
  simp only [fzL, List.foldl_nil] at h ⊢
  split at h
  · rename_i g caps as e1 e2
    obtain ⟨r, h1, h2, _⟩ := h
    rw [pvS_grow _ e1, pvSL_grow _ e2]
    exact ⟨r, h1, h2, by split <;> rfl⟩
  · exact h.elim
theorem vcRun_grow {P : Program} {G : Glob} {own : List OB} {ob : OB} {raw : Opd → SV} {io : Ins} {x : SV} (hm : mov io = true) (hn : noIds own (fun y => (raw y).strip) io) (h : vcRun P G own raw io fun y own' => y = x ∧ own' = own) :
    vcRun P G (own ++ [ob]) raw io fun y own' => y = x ∧ own' = own ++ [ob] := by
  unfold vcRun at h ⊢
  obtain ⟨h0, h⟩ := h
  refine ⟨h0, ?_⟩
  cases io
  case pick c a b =>
    dsimp only at h ⊢
    split at h
    · exact ⟨h.1, h.2.1, h.2.2.1, rfl⟩
    · exact h.elim
  case call c args => exact callVC_grow (f := id) hn h
  all_goals first
    | (simp [mov, Ins.calm] at hm; done)
    | (simp only [Ins.calm, if_true] at h ⊢
       rw [pev_grow h.1]
       exact ⟨h.1, h.2.1, trivial⟩)
theorem vcVal_grow {P : Program} {G : Glob} {S : St} {ob : OB} {o : IOp} {x : SV} (hf : ob.isFro = false) (hg : o.guard = none) (hm : mov o.io = true) (hn : noIds S.own (fun y => (evS G S y).strip) o.io)
    (h : vcVal P G S o fun y own' => y = x ∧ own' = S.own) : vcVal P G ⟨S.t, S.own ++ [ob]⟩ o fun y own' => y = x ∧ own' = S.own ++ [ob] := by
  unfold vcVal at h ⊢
  rw [hg] at h ⊢
  dsimp only at h ⊢
  have : evS G ⟨S.t, S.own ++ [ob]⟩ = evS G S := by funext y; exact evS_grow hf y
  rw [this]
  exact vcRun_grow hm hn h
theorem grows_cases : ∀ {a b : List OB}, growsP a b → b = a ∨ ∃ ob, ob.isFro = false ∧ b = a ++ [ob]
  | [], [], _ => .inl rfl
  | [], [ob], h => .inr ⟨ob, h, rfl⟩
  | [], _ :: _ :: _, h => h.elim
  | _ :: _, [], h => h.elim
  | x :: a, y :: b, ⟨e, h⟩ => by
    subst e
    rcases grows_cases h with rfl | ⟨ob, h1, rfl⟩
    · exact .inl rfl
    · exact .inr ⟨ob, h1, rfl⟩
theorem noIds_agree {own : List OB} {f g : Opd → SV} {io : Ins} (h : ∀ y ∈ io.all, f y = g y) : noIds own f io → noIds own g io := by
  cases io <;> first | exact fun x => x | skip
  case call c args =>
    intro hn
    have h1 : ((c :: args).flatMap fun x => SV.ids own (f x)) = ((c :: args).flatMap fun x => SV.ids own (g x)) := by
      rw [List.flatMap_def, List.flatMap_def, map_agree (l := c :: args) (f := fun x => SV.ids own (f x)) (g := fun x => SV.ids own (g x)) fun y hy => by rw [h y hy]]
    exact h1.symm.trans hn
theorem noIds_put {G : Glob} {S : St} {o : IOp} {d : Option Nat} {z : SV} {own3 : List OB} (hap : ∀ i, d = some i → i ∉ o.slots) (hown : own3 = S.own ∨ ∃ ob, ob.isFro = false ∧ own3 = S.own ++ [ob])
    (hn : noIds S.own (fun y => (evS G S y).strip) o.io) : noIds own3 (fun y => (evS G (S.put d z own3) y).strip) o.io := by
  have h1 : ∀ y ∈ o.io.all, evS G S y = evS G (S.put d z own3) y := fun y hy => by
    have h2 : evS G (S.put d z own3) y = evS G ⟨S.t, own3⟩ y := evS_agree (S := S.put d z own3) (S' := ⟨S.t, own3⟩) (by rfl) fun t ht => put_get (own := own3) (S := ⟨S.t, own3⟩) fun i hd e => hap i hd (e ▸ by
      simp only [IOp.slots, List.mem_append, List.mem_flatMap]
      exact .inl ⟨y, hy, ht⟩)
    rw [h2]
    rcases hown with rfl | ⟨ob, hf, rfl⟩
    · rfl
    · rw [evS_grow hf]
  have h3 := noIds_agree (own := own3) (f := fun y => (evS G S y).strip) (g := fun y => (evS G (S.put d z own3) y).strip) (io := o.io) (fun y hy => by rw [h1 y hy])
  apply h3
  rcases hown with rfl | ⟨ob, hf, rfl⟩
  · exact hn
  · cases hio : o.io <;> rw [hio] at hn <;> first | trivial | skip
    rename_i c args
    simp only [noIds, List.flatMap_eq_nil_iff] at hn ⊢
    exact fun y hy => ids_none (hn y hy)
/-- Whether the i-th operation may come ahead of the j-th one. -/
def aheadI (ops : Array Oper) (oi oj : IOp) (i j : Nat) : Bool :=
  (oi.io.kind == 0 && apartI oi oj && (oj.io.kind == 0 || (oj.io.kind == 1 && mov oi.io && oi.guard.isNone))) || depT ops ops.size j i
theorem vcAny_first {P : Program} {G : Glob} {ops : Array Oper} {is : List IOp} {K : St → Prop} {i : Nat} {oi : IOp} {x : SV} (hi : is[i]? = some oi) (ap : Bool) (hapq : ap = IOp.apps is) :
    ∀ (fuel : Nat) (listed : Array Bool) (S : St) (own2 : List OB), Closed ops listed →
      (∀ (j : Nat) (oj : IOp) (opj : Oper), is[j]? = some oj → ops[j]? = some opj → j ≠ i → listed.getD j true = false → aheadI ops oi oj i j = true) →
      i ∈ Region.ready .any ops listed → (ap = true → noIds S.own (fun y => (evS G S y).strip) oi.io) → okOwn oi.io.kind S.own own2 → vcVal P G S oi (fun y own' => y = x ∧ own' = own2) →
      vcAny P G ops is K fuel (listed.setIfInBounds i true) (S.put oi.dst x own2) → vcAny P G ops is K (fuel + 1) listed S := by
  intro fuel
  induction fuel with
  | zero =>
    intro listed S own2 hcl hfree hr hn hok hy H
    refine ⟨fun h => (by rw [h] at hr; cases hr), fun j hj o ho => ?_⟩
    by_cases hji : j = i
    · subst hji; rw [hi] at ho; cases ho; exact vcVal_mono hy ⟨hok, H⟩
    · have := ready_mono hj hji
      rw [H.1] at this
      cases this
  | succ fuel ih =>
    intro listed S own2 hcl hfree hr hn hok hy H
    refine ⟨fun h => (by rw [h] at hr; cases hr), fun j hj o ho => ?_⟩
    by_cases hji : j = i
    · subst hji; rw [hi] at ho; cases ho; exact vcVal_mono hy ⟨hok, H⟩
    · have h1 := H.2 j (ready_mono hj hji) o ho
      obtain ⟨hjun, opj, hopj, hall⟩ := mem_ready.1 hj
      have hah := hfree j o opj ho hopj hji hjun
      simp only [aheadI, Bool.or_eq_true, Bool.and_eq_true, beq_iff_eq] at hah
      rcases hah with ⟨⟨hk0, hap⟩, hkj⟩ | hd
      rotate_left
      · exact (unlisted_ne (mem_ready.1 hr).1 (depT_listed hcl _ _ _ hd fun o' ho' e he hb => by rw [hopj] at ho'; cases ho'; exact hall e he hb)).elim
      have hap := apartI_spec hap
      rw [hk0] at hok
      have hok : own2 = S.own := hok
      subst hok
      rw [vcVal_agree (S := S.put oi.dst x S.own) (S' := S) rfl fun t ht => put_get fun d hd e => hap.1 d hd (e ▸ ht)] at h1
      obtain ⟨z, own3, ⟨h2a, h2b⟩, h3⟩ := vcVal_take h1
      have h2a : okOwn o.io.kind S.own own3 := h2a
      refine vcVal_mono h3 ⟨h2a, ?_⟩
      have hown3 : own3 = S.own ∨ (∃ ob, ob.isFro = false ∧ own3 = S.own ++ [ob]) ∧ mov oi.io = true ∧ oi.guard = none ∧ ap = true := by
        rcases hkj with hkj | ⟨⟨hkj, hmv⟩, hgd⟩
        · rw [hkj] at h2a; exact .inl h2a
        · rw [hkj] at h2a
          rcases grows_cases h2a with h | h
          · exact .inl h
          · refine .inr ⟨h, hmv, by simpa using hgd, ?_⟩
            rw [hapq]
            simp only [IOp.apps, List.any_eq_true, beq_iff_eq]
            exact ⟨o, List.mem_of_getElem? ho, hkj⟩
      have hown3' : own3 = S.own ∨ ∃ ob, ob.isFro = false ∧ own3 = S.own ++ [ob] := by
        rcases hown3 with h | h
        · exact .inl h
        · exact .inr h.1
      have hfree' : ∀ (k : Nat) (ok : IOp) (opk : Oper), is[k]? = some ok → ops[k]? = some opk → k ≠ i → (listed.setIfInBounds j true).getD k true = false → aheadI ops oi ok i k = true := fun k ok opk hk hk' hki hun => by
        refine hfree k ok opk hk hk' hki ?_
        by_cases hjk : j = k
        · subst hjk; exact hjun
        · rw [getD_set_ne true hjk] at hun; exact hun
      refine ih (listed.setIfInBounds j true) (S.put o.dst z own3) own3 (hcl.set hj) hfree' (ready_mono hr (Ne.symm hji)) (fun ha => noIds_put hap.2.2 hown3' (hn ha)) (by rw [hk0]; rfl) ?_ ?_
      · have hbase : vcVal P G ⟨S.t, own3⟩ oi (fun y own' => y = x ∧ own' = own3) := by
          rcases hown3 with rfl | ⟨⟨ob, hf, rfl⟩, hmv, hgd, ha⟩
          · exact hy
          · exact vcVal_grow hf hgd hmv (hn ha) hy
        rw [vcVal_agree (S := S.put o.dst z own3) (S' := ⟨S.t, own3⟩) rfl fun t ht => put_get (S := ⟨S.t, own3⟩) (own := own3) fun d hd e => hap.2.2 d hd (e ▸ ht)]
        exact hbase
      · rw [Array.setIfInBounds_comm _ _ hji, put_comm' (a := own3) (b := own3) (c := S.own) (d := o.dst) (e := oi.dst) (fun i' hd hc => hap.2.1 i' hc hd)]
        exact h2b
def freeI (ops : Array Oper) (is : List IOp) (listed : Array Bool) (i : Nat) : Bool :=
  match is[i]? with
  | none => false
  | some oi => (List.range ops.size).all fun j => j == i || listed.getD j true || match is[j]?, ops[j]? with
      | some oj, some opj => aheadI ops oi oj i j
      | _, _ => true
def lexI (ops : Array Oper) (is : List IOp) : Nat → Nat → Array Bool → Bool
  | 0, _, listed => (Region.ready .any ops listed).isEmpty
  | fuel + 1, k, listed => (Region.ready .any ops listed).contains k && freeI ops is listed k && lexI ops is fuel (k + 1) (listed.setIfInBounds k true)
/-- What an order tree begins with. -/
def OT.heads : OT → List Nat
  | .alt i _ r => i :: r.heads
  | .one i _ => [i]
  | .done | .no => []
def OT.paths : OT → List (List Nat)
  | .done => [[]]
  | .no => []
  | .one i t => t.paths.map (i :: ·)
  | .alt i t r => t.paths.map (i :: ·) ++ r.paths
def OT.cnt : OT → Nat
  | .done => 1
  | .no => 0
  | .one _ t => t.cnt
  | .alt _ t r => t.cnt + r.cnt
/-- Whether a tree has all orders; 'm': behind the first of several. -/
def okT (ops : Array Oper) (is : List IOp) : OT → Bool → Nat → Array Bool → Bool
  | .done, m, _, listed => !m && (Region.ready .any ops listed).isEmpty
  | .no, m, _, _ => m
  | .one i t, m, fuel, listed => match fuel with
    | 0 => false
    | f + 1 => !m && ((Region.ready .any ops listed).contains i && freeI ops is listed i && okT ops is t false f (listed.setIfInBounds i true))
  | .alt i t r, m, fuel, listed => match fuel with
    | 0 => false
    | f + 1 => (m || (!(Region.ready .any ops listed).isEmpty && (Region.ready .any ops listed).all fun k => (OT.alt i t r).heads.contains k)) && (okT ops is t false f (listed.setIfInBounds i true) && okT ops is r true (f + 1) listed)
def mkT (ops : Array Oper) (is : List IOp) : Nat → Array Bool → OT
  | 0, _ => .done
  | f + 1, listed => match (Region.ready .any ops listed).find? fun k => freeI ops is listed k with
    | some k => .one k (mkT ops is f (listed.setIfInBounds k true))
    | none => match Region.ready .any ops listed with
      | [] => .done
      | x :: l => if 7 < ((List.range is.length).filter fun k => !listed.getD k true).length then .no else (x :: l).foldr (fun k r => .alt k (mkT ops is f (listed.setIfInBounds k true)) r) .no
theorem vcAny_lex {P : Program} {G : Glob} {ops : Array Oper} {is : List IOp} {K : St → Prop} : ∀ (l : List IOp) (k : Nat) (listed : Array Bool) (S : St), (∀ j : Nat, l[j]? = is[k + j]?) → Closed ops listed →
    lexI ops is l.length k listed = true → vcDraw P G (IOp.apps is) l S K → vcAny P G ops is K l.length listed S
  | [], _, _, _, _, _, hB, h => ⟨by simpa [lexI] using hB, h⟩
  | o :: l, k, listed, S, hl, hcl, hB, h => by
    have h0 : is[k]? = some o := by simpa using (hl 0).symm
    simp only [List.length_cons, lexI, Bool.and_eq_true] at hB
    obtain ⟨⟨hr, hf⟩, hB'⟩ := hB
    obtain ⟨hn, h⟩ := h
    obtain ⟨x, own2, ⟨h1a, h1b⟩, h2⟩ := vcVal_take h
    have hr' : k ∈ Region.ready .any ops listed := by simpa using hr
    refine vcAny_first h0 (IOp.apps is) rfl l.length listed S own2 hcl (fun j oj opj hj hj' hne hun => ?_) hr' hn h1a h2
      (vcAny_lex l (k + 1) _ _ (fun j => by have := hl (j + 1); simpa [Nat.add_assoc, Nat.add_comm 1 j] using this) (hcl.set hr') hB' h1b)
    simp only [freeI, h0, List.all_eq_true, List.mem_range] at hf
    have h3 := hf j (Array.getElem?_eq_some_iff.1 hj').1
    simp only [hj, hj', Bool.or_eq_true, beq_iff_eq, hne, false_or, hun, Bool.false_eq_true] at h3
    exact h3
/-- **Whatever order: the walk.** -/
theorem vcAny_sound {P : Program} {B : Base} {G : Glob} {D : List Deferred} {r : Option Nat} {ops : Array Oper} {is : List IOp} {K : St → Prop} {Q : Exit → Act → World → Prop}
    (hc : ∀ (i : Nat) o, ops[i]? = some o → ∃ io, is[i]? = some io ∧ CompOp P ops o io)
    (hn : ∀ S' ρ' h' a' w', K S' → Rel B G D ρ' h' S' a' w' → Q .normal a' w') :
    ∀ (fuel t : Nat) (listed : Array Bool) {ρ : Env} {h : Heap} {S : St} {w : World} {a : Act}, Rel B G D ρ h S a w → vcAny P G ops is K fuel listed S →
      wpOpsIn (FR r) 0 P ops Q (Region.linearise.go .any ops fuel t listed []) a w := by
  intro fuel
  induction fuel with
  | zero => intro t listed ρ h S w a rl hp; simpa [Region.linearise.go, wpOpsIn] using hn S ρ h a w hp.2 rl
  | succ fuel ih =>
    intro t listed ρ h S w a rl hp
    obtain ⟨h₀, h₁⟩ := hp
    simp only [Region.linearise.go]
    change wpOpsIn (FR r) 0 P ops Q (match (Region.ready .any ops listed)[t % (Region.ready .any ops listed).length]? with
      | some i => Region.linearise.go .any ops fuel (t / (Region.ready .any ops listed).length) (listed.setIfInBounds i true) [i]
      | none => [].reverse) a w
    cases hi : (Region.ready .any ops listed)[t % (Region.ready .any ops listed).length]? with
    | none =>
      have hnil : Region.ready .any ops listed = [] := by
        cases hr : Region.ready .any ops listed with
        | nil => rfl
        | cons x xs =>
          rw [hr] at hi
          have hlt : t % (x :: xs).length < (x :: xs).length := Nat.mod_lt _ (by simp)
          simp at hi
          simp at hlt
          omega
      simpa [wpOpsIn] using hn S ρ h a w (h₀ hnil) rl
    | some i =>
      dsimp only
      rw [linearise_go_acc, List.reverse_singleton, List.singleton_append]
      have hmem : i ∈ Region.ready .any ops listed := List.mem_of_getElem? hi
      obtain ⟨_, o, ho, _⟩ := mem_ready.1 hmem
      obtain ⟨io, hio, hco⟩ := hc i o ho
      have h2 := h₁ i hmem io hio
      simp only [wpOpsIn, ho]
      have := vcOp_sound (ops := ops) (r := r) (Q := Q) (K := fun S' => vcAny P G ops is K fuel (listed.setIfInBounds i true) S')
        (next := wpOpsIn (FR r) 0 P ops Q (Region.linearise.go .any ops fuel (t / (Region.ready .any ops listed).length) (listed.setIfInBounds i true) [])) rl hco (by
          obtain ⟨x, own2, ⟨h3a, h3b⟩, h4⟩ := vcVal_take h2
          unfold vcOp
          exact vcVal_mono h4 h3b) fun S' ρ' h' a' w' hK rl' _ _ => ih _ _ rl' hK
      unfold opIn at this
      split
      · rename_i hw; rw [if_pos hw] at this; exact this
      · rename_i hw; rw [if_neg hw] at this; exact ⟨fun _ _ => trivial, this⟩
end Go.Fx
