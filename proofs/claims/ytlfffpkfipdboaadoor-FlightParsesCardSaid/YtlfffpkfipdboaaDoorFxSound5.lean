/-
  Fx, part 10: one operation, whatever it is; guards; calls.
-/
import Derived.Test.YtlfffpkfipdboaaDoorFxSound4
import Derived.Lib.OthersKept
import Derived.Laws.RangeString
set_option linter.unusedSimpArgs false
set_option linter.unusedVariables false
namespace Go.Fx
abbrev FR (r : Option Nat) : Fence := { fn := fun _ => True, depth := none, alive := false, round := r }
theorem Comp.noDefer {P : Program} {op : Op} {io : Ins} (h : Comp P op io) (c : Call) : op ≠ .defer c := by
  cases h <;> intro e <;> first | (cases e; done) | skip
  all_goals (rename_i neg; cases neg <;> cases e)
mutual
theorem PV.flat_rel {h h' : Heap} : ∀ (x : PV) (v : Value), x.flat = true → x.rel h v → x.rel h' v
  | .int .., _, _, e => e
  | .bool _, _, _, e => e
  | .str _, _, _, e => e
  | .nilSl, _, _, e => e
  | .nilFn, _, _, e => e
  | .nilIface, _, _, e => e
  | .nilPtr, _, _, e => e
  | .nilMap, _, _, e => e
  | .agg cs, _, f, ⟨vs, e, h1⟩ => ⟨vs, e, PV.flatL_rel cs vs f h1⟩
  | .tup cs, _, f, ⟨vs, e, h1⟩ => ⟨vs, e, PV.flatL_rel cs vs f h1⟩
  | .fn _ cs, _, f, ⟨vs, e, h1⟩ => ⟨vs, e, PV.flatL_rel cs vs f h1⟩
  | .isl .., _, f, _ => by cases f
  | .sl .., _, f, _ => by cases f
  | .iref .., _, f, _ => by cases f
  | .elt .., _, f, _ => by cases f
  | .ref .., _, f, _ => by cases f
  | .ifc .., _, f, _ => by cases f
theorem PV.flatL_rel {h h' : Heap} : ∀ (x : List PV) (v : List Value), PV.flatL x = true → PV.relL h x v → PV.relL h' x v
  | [], _, _, e => e
  | x :: xs, _, f, ⟨v, vs', e, h1, h2⟩ => by
    simp only [PV.flatL, Bool.and_eq_true] at f
    exact ⟨v, vs', e, PV.flat_rel x v f.1 h1, PV.flatL_rel xs vs' f.2 h2⟩
end
theorem callsIn_fr {P : Program} {r : Option Nat} {f : FuncId} {args : Array Value} {w : World} {R : Ending → World → Prop} {n : Nat} (h : Calls P f args w R) : CallsIn (FR r) n P f args w R := by
  have h1 : CallsIn Fence.wide n P f args w R := callsIn_wide.2 h
  exact h1
theorem calleeOk_run {P : Program} {f : FuncId} (h : calleeOk P f = true) (args : Array Value) (w : World) : (callFunc f args).run P w = .ok (.enter f args) w := by
  unfold calleeOk at h
  split at h
  · rename_i fn e
    simp only [Bool.and_eq_true, Bool.not_eq_true', beq_eq_false_iff_ne, ne_eq] at h
    obtain ⟨c, hb⟩ := Option.isSome_iff_exists.1 h.2
    simp [callFunc, program, Sem.run, e, h.1, hb]
  · cases h
theorem call_run {P : Program} {dst type pos after guard} {a : Act} {f : Operand} {args : Array Operand} {ats : Array TypeId} {g : FuncId} {caps : List Value} (w : World)
    (hf : a.eval f = .func (.func g) #[] caps.toArray) (ho : calleeOk P g = true) :
    (execOp a.eval ⟨dst, .call { callee := .value f, args, argTypes := ats }, type, pos, after, guard⟩).run P w = .ok (.enter g ((args.toList.map a.eval) ++ caps).toArray) w := by
  simp only [execOp, resolve, hf, Deferred.ofValue, Sem.run_bind, Sem.run_pure, Result.andThen_ok, invoke, calleeOk_run ho]
  congr 2
  apply Array.ext'
  simp
theorem Sat.called {B : Base} {ρ : Env} {h : Heap} {own : List OB} {w w' : World} (s : Sat B ρ h own w) (hz : w.heap.size ≤ w'.heap.size) (hk : (∀ b : Nat, b < w.heap.size → w'.heap[b]? = w.heap[b]?) ∧ Out w w') :
    Sat B ρ (grow h w w') own w' :=
  s.grown hz hk.1 (fun b hb => by simp [grow, hb]) (fun b o e => by
    simp only [grow] at e
    split at e
    · rename_i hb
      rw [hk.1 b hb]; exact s.sub b o e
    · exact e) hk.2
/-- What behind an operation is asked. -/
def Next' (B : Base) (ρ : Env) (h : Heap) (K : SV → List OB → Prop) (a : Act) (dst : Option Tmp) (next : Act → World → Prop) : Prop :=
  ∀ v w', Goes B ρ h K v w' → next (a.put dst v) w'
theorem callVC_sound {P : Program} {G : Glob} {B : Base} {ρ : Env} {h : Heap} {own : List OB} {w : World} (s : Sat B ρ h own w) (hG : GlobOk G h) {r : Option Nat} {dst type pos after guard} {f : Operand} {args : Array Operand} {ats : Array TypeId}
    {f' : Opd} {args' : List Opd} (hf : OpdOk f f') (hargs : OpdsOk args.toList args') {a : Act} {e : Opd → SV} (he : ∀ x y, OpdOk x y → y ∈ f' :: args' → (e y).rel ρ h (a.eval x))
    {K : SV → List OB → Prop} (hp : callVC P G true own e f' args' K) {next : Act → World → Prop} {Q : Exit → Act → World → Prop} (hn : Next' B ρ h K a dst next) :
    (Oper.mk dst (.call { callee := .value f, args, argTypes := ats }) type pos after guard).uponIn (FR r) 0 P a next Q
      ((execOp a.eval ⟨dst, .call { callee := .value f, args, argTypes := ats }, type, pos, after, guard⟩).run P w) := by
  unfold callVC at hp
  dsimp only at hp
  obtain ⟨h1, l1, s1⟩ := fzL_sat ((f' :: args').flatMap fun x => SV.ids own (e x)) s
  generalize fzL own ((f' :: args').flatMap fun x => SV.ids own (e x)) = own' at hp s1
  split at hp
  · rename_i g caps as e1 e2
    obtain ⟨x, hx, hK⟩ := hp
    obtain ⟨hok, hcall⟩ := hx rfl
    have gf := SV.pvS_rel s1 _ _ _ e1 (SV.rel_mono (Env.le_refl _) l1 _ _ (he _ _ hf (List.mem_cons_self ..)))
    have ga := SV.pvSL_rel s1 _ _ _ e2 (SV.relL_mono (Env.le_refl _) l1 _ _ (OpdsOk.rel (ρ := ρ) (h := h) (e := e) (ev := a.eval) hargs fun x y a b => he x y a (List.mem_cons_of_mem _ b)))
    obtain ⟨cv, gf1, gf2⟩ := gf
    rw [call_run w gf1 hok, Oper.uponIn_enter]
    refine ⟨(fun hh => by cases hh), callsIn_fr ((hcall w h1 _ s1.sub (fun g x e => ⟨PV.rel_mono l1 _ _ (hG g x e).1, tabOk_mono l1 (hG g x e).2⟩) (relL_append ga gf2)).mono fun en w' hen => ?_)⟩
    obtain ⟨v, rfl, hv, hz, hk⟩ := hen
    refine hn v w' ?_
    by_cases hfl : x.flat = true
    · rw [if_pos hfl] at hK
      exact ⟨.p x, _, ρ, grow h w w', hK, PV.flat_rel x v hfl hv, s.called hz hk, Env.le_refl _, le_grow s.sub w'⟩
    · rw [if_neg hfl] at hK
      exact ⟨.p x, _, ρ, grow h1 w w', hK, hv, s1.called hz hk, Env.le_refl _, Heap.le_trans l1 (le_grow s1.sub w')⟩
  · exact hp.elim
/-- A row that was handed on, and came back, or another one for it. -/
theorem Sat.rowed {B : Base} {ρ : Env} {h : Heap} {own : List OB} {w w' : World} (s : Sat B ρ h own w) {id : Nat} {ob ob' : OB} {v v' : Value} (hi : own[id]? = some ob) (hv : ρ[id]? = some v)
    (hz : w.heap.size ≤ w'.heap.size) (hk : ∀ b : Nat, b < w.heap.size → ob.fp v ≠ some b → w'.heap[b]? = w.heap[b]?) (eo : Out w w') (hs : ob'.sat (ρ ++ [v']) h w' v') (hf : ∀ b, ob'.fp v' = some b → ob.fp v = some b ∨ w.heap.size ≤ b) :
    Sat B (ρ ++ [v']) h (own.set id .gone ++ [ob']) w' := by
  have hgone : ∀ (u : Value) (b : Nat), OB.gone.fp u = some b → False := fun u b e => by cases u <;> cases e
  have hget : ∀ (i : Nat) ob1 (u : Value) (b : Nat), (own.set id .gone)[i]? = some ob1 → ob1.fp u = some b → i ≠ id ∧ own[i]? = some ob1 := fun i ob1 u b e f => by
    by_cases hid : i = id
    · subst hid
      rw [List.getElem?_set_self (List.getElem?_eq_some_iff.1 hi).1] at e
      cases e
      exact (hgone _ _ f).elim
    · rw [List.getElem?_set_ne (Ne.symm hid)] at e
      exact ⟨hid, e⟩
  have s1 : Sat B ρ h (own.set id .gone) w' := {
    len := by rw [List.length_set]; exact s.len
    sub := fun b o e => by
      have h1 := s.sub b o e
      rw [hk b (Array.getElem?_eq_some_iff.1 h1).1 (fun f => by rw [s.apart id ob v b hi hv f] at e; cases e)]
      exact h1
    ent := fun i ob1 v1 e1 e2 => by
      by_cases hid : i = id
      · subst hid
        rw [List.getElem?_set_self (List.getElem?_eq_some_iff.1 hi).1] at e1
        cases e1
        trivial
      · rw [List.getElem?_set_ne (Ne.symm hid)] at e1
        have h1 := s.ent i ob1 v1 e1 e2
        exact OB.sat_mono (Env.le_refl _) (Heap.le_refl _) h1 fun b hb => hk b (OB.fp_lt h1 hb) fun f => hid (s.nodup i id ob1 ob v1 v b e1 e2 hi hv hb f)
    nodup := fun i j ob1 ob2 v1 v2 b e1 e2 e3 e4 e5 e6 => s.nodup i j ob1 ob2 v1 v2 b (hget i ob1 v1 b e1 e5).2 e2 (hget j ob2 v2 b e3 e6).2 e4 e5 e6
    apart := fun i ob1 v1 b e1 e2 e3 => s.apart i ob1 v1 b (hget i ob1 v1 b e1 e3).2 e2 e3
    size := Nat.le_trans s.size hz
    keep := fun b h1 h2 => by
      rw [hk b (Nat.lt_of_lt_of_le h1 s.size) fun f => (s.mine id ob v b hi hv f).elim h2 fun h3 => by omega]
      exact s.keep b h1 h2
    old := s.old
    mine := fun i ob1 v1 b e1 e2 e3 => s.mine i ob1 v1 b (hget i ob1 v1 b e1 e3).2 e2 e3
    outer := s.outer.trans eo }
  refine s1.add hs fun b hb => ?_
  rcases hf b hb with f | f
  · refine ⟨fun i ob1 v1 e1 e2 e3 => ?_, s.apart id ob v b hi hv f, s.mine id ob v b hi hv f⟩
    have := hget i ob1 v1 b e1 e3
    exact this.1 (s.nodup i id ob1 ob v1 v b this.2 e2 hi hv e3 f)
  · refine ⟨fun i ob1 v1 e1 e2 e3 => ?_, ?_, .inr (Nat.le_trans s.size f)⟩
    · have h1 := OB.fp_lt (s.ent i ob1 v1 (hget i ob1 v1 b e1 e3).2 e2) e3
      omega
    · cases e : h b with
      | none => rfl
      | some o => have := (Array.getElem?_eq_some_iff.1 (s.sub b o e)).1; omega
theorem rowVC_sound {P : Program} {G : Glob} {B : Base} {ρ : Env} {h : Heap} {own : List OB} {w : World} (s : Sat B ρ h own w) (hG : GlobOk G h) {r : Option Nat} {dst type pos after guard} {f : Operand} {args : Array Operand} {ats : Array TypeId}
    {g : FuncId} {t : TypeId} {a' : Opd} {args' : List Opd} (hf : OpdOk f (.func g)) (hargs : OpdsOk args.toList (a' :: args')) {a : Act} {e : Opd → SV} (hfe : a.eval f = .func (.func g) #[] #[]) (he : ∀ x y, OpdOk x y → y ∈ a' :: args' → (e y).rel ρ h (a.eval x))
    {K : SV → List OB → Prop} (hp : rowVC P G own e g t a' args' K) {next : Act → World → Prop} {Q : Exit → Act → World → Prop} (hn : Next' B ρ h K a dst next) :
    (Oper.mk dst (.call { callee := .value f, args, argTypes := ats }) type pos after guard).uponIn (FR r) 0 P a next Q
      ((execOp a.eval ⟨dst, .call { callee := .value f, args, argTypes := ats }, type, pos, after, guard⟩).run P w) := by
  unfold rowVC at hp
  have hrel := OpdsOk.rel (ρ := ρ) (h := h) (e := e) (ev := a.eval) hargs fun x y a b => he x y a b
  rw [List.map_cons] at hrel
  obtain ⟨v, vs, e0, h1, h2⟩ := hrel
  split at hp
  · rename_i id e1
    split at hp
    · rename_i ty k nil ex l xs e2 e3
      obtain ⟨rfl, nil', l', ⟨hok, hcall⟩, hK⟩ := hp
      rw [e1] at h1
      obtain ⟨hv, hone⟩ := h1
      obtain ⟨hi, hsat⟩ := s.look hv e2 (by simp)
      have ga := SV.pvSL_rel s _ _ _ e3 h2
      have hrun := call_run (P := P) (dst := dst) (type := type) (pos := pos) (after := after) (guard := guard) (a := a) (f := f) (args := args) (ats := ats) (g := g) (caps := []) w (by rw [hfe]) hok
      rw [hrun, Oper.uponIn_enter, List.append_nil, e0]
      refine ⟨(fun hh => by cases hh), callsIn_fr ((hcall w h v vs s.sub hG hsat hone (fun b hb => s.apart id _ v b hi hv hb) ga).mono fun en w' hen => ?_)⟩
      obtain ⟨v', rfl, hs', hone', hfp, hz, hk, ho⟩ := hen
      have s' := s.rowed (ob' := .irow ty k nil' false l') (v' := v') hi hv hz hk ho hs' hfp
      exact hn v' w' ⟨.row own.length, _, ρ ++ [v'], h, hK, ⟨by rw [← s.len]; simp, hone'⟩, s', Env.le_snoc _ _, Heap.le_refl _⟩
    · exact hp.elim
  · rename_i nil ex k l e1
    split at hp
    · rename_i xs e3
      obtain ⟨rfl, nil', l', ⟨hok, hcall⟩, hK⟩ := hp
      rw [e1] at h1
      obtain ⟨ad, cap, rfl, q1, q2, q3, q4, _⟩ := h1
      obtain rfl : ad = none := q3.1 rfl
      obtain rfl := q4 rfl
      have ql : l.length = 0 := by omega
      rw [ql] at e0
      have ga := SV.pvSL_rel s _ _ _ e3 h2
      have hsat : (OB.irow t k true true []).sat [] h w (.slice none 0 0) := .inl ⟨rfl, rfl, rfl⟩
      have hrun := call_run (P := P) (dst := dst) (type := type) (pos := pos) (after := after) (guard := guard) (a := a) (f := f) (args := args) (ats := ats) (g := g) (caps := []) w (by rw [hfe]) hok
      rw [hrun, Oper.uponIn_enter, List.append_nil, e0]
      refine ⟨(fun hh => by cases hh), callsIn_fr ((hcall w h (.slice none 0 0) vs s.sub hG hsat rfl (fun b hb => by cases hb) ga).mono fun en w' hen => ?_)⟩
      obtain ⟨v', rfl, hs', hone', hfp, hz, hk, ho⟩ := hen
      have hb0 : ∀ b : Nat, b < w.heap.size → w'.heap[b]? = w.heap[b]? := fun b hb => hk b hb (fun f => by cases f)
      have s1 : Sat B ρ h own w' := s.grown hz hb0 (fun _ _ => rfl) (fun b o f => by
        have h0 := s.sub b o f
        rw [hb0 b (Array.getElem?_eq_some_iff.1 h0).1]; exact h0) ho
      have s2 : Sat B (ρ ++ [v']) h (own ++ [.irow t k nil' false l']) w' := s1.add hs' fun b hb => by
        have hlt : w.heap.size ≤ b := (hfp b hb).resolve_left (fun f => by cases f)
        refine ⟨fun i ob1 v1 f1 f2 f3 => ?_, ?_, .inr (Nat.le_trans s.size hlt)⟩
        · have := OB.fp_lt (s.ent i ob1 v1 f1 f2) f3; omega
        · cases f : h b with
          | none => rfl
          | some o => have := (Array.getElem?_eq_some_iff.1 (s.sub b o f)).1; omega
      exact hn v' w' ⟨.row own.length, _, ρ ++ [v'], h, hK, ⟨by rw [← s.len]; simp, hone'⟩, s2, Env.le_snoc _ _, Heap.le_refl _⟩
    · exact hp.elim
  · exact hp.elim
theorem newVC_sound {P : Program} {G : Glob} {B : Base} {ρ : Env} {h : Heap} {own : List OB} {w : World} (s : Sat B ρ h own w) (hG : GlobOk G h) {r : Option Nat} {dst type pos after guard} {f : Operand} {args : Array Operand} {ats : Array TypeId}
    {g : FuncId} {t : TypeId} {args' : List Opd} (hf : OpdOk f (.func g)) (hargs : OpdsOk args.toList args') {a : Act} {e : Opd → SV} (hfe : a.eval f = .func (.func g) #[] #[]) (he : ∀ x y, OpdOk x y → y ∈ args' → (e y).rel ρ h (a.eval x))
    {K : SV → List OB → Prop} (hp : newVC P G own e g t args' K) {next : Act → World → Prop} {Q : Exit → Act → World → Prop} (hn : Next' B ρ h K a dst next) :
    (Oper.mk dst (.call { callee := .value f, args, argTypes := ats }) type pos after guard).uponIn (FR r) 0 P a next Q
      ((execOp a.eval ⟨dst, .call { callee := .value f, args, argTypes := ats }, type, pos, after, guard⟩).run P w) := by
  unfold newVC at hp
  dsimp only at hp
  obtain ⟨h1, l1, s1⟩ := fzL_sat (args'.flatMap fun x => SV.ids own (e x)) s
  generalize fzL own (args'.flatMap fun x => SV.ids own (e x)) = own' at hp s1
  split at hp
  · rename_i xs e2
    obtain ⟨k, nil', l', rest, hfl, ⟨hok, hcall⟩, hK⟩ := hp
    have ga := SV.pvSL_rel s1 _ _ _ e2 (SV.relL_mono (Env.le_refl _) l1 _ _ (OpdsOk.rel (ρ := ρ) (h := h) (e := e) (ev := a.eval) hargs fun x y a b => he x y a b))
    have hrun := call_run (P := P) (dst := dst) (type := type) (pos := pos) (after := after) (guard := guard) (a := a) (f := f) (args := args) (ats := ats) (g := g) (caps := []) w (by rw [hfe]) hok
    rw [hrun, Oper.uponIn_enter, List.append_nil]
    refine ⟨(fun hh => by cases hh), callsIn_fr ((hcall w h1 _ s1.sub (fun g x e => ⟨PV.rel_mono l1 _ _ (hG g x e).1, tabOk_mono l1 (hG g x e).2⟩) ga).mono fun en w' hen => ?_)⟩
    obtain ⟨u, us, rfl, hs', hone', hfp, hrest, hz, hk, ho⟩ := hen
    have s2 : Sat B ρ h1 own' w' := s1.grown hz hk (fun _ _ => rfl) (fun b o f => by
      have h0 := s1.sub b o f
      rw [hk b (Array.getElem?_eq_some_iff.1 h0).1]; exact h0) ho
    have s3 : Sat B (ρ ++ [u]) h1 (own' ++ [.irow t k nil' false l']) w' := s2.add hs' fun b hb => by
      have hlt : w.heap.size ≤ b := hfp b hb
      refine ⟨fun i ob1 v1 f1 f2 f3 => ?_, ?_, .inr (Nat.le_trans s.size hlt)⟩
      · have := OB.fp_lt (s1.ent i ob1 v1 f1 f2) f3; omega
      · cases f : h1 b with
        | none => rfl
        | some o => have := (Array.getElem?_eq_some_iff.1 (s1.sub b o f)).1; omega
    exact hn _ w' ⟨_, _, ρ ++ [u], h1, hK, ⟨_, rfl, u, us, rfl, ⟨by rw [← s1.len]; simp, hone'⟩, SV.relL_p hrest⟩, s3, Env.le_snoc _ _, l1⟩
  · exact hp.elim
theorem method_run {P : Program} {t : TypeId} {i : TypeInfo} {name : String} {m : Method} {g : FuncId} (hi : P.info? t = some i) (hm : i.methods.find? (·.name == name) = some m) (hpath : m.path = #[]) (hfn : m.func = some (g, false))
    {d : TypeDesc} (hu : P.underlying t = some d) (hnp : ∀ e, d ≠ .pointer e) (n : Nat) (v : Value) (w : World) : (Go.method (n + 1) t v name).run P w = .ok (g, v) w := by
  simp only [Go.method, Sem.run_bind, run_typeInfo _ hi, Result.andThen_ok, hm, hpath, Array.toList_empty, Go.follow, Sem.run_pure, hfn, receiverAt, run_underlying hu]
  cases d <;> first | (exact absurd rfl (hnp _)) | (simp [Place.get]; done) | rfl
theorem invoke_run {P : Program} {dst type pos after guard} {a : Act} {r : Operand} {name : String} {args : Array Operand} {ats : Array TypeId} {t : TypeId} {i : TypeInfo} {m : Method} {g : FuncId} {v : Value} (w : World)
    (hr : a.eval r = .iface t v) (hi : P.info? t = some i) (hm : i.methods.find? (·.name == name) = some m) (hpath : m.path = #[]) (hfn : m.func = some (g, false)) {d : TypeDesc} (hu : P.underlying t = some d) (hnp : ∀ e, d ≠ .pointer e) (ho : calleeOk P g = true) :
    (execOp a.eval ⟨dst, .call { callee := .invoke r name, args, argTypes := ats }, type, pos, after, guard⟩).run P w = .ok (.enter g (v :: args.toList.map a.eval).toArray) w := by
  have hd : P.types.size + Made.depth = (P.types.size + 99) + 1 := rfl
  simp only [execOp, resolve, hr, Sem.run_bind, Sem.run_pure, Result.andThen_ok, invoke]
  have e0 : (#[Value.iface t v] ++ args.map a.eval)[0]? = some (.iface t v) := by
    rw [Array.getElem?_append_left (Nat.zero_lt_one)]; rfl
  have e1 : (#[Value.iface t v] ++ args.map a.eval).extract 1 (#[Value.iface t v] ++ args.map a.eval).size = args.map a.eval := by
    apply Array.ext'
    simp [List.take_of_length_le]
  rw [e0]
  simp only [callMethod, e1, Sem.run_bind, run_program, Result.andThen_ok, hd, method_run hi hm hpath hfn hu hnp, calleeOk_run ho]
  congr 2
  apply Array.ext'
  simp
theorem invVC_sound {P : Program} {G : Glob} {B : Base} {ρ : Env} {h : Heap} {own : List OB} {w : World} (s : Sat B ρ h own w) (hG : GlobOk G h) {r : Option Nat} {dst type pos after guard} {q : Operand} {name : String} {args : Array Operand} {ats : Array TypeId}
    {g : FuncId} {t : TypeId} {a' : Opd} {args' : List Opd} {i : TypeInfo} {m : Method} (hi : P.info? t = some i) (hm : i.methods.find? (·.name == name) = some m) (hpath : m.path = #[]) (hfn : m.func = some (g, false)) (hnp : ∃ d, P.underlying t = some d ∧ ∀ e, d ≠ .pointer e)
    (hr : OpdOk q a') (hargs : OpdsOk args.toList args') {a : Act} {e : Opd → SV} (he : ∀ x y, OpdOk x y → y ∈ a' :: args' → (e y).rel ρ h (a.eval x))
    {K : SV → List OB → Prop} (hp : invVC P G own e g t a' args' K) {next : Act → World → Prop} {Q : Exit → Act → World → Prop} (hn : Next' B ρ h K a dst next) :
    (Oper.mk dst (.call { callee := .invoke q name, args, argTypes := ats }) type pos after guard).uponIn (FR r) 0 P a next Q
      ((execOp a.eval ⟨dst, .call { callee := .invoke q name, args, argTypes := ats }, type, pos, after, guard⟩).run P w) := by
  unfold invVC at hp
  split at hp
  · rename_i t' x xs e1 e2
    obtain ⟨rfl, y, ⟨hok, hcall⟩, hK⟩ := hp
    obtain ⟨d, hu, hnp⟩ := hnp
    have gr := he _ _ hr (List.mem_cons_self ..)
    rw [e1] at gr
    obtain ⟨u, hu1, hu2⟩ := gr
    have ga := SV.pvSL_rel s _ _ _ e2 (OpdsOk.rel (ρ := ρ) (h := h) (e := e) (ev := a.eval) hargs fun x y a b => he x y a (List.mem_cons_of_mem _ b))
    rw [invoke_run w hu1 hi hm hpath hfn hu hnp hok, Oper.uponIn_enter]
    refine ⟨(fun hh => by cases hh), callsIn_fr ((hcall w h _ s.sub hG ⟨_, _, rfl, hu2, ga⟩).mono fun en w' hen => ?_)⟩
    obtain ⟨v, rfl, hv, hz, hk⟩ := hen
    exact hn v w' ⟨.p y, _, ρ, grow h w w', hK, hv, s.called hz hk, Env.le_refl _, le_grow s.sub w'⟩
  · exact hp.elim
theorem mix_rel {ρ : Env} {h : Heap} {t : Bool} {x y : SV} {v : Value} (h1 : t = true → x.rel ρ h v) (h2 : t = false → y.rel ρ h v) : (SV.mix t x y).rel ρ h v := by
  unfold SV.mix
  split
  · cases t
    · exact h2 rfl
    · exact h1 rfl
  · cases t
    · exact h2 rfl
    · exact h1 rfl
theorem Goes.here {B : Base} {ρ : Env} {h : Heap} {own : List OB} {w : World} (s : Sat B ρ h own w) {K : SV → List OB → Prop} {x : SV} {v : Value} (hK : K x own) (hx : x.rel ρ h v) : Goes B ρ h K v w :=
  ⟨x, own, ρ, h, hK, hx, s, Env.le_refl _, Heap.le_refl _⟩
theorem pick_run {P : Program} {dst type pos after guard} {a : Act} {c x y : Operand} {t : Bool} (w : World) (hc : a.eval c = .bool t) :
    (execOp a.eval ⟨dst, .pick c x y, type, pos, after, guard⟩).run P w = .ok (.value (if t then a.eval x else a.eval y)) w := by
  simp only [execOp, hc, asBool, Sem.run_bind, Sem.run_pure, Result.andThen_ok]
/-! ### The operations of FX -/
theorem bndT_holds {P : Program} {G : Glob} {Kp : SV → List OB → Prop} {len : Nat} {B : Option (Int × Int × Option Int)} {K : Int → Int → Option Int → FT} (h : (bndT len B K).holds P G Kp) :
    ∃ a b m, B = some (a, b, m) ∧ slcOk len B ∧ (K a b m).holds P G Kp := by
  unfold bndT at h
  split at h
  · simp only [FT.holds, decide_eq_true_eq] at h
    exact ⟨_, _, _, rfl, ⟨h.1, h.2.1, h.2.2.1⟩, h.2.2.2⟩
  · simp only [FT.holds, decide_eq_true_eq] at h
    exact ⟨_, _, _, rfl, ⟨h.1, h.2.1, h.2.2.1, h.2.2.2.1⟩, h.2.2.2.2⟩
  · exact h.elim
theorem slcEx_eq (ex hi : Bool) (a b : Int) (m : Option Int) : slcEx ex hi (some (a, b, m)) = slcEx1 ex hi b m := by cases m <;> rfl
theorem slcPT_run {P : Program} {G : Glob} {Kp : SV → List OB → Prop} {t e : TypeId} {d : TypeInfo} (hu : P.underlying t = some (.slice e)) (hi : P.info? e = some d) (w : World) {h : Heap} {y : PV} {v : Value} (gx : y.rel h v)
    {lo hi' mx : Option Value} {lo' hi2 mx' : Option (Option Int)} (a : NumOk lo lo') (b : NumOk hi' hi2) (c : NumOk mx mx') {K : PV → FT} (hp : (slcPT (P.cellsOf e) y lo' hi2 mx' K).holds P G Kp) :
    ∃ u z, (Instr.sliceAt t v lo hi' mx).run P w = .ok u w ∧ z.rel h u ∧ (K z).holds P G Kp := by
  unfold slcPT at hp
  split at hp
  · obtain ⟨hw, hp⟩ := hp
    obtain ⟨a1, b1, m1, e1, hok, hp⟩ := bndT_holds hp
    obtain ⟨u, g1, g2⟩ := slc_isl hu hi (by simpa using hw) w gx a b c hok
    rw [e1, slcEx_eq] at g2
    exact ⟨u, _, g1, g2, hp⟩
  · obtain ⟨hw, hp⟩ := hp
    obtain ⟨a1, b1, m1, e1, hok, hp⟩ := bndT_holds hp
    rw [beq_iff_eq] at hw
    subst hw
    obtain ⟨u, g1, g2⟩ := slc_sl hu hi w gx a b c hok
    rw [e1, slcEx_eq] at g2
    exact ⟨u, _, g1, g2, hp⟩
  · exact hp.elim
theorem madeCells_succ (z : Array Value) (n : Nat) : (madeCells z ((n + 1) * z.size)).toList = z.toList ++ (madeCells z (n * z.size)).toList := by
  simp only [madeCells, Array.toList_map, Array.toList_range]
  rw [show (n + 1) * z.size = z.size + n * z.size by rw [Nat.add_mul, Nat.one_mul, Nat.add_comm], List.range_add, List.map_append, List.map_map]
  congr 1
  · refine List.ext_getElem (by simp) fun j h1 h2 => ?_
    simp only [List.getElem_map, List.getElem_range]
    have hj : j < z.size := by simpa using h1
    rw [Nat.mod_eq_of_lt hj]
    simp [hj]
  · apply List.map_congr_left
    intro j _
    simp only [Function.comp]
    rw [Nat.add_mod_left]
theorem mkE_rel {h : Heap} {zs : List PV} {z : Array Value} (hz : PV.relL h zs z.toList) (hs : zs.all (·.scal) = true) : ∃ u : Value, (mkE zs).rel h u ∧ u.cells = z := by
  have gen : PV.rel h (.agg zs) (.agg z) ∧ (Value.agg z).cells = z := ⟨⟨z.toList, by simp, hz⟩, rfl⟩
  match zs, hz, hs, gen with
  | [], _, _, gen => exact ⟨_, gen⟩
  | [c], hz, hs, _ =>
    obtain ⟨v, vs', e, h1, h2⟩ := hz
    have h2 : vs' = [] := h2
    subst h2
    refine ⟨v, h1, ?_⟩
    have := (SV.cells_rel (x := .p c) (ρ := []) (h := h) (v := v) h1 (by
      have hs : c.scal = true := by simpa using hs
      have : c.cells = [c] := by cases c <;> first | rfl | cases hs
      show (c.cells.map SV.p).all (·.scal) = true
      rw [this]
      simp only [List.map_cons, List.map_nil, List.all_cons, List.all_nil, Bool.and_true]
      exact hs)).1
    have hc : c.scal = true := by simpa using hs
    have h3 : c.cells = [c] := by cases c <;> first | rfl | cases hc
    have h4 := PV.cells_rel h1
    rw [h3] at h4
    obtain ⟨v', vs2, e2, h5, h6⟩ := h4
    have h6 : vs2 = [] := h6
    subst h6
    have h7 := SV.scal_one (x := .p c) (ρ := []) (h := h) (v := v) h1 hc
    apply Array.ext'
    rw [e, h7.2]
  | c :: c' :: r, _, _, gen => exact ⟨_, gen⟩
theorem madeCells_rel {h : Heap} {zs : List PV} {z : Array Value} (hz : PV.relL h zs z.toList) (hs : zs.all (·.scal) = true) : ∀ n : Nat, PV.relE h z.size (List.replicate n (mkE zs)) (madeCells z (n * z.size)).toList
  | 0 => by simp [madeCells, PV.relE]
  | n + 1 => by
    obtain ⟨u, h1, h2⟩ := mkE_rel hz hs
    rw [List.replicate_succ, madeCells_succ]
    exact ⟨u, _, by rw [h2], by rw [h2], h1, madeCells_rel hz hs n⟩
theorem fx_sound {P : Program} {G : Glob} {B : Base} {ρ : Env} {h : Heap} {own : List OB} {w : World} (s : Sat B ρ h own w) (hG : GlobOk G h) {r : Option Nat} {o : Oper} {x : FX} (hc : Comp P o.op (.fx x))
    {a : Act} {e : Opd → SV} (he : ∀ y z, OpdOk y z → z ∈ x.opds → (e z).rel ρ h (a.eval y)) {K : SV → List OB → Prop} (hp : (fxT own e x).holds P G K)
    {next : Act → World → Prop} {Q : Exit → Act → World → Prop} (hn : Next' B ρ h K a o.dst next) : o.uponIn (FR r) 0 P a next Q ((execOp a.eval o).run P w) := by
  obtain ⟨dst, op, type, pos, after, guard⟩ := o
  cases hc with
  | @mkR t x y el i z hu hi hz hzs hw zs hrel hscal hx =>
    have gx := he _ _ hx (by simp [FX.opds])
    simp only [fxT] at hp
    split at hp
    · rename_i kk n e1
      rw [e1] at gx
      have gx : a.eval x = .int kk n := gx
      simp only [FT.holds, decide_eq_true_eq] at hp
      obtain ⟨n0, n1, n2, hK⟩ := hp
      have hsz : P.cellsOf el = i.size := by simp [Program.cellsOf, hi]
      have hrun := run_make (P := P) w t el i z hu hi hz kk kk n n n0 (Int.le_refl _) (by
        have h1 : (n.toNat : Int) = n := Int.toNat_of_nonneg n0
        rw [← h1, ← Int.natCast_mul, Nat.mul_comm]; omega) (by omega)
      rw [← hsz] at hrun
      have hE := madeCells_rel (hrel h) hscal n.toNat
      rw [hzs] at hE
      have g1 : (execOp a.eval ⟨dst, .makeSlice t x x, type, pos, after, guard⟩).run P w = .ok (.value (.slice (some ⟨w.heap.size, 0, none⟩) n.toNat n.toNat)) (w.alloc (.cells (madeCells z.cells (n.toNat * P.cellsOf el)) el)) := by
        rw [show execOp a.eval ⟨dst, .makeSlice t x x, type, pos, after, guard⟩ = (do pure (Next.value (← Instr.makeSlice t (a.eval x) (a.eval x))) : Sem Next) from rfl, gx]
        exact ans_v hrun
      rw [g1, Oper.uponIn_value]
      refine hn _ _ ⟨_, _, _, h, hK, ⟨s.env_new _, rfl⟩, s.alloc (o := .cells (madeCells z.cells (n.toNat * P.cellsOf el)) el) (v := .slice (some ⟨w.heap.size, 0, none⟩) n.toNat n.toNat) (.inr ⟨rfl, w.heap.size, _, n.toNat, _, ?_, ?_, ?_, push_new w _, ?_, hE, ?_⟩) ?_, Env.le_snoc _ _, Heap.le_refl _⟩
      · simp
      · simp
      · intro _; simp
      · simp [size_madeCells]
      · intro j v hj; simpa using hj
      · intro b e; cases e; rfl
    · exact hp.elim
  | @slcX t x x' lo lo' hi hi' mx mx' el d hu hdi hx hlo hhi hmx =>
    have gx := he _ _ hx (by simp [FX.opds])
    have n1 := NumOk.of (ρ := ρ) (h := h) (e := e) (ev := a.eval) hlo fun x y hxy hy => he x y hxy (by simp [FX.opds]; simp at hy; simp [hy])
    have n2 := NumOk.of (ρ := ρ) (h := h) (e := e) (ev := a.eval) hhi fun x y hxy hy => he x y hxy (by simp [FX.opds]; simp at hy; simp [hy])
    have n3 := NumOk.of (ρ := ρ) (h := h) (e := e) (ev := a.eval) hmx fun x y hxy hy => he x y hxy (by simp [FX.opds]; simp at hy; simp [hy])
    have hrun : execOp a.eval ⟨dst, .slice t x lo hi mx, type, pos, after, guard⟩ = (do pure (Next.value (← Instr.sliceAt t (a.eval x) (lo.map a.eval) (hi.map a.eval) (mx.map a.eval))) : Sem Next) := rfl
    simp only [fxT] at hp
    split at hp
    · rename_i y e1
      rw [e1] at gx
      obtain ⟨u, z, g1, g2, hK⟩ := slcPT_run hu hdi w (show y.rel h _ from gx) n1 n2 n3 hp
      rw [hrun, ans_v g1, Oper.uponIn_value]
      exact hn _ _ ⟨_, _, ρ, h, hK, g2, s, Env.le_refl _, Heap.le_refl _⟩
    · rename_i id e1
      rw [e1] at gx
      split at hp
      · rename_i y e2
        obtain ⟨h1, l1, s1⟩ := fzL_sat [id] s
        obtain ⟨hi2, hs2⟩ := s1.look gx.1 e2 (by simp)
        obtain ⟨u, z, g1, g2, hK⟩ := slcPT_run hu hdi w (show y.rel h1 _ from hs2) n1 n2 n3 hp
        rw [hrun, ans_v g1, Oper.uponIn_value]
        exact hn _ _ ⟨_, _, ρ, h1, hK, g2, s1, Env.le_refl _, l1⟩
      · exact hp.elim
    · exact hp.elim
  | @rngS t x x' hu hx =>
    have gx := he _ _ hx (by simp [FX.opds])
    simp only [fxT] at hp
    split at hp
    · rename_i l e1
      rw [e1] at gx
      obtain ⟨sb, gx1, rfl⟩ := gx
      rw [show execOp a.eval ⟨dst, .range t x, type, pos, after, guard⟩ = (do pure (Next.value (← Instr.range t (a.eval x))) : Sem Next) from rfl, gx1, ans_v (run_range_string w t sb hu), Oper.uponIn_value]
      refine hn _ _ ⟨_, _, _, h, hp, ⟨w.heap.size, s.env_new _, rfl⟩, s.alloc (o := .stringIter sb 0) (v := .pointer (some ⟨w.heap.size, 0, none⟩)) ⟨w.heap.size, rfl, by rw [textOf_eq]; exact push_new w _, by rw [textOf_eq]; show sb.data.size = (List.map _ sb.data.toList).length; simp⟩ (fun b e => by cases e; rfl), Env.le_snoc _ _, Heap.le_refl _⟩
    · exact hp.elim
  | @nextS x x' hx =>
    have gx := he _ _ hx (by simp [FX.opds])
    simp only [fxT] at hp
    split at hp
    · rename_i id e1
      rw [e1] at gx
      obtain ⟨b, h1, h2⟩ := gx
      split at hp
      · rename_i l pos' e2
        obtain ⟨hi2, b', h3, h4, h5⟩ := s.look h1 e2 (by simp)
        cases h3
        simp only [FT.holds, decide_eq_true_eq, decide_eq_false_iff_not] at hp
        have hrun : ∀ {u w'}, (Instr.next (.pointer (some ⟨b, 0, none⟩)) true type).run P w = .ok u w' → (execOp a.eval ⟨dst, .next x true, type, pos, after, guard⟩).run P w = .ok (.value u) w' := fun {u w'} hh => by
          rw [show execOp a.eval ⟨dst, .next x true, type, pos, after, guard⟩ = (do pure (Next.value (← Instr.next (a.eval x) true type)) : Sem Next) from rfl, h2]
          exact ans_v hh
        by_cases hlt : pos' < l.length
        · rw [hrun (Lib.run_next_any_at w b (textOf l) pos' type h4 (by omega)), Oper.uponIn_value]
          have hltb : b < w.heap.size := (Array.getElem?_eq_some_iff.1 h4).1
          refine hn _ _ ⟨_, _, ρ, h, hp.1 hlt, ⟨_, rfl, _, _, rfl, rfl, _, _, rfl, rfl, _, _, rfl, rfl, rfl⟩, s.replace hi2 h1 (w' := w.iterAt b (textOf l) (pos' + (Utf8.decode (textOf l) pos').2)) (by simp [World.iterAt]) ⟨rfl, rfl⟩ (fun k hk => ?_) (ob' := .iter l (pos' + runeLen l pos')) ⟨b, rfl, ?_, h5⟩ (fun k hk => hk), Env.le_refl _, Heap.le_refl _⟩
          · have : k ≠ b := fun e => hk (by rw [e]; rfl)
            simp only [World.iterAt]
            rw [Array.getElem?_setIfInBounds_ne (Ne.symm this)]
          · simp only [World.iterAt]
            rw [Array.getElem?_setIfInBounds_self_of_lt hltb]
            rfl
        · rw [hrun (Lib.run_next_end_at w b (textOf l) pos' type h4 (by omega)), Oper.uponIn_value]
          exact hn _ _ ⟨_, _, ρ, h, hp.2 hlt, ⟨_, rfl, _, _, rfl, rfl, rfl⟩, s, Env.le_refl _, Heap.le_refl _⟩
      · exact hp.elim
    · exact hp.elim
  | @callM f g args args' ats hf hargs =>
    simp only [fxT] at hp
    split at hp
    · rename_i xs e2
      obtain ⟨rv, hX, hp⟩ := hp
      have hX : FunMoreT P G (g + 3000000) (.nilMap :: xs) rv := hX.elim (fun h => absurd h.1 (Nat.not_lt.2 (by omega))) fun h => h.elim (fun h => absurd h.1.2 (Nat.not_lt.2 (by omega))) fun h => h.elim (fun h => h.2.elim) fun h => h
      obtain ⟨_, hX⟩ := hX
      cases rv <;> first | exact hX.elim | skip
      rename_i cs
      obtain ⟨es, hes, hok, hcall⟩ := hX
      rw [Nat.add_sub_cancel] at hok hcall
      dsimp only at hp
      rw [hes] at hp
      have hp : K (.mp own.length) (own ++ [.map es]) := hp
      have ga := SV.pvSL_rel s _ _ _ e2 (OpdsOk.rel (ρ := ρ) (h := h) (e := e) (ev := a.eval) hargs fun x y a b => he x y a b)
      have hrun := call_run (P := P) (dst := dst) (type := type) (pos := pos) (after := after) (guard := guard) (a := a) (f := f) (args := args) (ats := ats) (g := g) (caps := []) w (by cases hf; rfl) hok
      rw [hrun, Oper.uponIn_enter, List.append_nil]
      refine ⟨(fun hh => by cases hh), callsIn_fr ((hcall w h _ s.sub hG ga).mono fun en w' hen => ?_)⟩
      obtain ⟨u, rfl, hs', hone', hfp, hz, hk, ho⟩ := hen
      have s2 : Sat B ρ h own w' := s.grown hz hk (fun _ _ => rfl) (fun b o f => by
        have h0 := s.sub b o f
        rw [hk b (Array.getElem?_eq_some_iff.1 h0).1]; exact h0) ho
      have s3 : Sat B (ρ ++ [u]) h (own ++ [.map es]) w' := s2.add (OB.sat_mono (fun i v e => by simp at e) (Heap.le_refl _) hs' fun _ _ => rfl) fun b hb => by
        have hlt : w.heap.size ≤ b := hfp b hb
        refine ⟨fun i ob1 v1 f1 f2 f3 => ?_, ?_, .inr (Nat.le_trans s.size hlt)⟩
        · have := OB.fp_lt (s.ent i ob1 v1 f1 f2) f3; omega
        · cases f : h b with
          | none => rfl
          | some o => have := (Array.getElem?_eq_some_iff.1 (s.sub b o f)).1; omega
      exact hn _ w' ⟨_, _, ρ ++ [u], h, hp, ⟨by rw [← s.len]; simp, hone'⟩, s3, Env.le_snoc _ _, Heap.le_refl _⟩
    · exact hp.elim
theorem vcRun_sound {P : Program} {G : Glob} {B : Base} {ρ : Env} {h : Heap} {own : List OB} {w : World} (s : Sat B ρ h own w) (hG : GlobOk G h) {r : Option Nat} {o : Oper} {io : Ins} (hc : Comp P o.op io)
    {a : Act} {raw : Opd → SV} (he : ∀ x y, OpdOk x y → (raw y).rel ρ h (a.eval x)) {K : SV → List OB → Prop} (hp : vcRun P G own raw io K)
    {next : Act → World → Prop} {Q : Exit → Act → World → Prop} (hn : Next' B ρ h K a o.dst next) : o.wpIn (FR r) 0 P a w next Q := by
  refine ⟨fun _ _ => trivial, ?_⟩
  rw [show (FR r).round = r from rfl, Oper.semAt_eq r a.eval o hc.noDefer]
  obtain ⟨hs, hp⟩ := hp
  have hsure := sureL_mem hs
  have he' : ∀ x y, OpdOk x y → y ∈ io.opds → ((raw y).strip).rel ρ h (a.eval x) := fun x y hxy hy => SV.strip_rel (he x y hxy) (hsure y hy)
  have gen : ∀ {K' : SV → List OB → Prop}, K' = K → io.calm = true → (pev own (fun x => (raw x).strip) io).1 → K' (pev own (fun x => (raw x).strip) io).2 own →
      o.uponIn (FR r) 0 P a next Q ((execOp a.eval o).run P w) := by
    intro K' e hpu h1 h2
    subst e
    obtain ⟨v, g1, g2⟩ := pev_sound s hc hpu (e := fun x => (raw x).strip) (a := a) he' h1
    rw [g1, Oper.uponIn_value]
    exact hn v w (Goes.here s h2 g2)
  have gen2 : eff own (fun x => (raw x).strip) io K → o.uponIn (FR r) 0 P a next Q ((execOp a.eval o).run P w) := by
    intro h1
    rcases eff_sound s hc (e := fun x => (raw x).strip) (a := a) he' h1 with ⟨v, w', g1, g2⟩ | ⟨w', g1, g2⟩
    · rw [g1, Oper.uponIn_value]; exact hn v w' g2
    · rw [g1, Oper.uponIn_skip]; exact hn undef w' g2
  cases io
  case pick c' x' y' =>
    dsimp only at hp
    split at hp
    · rename_i t e1
      obtain ⟨h1, h2, hK⟩ := hp
      obtain ⟨dst, op, type, pos, after, guard⟩ := o
      cases hc with
      | pick hc hx hy =>
        have gc := he' _ _ hc (by simp [Ins.opds])
        rw [e1] at gc
        rw [pick_run w gc, Oper.uponIn_value]
        refine hn _ w (Goes.here s hK (mix_rel (fun ht => ?_) fun ht => ?_))
        · rw [ht]; exact SV.strip_rel (he _ _ hx) (h1 ht)
        · rw [ht]; exact SV.strip_rel (he _ _ hy) (h2 ht)
    · exact hp.elim
  case call f' args' =>
    obtain ⟨dst, op, type, pos, after, guard⟩ := o
    cases hc with
    | call hf hargs => exact callVC_sound s hG hf hargs (fun x y hxy hy => he' x y hxy hy) hp hn
  case callR g t a' args' =>
    obtain ⟨dst, op, type, pos, after, guard⟩ := o
    cases hc with
    | callR hf hargs =>
      exact rowVC_sound s hG hf hargs (by cases hf; rfl) (fun x y hxy hy => he' x y hxy hy) hp hn
  case callN g t args' =>
    obtain ⟨dst, op, type, pos, after, guard⟩ := o
    cases hc with
    | callN hf hargs =>
      exact newVC_sound s hG hf hargs (by cases hf; rfl) (fun x y hxy hy => he' x y hxy hy) hp hn
  case callI g t a' args' =>
    obtain ⟨dst, op, type, pos, after, guard⟩ := o
    cases hc with
    | callI hi hm hpath hfn hnp hr hargs =>
      exact invVC_sound s hG hi hm hpath hfn hnp hr hargs (fun x y hxy hy => he' x y hxy hy) hp hn
  case fx x => exact fx_sound s hG hc (fun y z hyz hz => he' y z hyz hz) hp hn
  all_goals first
    | exact gen rfl rfl hp.1 hp.2
    | exact gen2 hp
theorem Ins.calm_ne {io : Ins} (h : io.calm = true) : (∀ c a b, io ≠ .pick c a b) ∧ ∀ f as, io ≠ .call f as := by
  cases io <;> simp [Ins.calm] at h ⊢
/-- A guard's outcome. -/
theorem wanted_some {ops : Array Oper} {o : Oper} {j : Nat} {want : Bool} {oj : Oper} {g : Tmp} {a : Act} (ho : o.guard = some (j, want)) (hj : ops[j]? = some oj) (hd : oj.dst = some g) :
    Region.wanted o (yielded ops a.tmps) = (match a.tmps[g]? with
      | some (.bool b) => b == want
      | _ => false) := by
  simp only [Region.wanted, ho, yielded, hj, Option.bind_some, hd]
  cases a.tmps[g]? with
  | none => simp
  | some v => cases v <;> simp
inductive CompOp (P : Program) (ops : Array Oper) (o : Oper) (i : IOp) : Prop where
  | mk : Comp P o.op i.io → i.dst = o.dst → (match o.guard, i.guard with
      | none, none => True
      | some (j, want), some (g, want') => want = want' ∧ ∃ oj, ops[j]? = some oj ∧ oj.dst = some g
      | _, _ => False) → CompOp P ops o i
theorem Rel.put {B : Base} {G : Glob} {D : List Deferred} {ρ ρ' : Env} {h h' : Heap} {S : St} {a : Act} {w w' : World} (r : Rel B G D ρ h S a w) {dst : Option Tmp} {x : SV} {own' : List OB} {v : Value}
    (hx : x.rel ρ' h' v) (s : Sat B ρ' h' own' w') (hr : Env.le ρ ρ') (hh : h ≤ h') : Rel B G D ρ' h' (S.put dst x own') (a.put dst v) w' := by
  have hm : ∀ (y : SV) (u : Value), y.rel ρ h u → y.rel ρ' h' u := fun y u => SV.rel_mono hr hh y u
  have hg : GlobOk G h' := fun g y e => ⟨PV.rel_mono hh _ _ (r.glob g y e).1, tabOk_mono hh (r.glob g y e).2⟩
  cases dst with
  | none => exact ⟨r.size, fun i y u e1 e2 => hm y u (r.tmp i y u e1 e2), r.defs.mono hh, s, hg⟩
  | some d =>
    refine ⟨by simp [Act.put, St.put, r.size], fun i y u e1 e2 => ?_, r.defs.mono hh, s, hg⟩
    simp only [St.put] at e1
    simp only [Act.put] at e2
    by_cases hi : i = d
    · subst hi
      have hl : i < S.t.length := by have := (List.getElem?_eq_some_iff.1 e1).1; simpa using this
      have hl' : i < a.tmps.size := by rw [r.size]; exact hl
      rw [List.getElem?_set_self hl] at e1
      rw [Array.getElem?_setIfInBounds_self_of_lt hl'] at e2
      cases e1; cases e2; exact hx
    · rw [List.getElem?_set_ne (Ne.symm hi)] at e1
      rw [Array.getElem?_setIfInBounds_ne (Ne.symm hi)] at e2
      exact hm y u (r.tmp i y u e1 e2)
/-- One operation in its region. -/
def opIn (P : Program) (r : Option Nat) (ops : Array Oper) (o : Oper) (a : Act) (w : World) (next : Act → World → Prop) (Q : Exit → Act → World → Prop) : Prop :=
  if Region.wanted o (yielded ops a.tmps) then o.wpIn (FR r) 0 P a w next Q else next (a.put o.dst undef) w
theorem vcOp_sound {P : Program} {B : Base} {G : Glob} {D : List Deferred} {ρ : Env} {h : Heap} {S : St} {w : World} {a : Act} (rl : Rel B G D ρ h S a w) {r : Option Nat} {ops : Array Oper} {o : Oper} {i : IOp}
    (hc : CompOp P ops o i) {K : St → Prop} (hp : vcOp P G S i K) {next : Act → World → Prop} {Q : Exit → Act → World → Prop}
    (hn : ∀ S' ρ' h' a' w', K S' → Rel B G D ρ' h' S' a' w' → Env.le ρ ρ' → h ≤ h' → next a' w') : opIn P r ops o a w next Q := by
  obtain ⟨hc, hd, hg⟩ := hc
  have hN : ∀ {own : List OB} (f : SV → SV), Next' B ρ h (fun x own => K (S.put i.dst x own)) a o.dst next := fun f v w' ⟨x, own', ρ', h', hK, hx, s', hr, hh⟩ =>
    hn _ ρ' h' _ w' hK (by rw [hd]; exact rl.put hx s' hr hh) hr hh
  have hN := hN (own := S.own) id
  have he : ∀ x y, OpdOk x y → (evS G S y).rel ρ h (a.eval x) := fun x y hxy => rl.eval hxy
  unfold opIn
  unfold vcOp vcVal at hp
  cases hog : o.guard with
  | none =>
    rw [hog] at hg
    cases hig : i.guard with
    | some g => rw [hig] at hg; exact hg.elim
    | none =>
      rw [hig] at hp
      rw [if_pos (by simp [Region.wanted, hog])]
      exact vcRun_sound rl.sat rl.glob hc he hp hN
  | some gj =>
    obtain ⟨j, want⟩ := gj
    rw [hog] at hg
    cases hig : i.guard with
    | none => rw [hig] at hg; exact hg.elim
    | some gw =>
      obtain ⟨g, want'⟩ := gw
      rw [hig] at hg hp
      obtain ⟨rfl, oj, hj, hdj⟩ := hg
      dsimp only at hp
      -- the guard's value
      have key : ∀ act : Bool, Region.wanted o (yielded ops a.tmps) = act → vcGuard P G act S.own (evS G S) i.io (fun x own => K (S.put i.dst x own)) →
          if Region.wanted o (yielded ops a.tmps) = true then o.wpIn (FR r) 0 P a w next Q else next (a.put o.dst undef) w := by
        intro act hact hv
        rw [hact]
        have skip : ∀ {x : SV} {own' : List OB} {h1 : Heap}, Sat B ρ h1 own' w → h ≤ h1 → K (S.put i.dst (.cnd act x) own') → act = false → next (a.put o.dst undef) w := fun {x own' h1} s' hle hK hf =>
          hn _ ρ h1 _ w hK (by rw [hd]; exact rl.put (x := .cnd act x) ⟨(fun e => by rw [hf] at e; cases e), fun _ => rfl⟩ s' (Env.le_refl _) hle) (Env.le_refl _) hle
        have wrap : act = true → Next' B ρ h (fun x own => K (S.put i.dst (.cnd act x) own)) a o.dst next := fun ha v w' ⟨x, own', ρ', h', hK, hx, s', hr, hh⟩ =>
          hn _ ρ' h' _ w' hK (by rw [hd]; exact rl.put (x := .cnd act x) ⟨fun _ => hx, (fun e => by rw [ha] at e; cases e)⟩ s' hr hh) hr hh
        have fin : (act = true → vcRun P G S.own (evS G S) i.io (fun x own => K (S.put i.dst (.cnd act x) own)) ∨ vcRun P G S.own (evS G S) i.io (fun x own => K (S.put i.dst x own))) → (act = false → next (a.put o.dst undef) w) →
            if act = true then o.wpIn (FR r) 0 P a w next Q else next (a.put o.dst undef) w := by
          intro h1 h2
          cases hb : act with
          | true =>
            rw [if_pos rfl]
            rcases h1 hb with h1 | h1
            · exact vcRun_sound rl.sat rl.glob hc he h1 (wrap hb)
            · exact vcRun_sound rl.sat rl.glob hc he h1 hN
          | false =>
            rw [if_neg (by simp)]
            exact h2 hb
        have pureCase : ∀ {io : Ins}, i.io = io → io.calm = true → ((act = true → sureL (evS G S) io.opds ∧ (pev S.own (fun x => (evS G S x).strip) io).1) ∧ K (S.put i.dst (.cnd act (pev S.own (fun x => (evS G S x).strip) io).2) S.own)) →
            if act = true then o.wpIn (FR r) 0 P a w next Q else next (a.put o.dst undef) w := by
          intro io e1 e2 h1
          refine fin (fun ha => .inl ?_) fun hf => skip rl.sat (Heap.le_refl _) h1.2 hf
          obtain ⟨h2, h3⟩ := h1.1 ha
          rw [e1]
          refine ⟨h2, ?_⟩
          obtain ⟨n1, n2⟩ := Ins.calm_ne e2
          cases io
          case pick => exact absurd rfl (n1 _ _ _)
          case call => exact absurd rfl (n2 _ _)
          all_goals (dsimp only; first | exact (by rw [if_pos e2]; exact ⟨h3, h1.2⟩) | (cases e2))
        have effCase : ∀ {io : Ins}, i.io = io → io.calm = false → (∀ c a b, io ≠ .pick c a b) → (∀ f as, io ≠ .call f as) →
            ((act = true → sureL (evS G S) io.opds ∧ eff S.own (fun x => (evS G S x).strip) io (fun x own => K (S.put i.dst x own))) ∧ (act = false → K (S.put i.dst .any S.own))) →
            if act = true then o.wpIn (FR r) 0 P a w next Q else next (a.put o.dst undef) w := by
          intro io e1 e2 n1 n2 h1
          refine fin (fun ha => .inr ?_) fun hf => hn _ ρ h _ w (h1.2 hf) (by rw [hd]; exact rl.put (x := .any) trivial rl.sat (Env.le_refl _) (Heap.le_refl _)) (Env.le_refl _) (Heap.le_refl _)
          obtain ⟨h2, h3⟩ := h1.1 ha
          rw [e1]
          refine ⟨h2, ?_⟩
          cases io
          case pick => exact absurd rfl (n1 _ _ _)
          case call => exact absurd rfl (n2 _ _)
          case callR => exact h3.elim
          case callN => exact h3.elim
          case callI => exact h3.elim
          case fx => exact h3.elim
          all_goals (dsimp only; first | exact (by rw [if_neg (by rw [e2]; simp)]; exact h3) | (cases e2))
        unfold vcGuard at hv
        cases hio : i.io
        case pick c' x' y' =>
          rw [hio] at hv
          dsimp only at hv
          split at hv
          · rename_i t e1
            obtain ⟨h1, h2⟩ := hv
            refine fin (fun ha => .inl ?_) fun hf => skip rl.sat (Heap.le_refl _) h2 hf
            obtain ⟨g1, g2, g3⟩ := h1 ha
            rw [hio]
            refine ⟨g1, ?_⟩
            dsimp only
            rw [e1]
            exact ⟨g2, g3, h2⟩
          · exact hv.elim
        case call f' args' =>
          rw [hio] at hv
          obtain ⟨h1, h2⟩ := hv
          refine fin (fun ha => .inl ?_) fun hf => ?_
          · rw [hio]
            refine ⟨h1 ha, ?_⟩
            rw [ha] at h2 ⊢
            exact h2
          · unfold callVC at h2
            dsimp only at h2
            obtain ⟨h3, l3, s3⟩ := fzL_sat ((f' :: args').flatMap fun x => SV.ids S.own ((evS G S x).strip)) rl.sat
            split at h2
            · obtain ⟨x, _, hK⟩ := h2
              by_cases hfl : x.flat = true
              · rw [if_pos hfl] at hK
                exact skip rl.sat (Heap.le_refl _) hK hf
              · rw [if_neg hfl] at hK
                exact skip s3 l3 hK hf
            · exact h2.elim
        all_goals (rw [hio] at hv; first | exact pureCase hio rfl hv | exact effCase hio rfl (by simp) (by simp) hv)
      have hgt : ∀ x, S.t.getD g .any = x → x ≠ .any → ∃ v, a.tmps[g]? = some v ∧ x.rel ρ h v := fun x e hx => by
        have e1 := getD_cases e hx
        have hl : g < a.tmps.size := by rw [rl.size]; exact (List.getElem?_eq_some_iff.1 e1).1
        exact ⟨_, Array.getElem?_eq_getElem hl, rl.tmp g x _ e1 (Array.getElem?_eq_getElem hl)⟩
      split at hp
      · rename_i t e1
        obtain ⟨v, g1, g2⟩ := hgt _ e1 (by simp)
        have g2' : v = .bool t := g2
        refine key (t == want) ?_ hp
        rw [wanted_some hog hj hdj, g1, g2']
      · rename_i t' t e1
        obtain ⟨v, g1, g2⟩ := hgt _ e1 (by simp)
        refine key (t' && (t == want)) ?_ hp
        rw [wanted_some hog hj hdj, g1]
        cases t' with
        | true =>
          have g2' : v = .bool t := g2.1 rfl
          rw [g2']; simp
        | false =>
          have g2' : v = undef := g2.2 rfl
          rw [g2']; rfl
      · exact hp.elim
end Go.Fx
