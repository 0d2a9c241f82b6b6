/-
  Fx, part 11: regions in order, code, functions.
-/
import Derived.Test.YtlfffpkfipdboaaDoorFxKeep
import Derived.Test.YtlfffpkfipdboaaDoorFxScopeIn
set_option linter.unusedSimpArgs false
set_option linter.unusedVariables false
namespace Go.Fx
inductive All2 {α β : Type} (R : α → β → Prop) : List α → List β → Prop where
  | nil : All2 R [] []
  | cons {x y xs ys} : R x y → All2 R xs ys → All2 R (x :: xs) (y :: ys)
theorem All2.length {α β : Type} {R : α → β → Prop} : ∀ {xs : List α} {ys : List β}, All2 R xs ys → xs.length = ys.length
  | _, _, .nil => rfl
  | _, _, .cons _ h => by simp [h.length]
def compGuard (ops : Array Oper) (o : Oper) : Option (Option (Nat × Bool)) :=
  match o.guard with
  | none => some none
  | some (j, want) => match ops[j]? with
    | some oj => match oj.dst with
      | some g => some (some (g, want))
      | none => none
    | none => none
/-- Interface values whose type is known, and methods that are called through them in the same region. -/
def ifcTy (ops : Array Oper) (r : Nat) : Option TypeId := ops.toList.findSome? fun q => match q.op, q.dst with
  | .makeInterface t _, some d => if d == r then some t else none
  | _, _ => none
def invoked (ops : Array Oper) (d : Option Nat) : Bool := ops.toList.any fun q => match q.op with
  | .call ⟨.invoke (.tmp r) _, _, _⟩ => d == some r
  | _ => false
def compI (P : Program) (ops : Array Oper) (o : Oper) : Option Ins :=
  match o.op with
  | .makeInterface t x => if invoked ops o.dst then match P.underlying t with
    | some (.interface _) => none
    | some _ => some (.mkI t (opd P t x))
    | none => none else none
  | .call ⟨.invoke (.tmp k) name, args, ats⟩ => match ifcTy ops k with
    | some t => match P.info? t, P.underlying t with
      | some _, some (.pointer _) => none
      | some i, some _ => match i.methods.find? (·.name == name) with
        | some m => match m.func with
          | some (g, false) => if m.path.size = 0 then some (.callI g t (.tmp k) ((args.toList.zipIdx).map fun q => opd P (ats.toList.getD q.2 0) q.1)) else none
          | _ => none
        | none => none
      | _, _ => none
    | none => none
  | _ => none
theorem compI_ok {P : Program} {ops : Array Oper} {o : Oper} {io : Ins} (h : compI P ops o = some io) : Comp P o.op io := by
  unfold compI at h
  split at h
  · rename_i t x e
    rw [e]
    split at h
    · split at h
      · cases h
      · rename_i d hn hu
        cases h
        exact .mkI2 hu (fun q e => hn q e) (opd_ok ..)
      · cases h
    · cases h
  · rename_i k name args ats e
    rw [e]
    split at h
    · split at h
      · cases h
      · rename_i i d hn hi hu
        split at h
        · rename_i m hm
          split at h
          · rename_i g hg
            split at h
            · rename_i hs
              cases h
              exact .callI hi hm (Array.eq_empty_of_size_eq_zero hs) hg ⟨d, hu, fun q e => hn q e⟩ (.tmp k) (opds_okD P 0 _ _)
            · cases h
          · cases h
        · cases h
      · cases h
    · cases h
  · cases h
def compOp (P : Program) (ops : Array Oper) (o : Oper) : Option IOp :=
  match (compI P ops o).or (comp P o.type o.op), compGuard ops o with
  | some io, some g => some ⟨o.dst, io, g⟩
  | _, _ => none
theorem compOp_ok {P : Program} {ops : Array Oper} {o : Oper} {i : IOp} (h : compOp P ops o = some i) : CompOp P ops o i := by
  unfold compOp at h
  split at h
  · rename_i io g h1 h2
    cases h
    have h1 : Comp P o.op io := by
      rcases hI : compI P ops o with _ | x
      · rw [hI] at h1; exact comp_ok h1
      · rw [hI] at h1; cases h1; exact compI_ok hI
    refine ⟨h1, rfl, ?_⟩
    unfold compGuard at h2
    split at h2
    · cases h2; rename_i hg; rw [hg]; trivial
    · rename_i j want hg
      rw [hg]
      split at h2
      · rename_i oj hj
        split at h2
        · rename_i g hd
          cases h2
          exact ⟨rfl, oj, hj, hd⟩
        · cases h2
      · cases h2
  · cases h
def compOps (P : Program) (ops : Array Oper) : List Oper → Option (List IOp)
  | [] => some []
  | o :: os => match compOp P ops o, compOps P ops os with
    | some i, some is => some (i :: is)
    | _, _ => none
theorem compOps_ok {P : Program} {ops : Array Oper} : ∀ {os : List Oper} {is : List IOp}, compOps P ops os = some is → All2 (CompOp P ops) os is
  | [], is, h => by simp only [compOps] at h; cases h; exact .nil
  | o :: os, is, h => by
    simp only [compOps] at h
    split at h
    · rename_i i is' h1 h2
      cases h
      exact .cons (compOp_ok h1) (compOps_ok h2)
    · cases h
theorem vcOps_sound {P : Program} {B : Base} {G : Glob} {D : List Deferred} {r : Option Nat} {ops : Array Oper} {K : St → Prop} {Q : Exit → Act → World → Prop}
    (hn : ∀ S' ρ' h' a' w', K S' → Rel B G D ρ' h' S' a' w' → Q .normal a' w') :
    ∀ (is : List IOp) (os : List Oper) (k : Nat) {ρ : Env} {h : Heap} {S : St} {w : World} {a : Act}, ops.toList.drop k = os → All2 (CompOp P ops) os is → Rel B G D ρ h S a w → vcOps P G is S K →
      wpOpsIn (FR r) 0 P ops Q (List.range' k os.length) a w
  | [], os, k, ρ, h, S, w, a, hos, hc, rl, hp => by
    cases hc
    exact hn S ρ h a w hp rl
  | i :: is, os, k, ρ, h, S, w, a, hos, hc, rl, hp => by
    cases hc with
    | @cons o _ os' _ hc1 hc2 =>
      have hk : ops[k]? = some o := by
        have : (ops.toList.drop k)[0]? = some o := by rw [hos]; rfl
        simpa [List.getElem?_drop] using this
      have hd : ops.toList.drop (k + 1) = os' := by
        rw [← List.drop_drop, hos]; rfl
      rw [List.length_cons, List.range'_succ]
      simp only [wpOpsIn, hk]
      have := vcOp_sound (ops := ops) (r := r) (Q := Q) (next := wpOpsIn (FR r) 0 P ops Q (List.range' (k + 1) os'.length)) rl hc1 hp fun S' ρ' h' a' w' hK rl' _ _ =>
        vcOps_sound hn is os' (k + 1) hd hc2 rl' hK
      unfold opIn at this
      split
      · rename_i hw; rw [if_pos hw] at this; exact this
      · rename_i hw; rw [if_neg hw] at this; exact ⟨fun _ _ => trivial, this⟩
/-- What stands behind a label (as the model finds it). -/
def findL : IR → Nat → Option IR
  | .seq a b, l => match findL a l with
    | some r => some (.seq r b)
    | none => findL b l
  | .label l', l => if l' == l then some .skip else none
  | _, _ => none
/-- The first label. -/
def firstL : IR → Option Nat
  | .seq a b => match firstL a with
    | some l => some l
    | none => firstL b
  | .label l => some l
  | _ => none
inductive CompCode (P : Program) : Code → IR → Prop where
  | skip : CompCode P .skip .skip
  | region {id ops is} : All2 (CompOp P ops) ops.toList is → CompCode P (.region id ops false) (.ops false is)
  | regionD {id ops is} : All2 (CompOp P ops) ops.toList is → lexI ops is is.length 0 (Array.replicate ops.size false) = true → P.follows .mixedOrders = true → CompCode P (.region id ops true) (.ops true is)
  | regionA {id ops is t} : All2 (CompOp P ops) ops.toList is → okT ops is t false is.length (Array.replicate ops.size false) = true → P.follows .mixedOrders = true → CompCode P (.region id ops true) (.any t is)
  | badR {id ops d} : CompCode P (.region id ops d) .bad
  | seq {a b a' b'} : CompCode P a a' → CompCode P b b' → CompCode P (.seq a b) (.seq a' b')
  | cond {c a b c' a' b'} : OpdOk c c' → CompCode P a a' → CompCode P b b' → CompCode P (.cond c a b) (.cond c' a' b')
  | block {id a a'} : CompCode P a a' → CompCode P (.block id a) (.block id a')
  | loop {a a' live} : CompCode P a a' → CompCode P (.loop a) (.loop live a')
  | exit {id} : CompCode P (.exit id) (.exit id)
  | label {l} : CompCode P (.label l) (.label l)
  | goto {l} : CompCode P (.goto l) (.goto l)
  | ret : CompCode P .ret .ret
  | scope {a a' l} : CompCode P a a' → (findL a' l).isSome = true → CompCode P (.scope a) (.scope l a')
  | rangeF {g g' ps a b a' b'} : OpdOk g g' → CompCode P a a' → CompCode P b b' → CompCode P (.rangeFunc g ps a b) (.rangeF g' ps.toList a' b')
/-- In a region whose order is told a slice expression may make a row of one's own persistent. -/
def Ins.upg : Ins → Ins
  | .slc w x lo hi mx => .fx (.slcX w x lo hi mx)
  | io => io
def IOp.upg (o : IOp) : IOp := ⟨o.dst, o.io.upg, o.guard⟩
theorem Comp.upg {P : Program} {o : Op} {io : Ins} (h : Comp P o io) : Comp P o io.upg := by
  cases h
  case slc hu hi hx hlo hhi hmx => exact .slcX hu hi hx hlo hhi hmx
  case load hu hi h1 hx => exact .load hu hi h1 hx
  case fld h1 h2 h3 h4 h5 h6 => exact .fld h1 h2 h3 h4 h5 h6
  case ixV h1 h2 h3 h4 h5 h6 => exact .ixV h1 h2 h3 h4 h5 h6
  all_goals (simp only [Ins.upg]; first | assumption | (constructor <;> assumption))
theorem CompOp.upg {P : Program} {ops : Array Oper} {o : Oper} {i : IOp} (h : CompOp P ops o i) : CompOp P ops o i.upg := by
  obtain ⟨h1, h2, h3⟩ := h
  exact ⟨h1.upg, h2, h3⟩
theorem All2.upg {P : Program} {ops : Array Oper} {os : List Oper} {is : List IOp} (h : All2 (CompOp P ops) os is) : All2 (CompOp P ops) os (is.map IOp.upg) := by
  induction h with
  | nil => exact .nil
  | cons h1 _ ih => exact .cons h1.upg ih
/-- The plain form of a piece of code; the lists of what stays alive at each loop's head are handed in, in the order of the text. -/
def compCode (P : Program) : Code → List (List Nat) → Option (IR × List (List Nat))
  | .skip, L => some (.skip, L)
  | .region _ ops draw, L => match compOps P ops ops.toList with
    | some is => if draw then (if lexI ops is is.length 0 (Array.replicate ops.size false) && P.follows .mixedOrders then some (.ops true is, L) else
        (if okT ops is (mkT ops is is.length (Array.replicate ops.size false)) false is.length (Array.replicate ops.size false) && (decide ((mkT ops is is.length (Array.replicate ops.size false)).cnt ≤ 60) && P.follows .mixedOrders) then some (.any (mkT ops is is.length (Array.replicate ops.size false)) is, L) else some (.bad, L))) else some (.ops false (is.map IOp.upg), L)
    | none => some (.bad, L)
  | .seq a b, L => match compCode P a L with
    | some (a', L) => match compCode P b L with
      | some (b', L) => some (.seq a' b', L)
      | none => none
    | none => none
  | .cond c a b, L => match compCode P a L with
    | some (a', L) => match compCode P b L with
      | some (b', L) => some (.cond (opd P 0 c) a' b', L)
      | none => none
    | none => none
  | .block id a, L => (compCode P a L).map fun q => (.block id q.1, q.2)
  | .loop a, L => match L with
    | live :: L => (compCode P a L).map fun q => (.loop live q.1, q.2)
    | [] => none
  | .rangeFunc g ps a b, L => match compCode P a L with
    | some (a', L) => match compCode P b L with
      | some (b', L) => some (.rangeF (opd P 0 g) ps.toList a' b', L)
      | none => none
    | none => none
  | .exit id, L => some (.exit id, L)
  | .label l, L => some (.label l, L)
  | .goto l, L => some (.goto l, L)
  | .ret, L => some (.ret, L)
  | .scope a, L => match compCode P a L with
    | some (a', L) => match firstL a' with
      | some l => if (findL a' l).isSome then some (.scope l a', L) else none
      | none => none
    | none => none
  | _, _ => none
theorem compCode_ok {P : Program} : ∀ {c : Code} {L : List (List Nat)} {q : IR × List (List Nat)}, compCode P c L = some q → CompCode P c q.1 := by
  intro c
  induction c with
  | skip => intro L q h; simp only [compCode] at h; cases h; exact .skip
  | region id ops draw =>
    intro L q h
    simp only [compCode] at h
    split at h
    · rename_i is h1
      cases draw with
      | true =>
        simp only [if_true] at h
        split at h
        · rename_i hc
          simp only [Bool.and_eq_true] at hc
          cases h
          exact .regionD (compOps_ok h1) hc.1 hc.2
        · split at h
          · rename_i hc
            simp only [Bool.and_eq_true] at hc
            cases h
            exact .regionA (compOps_ok h1) hc.1 hc.2.2
          · cases h; exact .badR
      | false =>
        simp only [Bool.false_eq_true, if_false] at h
        cases h
        exact .region (compOps_ok h1).upg
    · cases h; exact .badR
  | seq a b iha ihb =>
    intro L q h
    simp only [compCode] at h
    split at h
    · rename_i h1
      split at h
      · rename_i h2
        cases h; exact .seq (iha h1) (ihb h2)
      · cases h
    · cases h
  | cond c a b iha ihb =>
    intro L q h
    simp only [compCode] at h
    split at h
    · rename_i h1
      split at h
      · rename_i h2
        cases h; exact .cond (opd_ok ..) (iha h1) (ihb h2)
      · cases h
    · cases h
  | block id a ih =>
    intro L q h
    simp only [compCode, Option.map_eq_some_iff] at h
    obtain ⟨q', h1, rfl⟩ := h
    exact .block (ih h1)
  | loop a ih =>
    intro L q h
    cases L with
    | nil => simp only [compCode] at h; cases h
    | cons live L =>
      simp only [compCode, Option.map_eq_some_iff] at h
      obtain ⟨q', h1, rfl⟩ := h
      exact .loop (ih h1)
  | exit id => intro L q h; simp only [compCode] at h; cases h; exact .exit
  | label l => intro L q h; simp only [compCode] at h; cases h; exact .label
  | goto l => intro L q h; simp only [compCode] at h; cases h; exact .goto
  | ret => intro L q h; simp only [compCode] at h; cases h; exact .ret
  | rangeFunc g ps a b iha ihb =>
    intro L q h
    simp only [compCode] at h
    split at h
    · rename_i h1
      split at h
      · rename_i h2
        cases h
        exact .rangeF (opd_ok ..) (iha h1) (ihb h2)
      · cases h
    · cases h
  | scope a ih =>
    intro L q h
    simp only [compCode] at h
    split at h
    · rename_i h1
      split at h
      · split at h
        · rename_i h2; cases h; exact .scope (ih h1) h2
        · cases h
      · cases h
    · cases h
  | refuse => intro L q h; simp only [compCode] at h; cases h
theorem findL_ok {P : Program} {c : Code} {ir : IR} (hc : CompCode P c ir) (l : Nat) : (findL ir l = none → findLabel c l = none) ∧ ∀ r, findL ir l = some r → ∃ rest, findLabel c l = some rest ∧ CompCode P rest r := by
  induction hc with
  | @seq a b a' b' _ hb iha ihb =>
    simp only [findL, findLabel]
    cases e : findL a' l with
    | none =>
      rw [(iha).1 e]
      exact ihb
    | some r =>
      obtain ⟨rest, e1, hr⟩ := iha.2 r e
      rw [e1]
      refine ⟨fun h => (by cases h), fun r' h => ?_⟩
      cases h
      exact ⟨_, rfl, .seq hr hb⟩
  | @label l' =>
    simp only [findL, findLabel]
    split
    · refine ⟨fun h => (by cases h), fun r' h => ?_⟩
      cases h
      exact ⟨_, rfl, .skip⟩
    · exact ⟨fun _ => rfl, fun r' h => by cases h⟩
  | _ => exact ⟨fun _ => rfl, fun r' h => by cases h⟩
/-- What a walk over code comes to. -/
def Post (B : Base) (G : Glob) (D : List Deferred) (Kn : St → Prop) (Ke : Exit → St → Prop) : Exit → Act → World → Prop
  | .normal, a, w => ∃ S ρ h, Kn S ∧ Rel B G D ρ h S a w
  | .panic _, _, _ => False
  | .outgrown, _, _ => False
  | e, a, w => ∃ S ρ h, Ke e S ∧ Rel B G D ρ h S a w
theorem forgetL_get (live : List Nat) : ∀ (l : List SV) (k i : Nat), (forgetL live k l)[i]? = (l[i]?).map fun x => if live.contains (k + i) then x else .any
  | [], k, i => by simp [forgetL]
  | x :: l, k, 0 => by simp [forgetL]
  | x :: l, k, i + 1 => by
    simp only [forgetL, List.getElem?_cons_succ]
    rw [forgetL_get live l (k + 1) i, show k + 1 + i = k + (i + 1) by omega]
theorem forgetL_length (live : List Nat) : ∀ (l : List SV) (k : Nat), (forgetL live k l).length = l.length
  | [], k => rfl
  | x :: l, k => by simp [forgetL, forgetL_length live l (k + 1)]
theorem renL_length (own : List OB) (ids : List Nat) : ∀ l : List SV, (SV.renL own ids l).length = l.length
  | [] => rfl
  | x :: l => by simp [SV.renL, renL_length own ids l]
theorem renL_get (own : List OB) (ids : List Nat) : ∀ (l : List SV) (i : Nat), (SV.renL own ids l)[i]? = (l[i]?).map (SV.ren own ids)
  | [], i => by simp [SV.renL]
  | x :: l, 0 => by simp [SV.renL]
  | x :: l, i + 1 => by simp [SV.renL, renL_get own ids l i]
theorem Rel.forget {B : Base} {G : Glob} {D : List Deferred} {ρ : Env} {h : Heap} {S : St} {a : Act} {w : World} (r : Rel B G D ρ h S a w) (live : List Nat) {ids : List Nat} (hn : ids.Nodup) : Rel B G D (keepEnv ρ ids) h (S.forget live ids) a w := by
  refine ⟨by simp only [St.forget, renL_length, forgetL_length]; exact r.size, fun i x v e1 e2 => ?_, r.defs, r.sat.keepIds hn, r.glob⟩
  simp only [St.forget, renL_get, forgetL_get, Option.map_map, Option.map_eq_some_iff] at e1
  obtain ⟨y, e3, rfl⟩ := e1
  simp only [Function.comp]
  refine SV.ren_rel r.sat ids _ ?_
  split
  · exact r.tmp i y v e3 e2
  · trivial
theorem least {p : Nat → Prop} : ∀ {n : Nat}, p n → ∃ m, p m ∧ ∀ k, p k → m ≤ k := by
  intro n
  induction n using Nat.strongRecOn with
  | _ n ih =>
    intro hn
    by_cases h : ∃ k, k < n ∧ p k
    · obtain ⟨k, hk, hp⟩ := h; exact ih k hk hp
    · exact ⟨n, hn, fun k hk => Nat.le_of_not_lt fun hlt => h ⟨k, hlt, hk⟩⟩
open Classical in
/-- **A walk over the plain form is one over the code.** -/
theorem vc_sound {P : Program} {B : Base} {G : Glob} {D : List Deferred} {r : Option Nat} {c : Code} {ir : IR} (hc : CompCode P c ir) :
    ∀ {Kn : St → Prop} {Ke : Exit → St → Prop} {ρ : Env} {h : Heap} {S : St} {a : Act} {w : World}, Rel B G D ρ h S a w → vc P G ir S Kn Ke → c.wpIn (FR r) 0 P (Post B G D Kn Ke) a w := by
  induction hc with
  | skip => intro Kn Ke ρ h S a w rl hp; exact wpIn_skip ⟨S, ρ, h, hp, rl⟩
  | @region id ops is hops =>
    intro Kn Ke ρ h S a w rl hp
    refine wpIn_region ?_
    have := vcOps_sound (r := r) (ops := ops) (Q := Post B G D Kn Ke) (K := Kn) (fun S' ρ' h' a' w' hK rl' => ⟨S', ρ', h', hK, rl'⟩) is ops.toList 0 rfl hops rl hp
    rw [List.range_eq_range']
    simpa using this
  | @regionD id ops is hops hlex hm =>
    intro Kn Ke ρ h S a w rl hp
    have hp : vcDraw P G (IOp.apps is) is S Kn := hp
    have rl' : Rel B G D ρ h S a { w with drawn := w.drawn + 1 } := ⟨rl.size, rl.tmp, rl.defs, rl.sat.heap rfl ⟨rfl, rfl⟩, rl.glob⟩
    refine wpIn_region_draw fun t => ?_
    simp only [Region.schedule, hm, Bool.true_or, if_true]
    have hl : is.length = ops.size := by have := hops.length; simpa using this.symm
    have hget : ∀ {os : List Oper} {js : List IOp}, All2 (CompOp P ops) os js → ∀ (i : Nat) o, os[i]? = some o → ∃ io, js[i]? = some io ∧ CompOp P ops o io := by
      intro os js h
      induction h with
      | nil => intro i o e; simp at e
      | cons hx _ ih =>
        intro i o e
        cases i with
        | zero => simp at e; subst e; exact ⟨_, rfl, hx⟩
        | succ i => simp at e; simpa using ih i o e
    have hany := vcAny_lex (ops := ops) (is := is) (K := Kn) is 0 (Array.replicate ops.size false) S (fun j => by simp) (fun k o _ hk => by simp [Array.getElem?_replicate] at hk; split at hk <;> simp at hk) hlex hp
    rw [hl] at hany
    exact vcAny_sound (is := is) (K := Kn) (fun i o e => hget hops i o (by simpa using e)) (fun S' ρ' h' a' w' hK rl' => ⟨S', ρ', h', hK, rl'⟩) ops.size t _ rl' hany
  | seq _ _ iha ihb =>
    intro Kn Ke ρ h S a w rl hp
    refine wpIn_seq (wpIn_mono (iha rl hp) fun e a' w' hpost => ?_)
    cases e with
    | normal => obtain ⟨S', ρ', h', hK, rl'⟩ := hpost; exact ihb rl' hK
    | panic => exact hpost.elim
    | outgrown => exact hpost.elim
    | _ => exact hpost
  | cond hcc _ _ iha ihb =>
    intro Kn Ke ρ h S a w rl hp
    simp only [vc] at hp
    have he := rl.eval hcc
    split at hp
    · rename_i t e1
      rw [e1] at he
      exact wpIn_cond_split he (fun ht => iha rl (hp.1 ht)) fun ht => ihb rl (hp.2 ht)
    · exact hp.elim
  | @block id _ _ _ ih =>
    intro Kn Ke ρ h S a w rl hp
    refine wpIn_block (wpIn_mono (ih rl hp) fun e a' w' hpost => ?_)
    cases e with
    | exit id' =>
      obtain ⟨S', ρ', h', hK, rl'⟩ := hpost
      dsimp only at hK
      simp only [Exit.inBlock]
      split
      · rename_i e; rw [if_pos e] at hK; exact ⟨S', ρ', h', hK, rl'⟩
      · rename_i e; rw [if_neg e] at hK; exact ⟨S', ρ', h', hK, rl'⟩
    | normal => exact hpost
    | panic => exact hpost.elim
    | outgrown => exact hpost.elim
    | goto => exact hpost
    | ret => exact hpost
  | @loop _ _ live _ ih =>
    intro Kn Ke ρ h S a w rl hp
    obtain ⟨I, X, hX, ⟨n, ids, hnd, hn⟩, round⟩ := hp
    let J : Nat → Act → World → Prop := fun n a w => ∃ S ρ h, I n S ∧ Rel B G D ρ h S a w
    let μ : Act → World → Nat := fun a w => if hx : ∃ m, J m a w ∧ ∀ k, J k a w → m ≤ k then hx.choose else 0
    have hle : ∀ n a w, J n a w → μ a w ≤ n := fun n a w hj => by
      have hx : ∃ m, J m a w ∧ ∀ k, J k a w → m ≤ k := least hj
      simp only [μ, dif_pos hx]
      exact hx.choose_spec.2 n hj
    refine wpIn_loop (fun a w => ∃ n, J n a w) μ ⟨n, _, _, h, hn, rl.forget live hnd⟩ fun a w hI => ?_
    have hm : J (μ a w) a w := by
      obtain ⟨n, hj⟩ := hI
      have hx : ∃ m, J m a w ∧ ∀ k, J k a w → m ≤ k := least hj
      simp only [μ, dif_pos hx]
      exact hx.choose_spec.1
    obtain ⟨S', ρ', h', hI', rl'⟩ := hm
    refine wpIn_mono (ih rl' (round _ S' hI')) fun e a' w' hpost => ?_
    cases e with
    | normal =>
      obtain ⟨S2, ρ2, h2, ⟨m, ids2, hnd2, hlt, hm⟩, rl2⟩ := hpost
      have hj : J m a' w' := ⟨_, _, h2, hm, rl2.forget live hnd2⟩
      exact ⟨⟨m, hj⟩, Nat.lt_of_le_of_lt (hle m a' w' hj) hlt⟩
    | panic => exact hpost.elim
    | outgrown => exact hpost.elim
    | _ =>
      obtain ⟨S2, ρ2, h2, hK, rl2⟩ := hpost
      rcases hX _ _ hK with hK | ⟨lv, ids2, hnd2, hK⟩
      · exact ⟨S2, ρ2, h2, hK, rl2⟩
      · exact ⟨_, _, h2, hK, rl2.forget lv hnd2⟩
  | exit => intro Kn Ke ρ h S a w rl hp; exact wpIn_exit ⟨S, ρ, h, hp, rl⟩
  | label => intro Kn Ke ρ h S a w rl hp; exact wpIn_label ⟨S, ρ, h, hp, rl⟩
  | goto => intro Kn Ke ρ h S a w rl hp; exact wpIn_goto ⟨S, ρ, h, hp, rl⟩
  | ret => intro Kn Ke ρ h S a w rl hp; exact wpIn_ret ⟨S, ρ, h, hp, rl⟩
  | scope => intro Kn Ke ρ h S a w rl hp; exact hp.elim
  | rangeF => intro Kn Ke ρ h S a w rl hp; exact hp.elim
  | regionA => intro Kn Ke ρ h S a w rl hp; exact hp.elim
  | badR => intro Kn Ke ρ h S a w rl hp; exact hp.elim
end Go.Fx
namespace Go.Fx
/-- A function's results, as the walk has left them. -/
def resSV (P : Program) (S : St) : List ResultVar → Prop × List SV
  | [] => (True, [])
  | .tmp t :: rs => ((resSV P S rs).1, (S.t.getD t .any).res S.own :: (resSV P S rs).2)
  | .cell a t :: rs => ((SV.ld S.own (isAggT P t) (P.cellsOf t) ((S.t.getD a .any).res S.own)).1 ∧ (resSV P S rs).1, (SV.ld S.own (isAggT P t) (P.cellsOf t) ((S.t.getD a .any).res S.own)).2 :: (resSV P S rs).2)
def oneV : List Value → Value
  | [x] => x
  | xs => .tuple xs.toArray
def oneSV : List SV → SV
  | [x] => x
  | xs => .tup xs
/-- The result is r. -/
def resK (P : Program) (rs : List ResultVar) (r : PV) (S : St) : Prop :=
  (resSV P S rs).1 ∧ (oneSV (resSV P S rs).2).pvS (fzL S.own ((resSV P S rs).2.flatMap (SV.ids S.own))) = some r
def resOk (P : Program) (rs : List ResultVar) : Bool := rs.all fun
  | .tmp _ => true
  | .cell _ t => (P.underlying t).isSome && (P.info? t).isSome && (isAggT P t || P.cellsOf t == 1)
theorem Rel.slot {B : Base} {G : Glob} {D : List Deferred} {ρ : Env} {h : Heap} {S : St} {a : Act} {w : World} (r : Rel B G D ρ h S a w) (t : Nat) : ((S.t.getD t .any).res S.own).rel ρ h (a.tmps.getD t undef) := by
  have := r.eval (x := .tmp t) (y := .tmp t) (.tmp t)
  exact this
def resOne (tmps : Array Value) : ResultVar → Sem Value
  | .tmp t => pure (tmps.getD t undef)
  | .cell a t => do loadVar t (← asAddr (tmps.getD a undef))
theorem results_eq (fn : Func) (tmps : Array Value) : results fn tmps = (fn.results.mapM (resOne tmps) >>= fun vs => pure (if h : vs.size = 1 then vs[0] else .tuple vs)) := by
  unfold results
  congr 1
theorem results_run {P : Program} {B : Base} {G : Glob} {D : List Deferred} {ρ : Env} {h : Heap} {S : St} {a : Act} {w : World} (rl : Rel B G D ρ h S a w) : ∀ (rs : List ResultVar), resOk P rs = true → (resSV P S rs).1 →
    ∃ vs : List Value, (rs.mapM (resOne a.tmps)).run P w = .ok vs w ∧ SV.relL ρ h (resSV P S rs).2 vs
  | [], _, _ => ⟨[], rfl, rfl⟩
  | .tmp t :: rs, h1, h2 => by
    obtain ⟨vs, g1, g2⟩ := results_run rl rs (by simpa [resOk] using h1) h2
    refine ⟨a.tmps.getD t undef :: vs, ?_, _, vs, rfl, rl.slot t, g2⟩
    simp only [List.mapM_cons, resOne, Sem.run_bind, Sem.run_pure, Result.andThen_ok, g1]
  | .cell x t :: rs, h1, h2 => by
    simp only [resOk, List.all_cons, Bool.and_eq_true] at h1
    obtain ⟨⟨⟨h3, h4⟩, h5⟩, h6⟩ := h1
    obtain ⟨d, hd⟩ := Option.isSome_iff_exists.1 h3
    obtain ⟨i, hi⟩ := Option.isSome_iff_exists.1 h4
    obtain ⟨vs, g1, g2⟩ := results_run rl rs h6 h2.2
    obtain ⟨u, g3, g4⟩ := SV.ld_rel hd hi (fun e => by simpa [e] using h5) rl.sat (rl.slot x) h2.1
    refine ⟨u :: vs, ?_, u, vs, rfl, g4, g2⟩
    have g5 : (resOne a.tmps (.cell x t)).run P w = .ok u w := by
      unfold resOne
      dsimp only
      generalize a.tmps.getD x undef = v at g3 ⊢
      cases v <;> simp [Instr.loadAt, Instr.sureAddr, stuck] at g3
      rename_i ad
      cases ad with
      | none => simp [stuck] at g3
      | some ad => simp only [asAddr, Sem.run_bind, Sem.run_pure, Result.andThen_ok]; simpa using g3
    simp only [List.mapM_cons, Sem.run_bind, g5, Result.andThen_ok, g1, Sem.run_pure]
/-! ### Marks of ranges over functions -/
theorem tabOk_cm {h h' : Heap} (hh : Heap.cle h h') {g : Nat} : ∀ {x : PV}, tabOk h g x → tabOk h' g x := fun {x} e => by
  cases x with
  | iref k l i => obtain ⟨c, ty, fz, h1, h2⟩ := e; exact ⟨c, ty, fz, hh _ _ _ _ h1, h2⟩
  | _ => trivial
theorem markOf_inj {a b : Nat} (h : markOf a = markOf b) : a = b := by
  simp only [markOf, Deferred.mk.injEq, Target.collected.injEq, and_true] at h
  exact h
/-- A mark is taken: its block is shut. -/
theorem Rel.unmark {B : Base} {G : Glob} {ρ : Env} {h : Heap} {S : St} {a : Act} {w : World} (rl : Rel B G [] ρ h S a w) {d : Deferred} {ds : List Deferred} (hd : a.defers = d :: ds) :
    ∃ b, d = markOf b ∧ w.heap[b]? = some (.deferred (some [])) ∧ ∃ h2, Rel B G [] ρ h2 S { a with defers := ds } (w.putObj b (.deferred none)) := by
  obtain ⟨bs, e1, e2, e3⟩ := rl.defs
  rw [hd, List.append_nil] at e1
  cases bs with
  | nil => cases e1
  | cons b bs =>
    rw [List.map_cons] at e1
    obtain ⟨rfl, rfl⟩ := List.cons.inj e1
    obtain ⟨hb1, hb2⟩ := e3 b (List.mem_cons_self ..)
    have s := rl.sat
    have hcl : Heap.cle h (fun x => if x = b then none else h x) := fun x c ty fz e => by
      show (if x = b then none else h x) = _
      rw [if_neg (fun e' => by subst e'; rw [hb2] at e; cases e)]
      exact e
    refine ⟨b, rfl, s.sub _ _ hb2, fun x => if x = b then none else h x, ⟨rl.size, fun i x v f1 f2 => SV.rel_cm (Env.le_refl _) hcl _ _ (rl.tmp i x v f1 f2), ?_, ?_, fun g x e => ?_⟩⟩
    · refine ⟨bs, by simp, (List.nodup_cons.1 e2).2, fun b' hb' => ?_⟩
      have hne : b' ≠ b := fun e => (List.nodup_cons.1 e2).1 (e ▸ hb')
      obtain ⟨g1, g2⟩ := e3 b' (List.mem_cons_of_mem _ hb')
      exact ⟨g1, by show (if b' = b then none else h b') = _; rw [if_neg hne]; exact g2⟩
    · exact {
        len := s.len
        sub := fun x o e => by
          have e : (if x = b then none else h x) = some o := e
          split at e
          · cases e
          · rename_i hne
            exact (World.putObj_heap_other hne).trans (s.sub x o e)
        ent := fun i ob v f1 f2 => OB.sat_cm (Env.le_refl _) hcl (s.ent i ob v f1 f2) fun b' hb' => World.putObj_heap_other fun e => by
          subst e
          rw [s.apart i ob v _ f1 f2 hb'] at hb2
          cases hb2
        nodup := s.nodup
        apart := fun i ob v x f1 f2 f3 => by
          show (if x = b then none else h x) = none
          split
          · rfl
          · exact s.apart i ob v x f1 f2 f3
        size := by rw [World.putObj_size]; exact s.size
        keep := fun x h1 h2 => (World.putObj_heap_other (by omega)).trans (s.keep x h1 h2)
        old := fun x h1 h2 => by
          show (if x = b then none else h x) = _
          rw [if_neg (by omega)]
          exact s.old x h1 h2
        mine := s.mine
        outer := s.outer }
    · exact ⟨PV.rel_cm hcl _ _ (rl.glob g x e).1, tabOk_cm hcl (rl.glob g x e).2⟩
/-- A function leaves, its marks and all. -/
theorem leaves_rel {P : Program} {G : Glob} {B : Base} {fn : Func} {R : Ending → World → Prop} {S : St} {ρ : Env} (tmps : Array Value)
    (fin : ∀ (h' : Heap) (w' : World), Rel B G [] ρ h' S ⟨tmps, []⟩ w' → ∃ v, (results fn tmps).run P w' = .ok v w' ∧ R (.returned v) w') :
    ∀ (ds : List Deferred) {h : Heap} {w : World}, Rel B G [] ρ h S ⟨tmps, ds⟩ w → LeavesInM (FR none) 0 P fn tmps R ds .returning w
  | [], _, _, rl => fin _ _ rl
  | d :: ds, h, w, rl => by
    obtain ⟨b, rfl, h1, h2, h3⟩ := rl.unmark rfl
    exact ⟨by simp, .inl ⟨b, _, rfl, run_takeDeferred h1, leaves_rel tmps fin ds h3⟩⟩
theorem calls_of_marks {P : Program} {f : FuncId} {fn : Func} {c : Code} {args : Array Value} {w : World} {R : Ending → World → Prop} {Q : Exit → Act → World → Prop} (hf : P.funcs[f]? = some fn) (hb : fn.body = some c)
    (h : c.wpIn (FR none) 0 P Q { tmps := args ++ Array.replicate (fn.ntmps - args.size) undef, defers := [] } w) (hQ : ∀ e a w', Q e a w' → bodyPostM (FR none) 0 P fn R e a w') : Calls P f args w R :=
  callsIn_wide.1 (callsIn_of_wp_marks hf hb trivial (wpIn_mono h hQ))
/-- **A function's contract out of a walk over its plain form.** -/
theorem fun_of_core {P : Program} {G : Glob} {f : FuncId} {fn : Func} {c : Code} (hf : P.funcs[f]? = some fn) (hb : fn.body = some c) (hok : calleeOk P f = true)
    (hres : resOk P fn.results.toList = true) {args : List PV} {r : PV} {n : Nat} (hnt : fn.ntmps = n)
    (hvc : ∀ (B : Base) (D : List Deferred) (ρ : Env) (h : Heap) (a : Act) (w : World), Rel B G D ρ h ⟨args.map .p ++ List.replicate (n - args.length) .any, []⟩ a w →
      c.wpIn (FR none) 0 P (Post B G D (resK P fn.results.toList r) (fun e S => e = .ret ∧ resK P fn.results.toList r S)) a w) : FunEq P G f args r := by
  refine ⟨hok, fun w h vs hs hG hargs => ?_⟩
  let B : Base := ⟨w, h, fun _ => False⟩
  have hl := (PV.relL_get hargs).1
  have sat : Sat B [] h [] w := {
    len := rfl
    sub := hs
    ent := fun i ob v e _ => by simp at e
    nodup := fun i j ob ob' v v' b e _ _ _ _ _ => by simp at e
    apart := fun i ob v b e _ _ => by simp at e
    size := Nat.le_refl _
    keep := fun _ _ _ => rfl
    old := fun _ _ _ => rfl
    mine := fun i ob v b e _ _ => by simp at e
    outer := Out.refl }
  have rl : Rel B G [] [] h ⟨args.map .p ++ List.replicate (n - args.length) .any, []⟩ { tmps := vs.toArray ++ Array.replicate (fn.ntmps - vs.toArray.size) undef, defers := [] } w := by
    refine ⟨by simp [hnt, hl], fun i x v e1 e2 => ?_, Defs.refl _ _ _, sat, hG⟩
    simp only at e1 e2
    rcases Nat.lt_or_ge i args.length with hi | hi
    · rw [List.getElem?_append_left (by simpa using hi)] at e1
      rw [Array.getElem?_append_left (by simp; omega)] at e2
      exact (SV.relL_get (SV.relL_p (ρ := []) hargs)).2 i x v e1 (by simpa using e2)
    · rw [List.getElem?_append_right (by simpa using hi)] at e1
      have := (List.getElem?_eq_some_iff.1 e1).2
      rw [List.getElem_replicate] at this
      rw [← this]; trivial
  have hw := hvc _ _ _ _ _ _ rl
  have fin : ∀ (S : St) (ρ : Env) (h' : Heap) (a : Act) (w' : World), resK P fn.results.toList r S → Rel B G [] ρ h' S a w' → ∃ v, (results fn a.tmps).run P w' = .ok v w' ∧
      (fun (e : Ending) (w' : World) => ∃ v, e = .returned v ∧ r.rel (grow h w w') v ∧ w.heap.size ≤ w'.heap.size ∧ (∀ b : Nat, b < w.heap.size → w'.heap[b]? = w.heap[b]?) ∧ Out w w') (.returned v) w' := by
    intro S ρ h' a w' hK rl'
    obtain ⟨hK1, hK2⟩ := hK
    obtain ⟨us, g1, g2⟩ := results_run rl' fn.results.toList hres hK1
    obtain ⟨h2, l2, s2⟩ := fzL_sat ((resSV P S fn.results.toList).2.flatMap (SV.ids S.own)) rl'.sat
    have hle : h2 ≤ grow h w w' := fun b o e => by
      simp only [grow]
      split
      · rename_i hb; have := s2.old b hb (fun x => x); rw [this] at e; exact e
      · exact s2.sub b o e
    have hone : ∀ (xs : List SV) (us : List Value), SV.relL ρ h' xs us → (oneSV xs).rel ρ h' (oneV us) := by
      intro xs us hx
      match xs, us, hx with
      | [], us, e =>
        have : us = [] := e
        subst this; exact ⟨[], rfl, rfl⟩
      | [x], us, ⟨v, vs', e, h1, h2⟩ =>
        have : vs' = [] := h2
        subst this; subst e; exact h1
      | x :: y :: xs, us, ⟨v, vs', e, h1, ⟨v2, vs2, e2, h3, h4⟩⟩ =>
        subst e; subst e2
        exact ⟨_, rfl, v, _, rfl, h1, v2, vs2, rfl, h3, h4⟩
    refine ⟨oneV us, ?_, _, rfl, ?_, rl'.sat.size, fun b hb => rl'.sat.keep b hb fun x => x, rl'.sat.outer⟩
    · rw [results_eq, Sem.run_bind]
      have e2 : (fn.results.mapM (resOne a.tmps)).run P w' = .ok us.toArray w' := by
        rw [Array.mapM_eq_mapM_toList]
        simp only [Sem.run_map, g1, Result.andThen_ok]
      rw [e2]
      simp only [Result.andThen_ok, Sem.run_pure]
      match us with
      | [] => rfl
      | [u] => rfl
      | u :: v :: us => simp [oneV]
    · exact PV.rel_mono hle _ _ (SV.pvS_rel s2 _ _ _ hK2 (SV.rel_mono (Env.le_refl _) l2 _ _ (hone _ _ g2)))
  refine calls_of_marks hf hb hw fun e a w' hpost => ?_
  cases e with
  | normal => obtain ⟨S, ρ, h', hK, rl'⟩ := hpost; exact leaves_rel a.tmps (fun h2 w2 r2 => fin S ρ h2 ⟨a.tmps, []⟩ w2 hK r2) a.defers rl'
  | ret => obtain ⟨S, ρ, h', ⟨_, hK⟩, rl'⟩ := hpost; exact leaves_rel a.tmps (fun h2 w2 r2 => fin S ρ h2 ⟨a.tmps, []⟩ w2 hK r2) a.defers rl'
  | panic => exact hpost.elim
  | outgrown => exact hpost.elim
  | exit => obtain ⟨S, ρ, h', ⟨e, _⟩, rl'⟩ := hpost; cases e
  | goto => obtain ⟨S, ρ, h', ⟨e, _⟩, rl'⟩ := hpost; cases e
/-- What a function that is handed a row leaves: the row, or a new one. -/
def rowK (ty : TypeId) (k : IntKind) (nil' : Bool) (l' : List Int) (rs : List ResultVar) (S : St) : Prop :=
  ∃ t id ex', rs = [.tmp t] ∧ S.t.getD t .any = .row id ∧ S.own.getD id .gone = .irow ty k nil' ex' l'
theorem irow_any {ρ ρ' : Env} {h h' : Heap} {w : World} {ty k nil ex l v} (hs : (OB.irow ty k nil ex l).sat ρ h w v) : (OB.irow ty k nil ex l).sat ρ' h' w v := hs
theorem irow_loose {ρ : Env} {h : Heap} {w : World} {ty k nil ex l v} (hs : (OB.irow ty k nil ex l).sat ρ h w v) : (OB.irow ty k nil false l).sat ρ h w v := by
  rcases hs with hs | ⟨h1, b, c, cap, h2, h3, _, h4⟩
  · exact .inl hs
  · exact .inr ⟨h1, b, c, cap, h2, h3, (fun e => by cases e), h4⟩
theorem irow_fp (ty : TypeId) (k : IntKind) (nil ex nil' ex' : Bool) (l : List Int) (v : Value) : (OB.irow ty k nil ex l).fp v = (OB.irow ty k nil' ex' l).fp v := by
  cases v <;> first | rfl | skip
  rename_i a _ _
  cases a <;> rfl
theorem row_of_core {P : Program} {G : Glob} {f : FuncId} {fn : Func} {c : Code} (hf : P.funcs[f]? = some fn) (hb : fn.body = some c) (hok : calleeOk P f = true)
    {ty : TypeId} {k : IntKind} {nil ex : Bool} {l : List Int} {args : List PV} {nil' : Bool} {l' : List Int} {n : Nat} (hnt : fn.ntmps = n)
    (hvc : ∀ (B : Base) (D : List Deferred) (ρ : Env) (h : Heap) (a : Act) (w : World), Rel B G D ρ h ⟨.row 0 :: (args.map .p ++ List.replicate (n - (args.length + 1)) .any), [.irow ty k nil ex l]⟩ a w →
      c.wpIn (FR none) 0 P (Post B G D (rowK ty k nil' l' fn.results.toList) (fun e S => e = .ret ∧ rowK ty k nil' l' fn.results.toList S)) a w) : FunRow P G f ty k nil ex l args nil' l' := by
  refine ⟨hok, fun w h v vs hs hG hsat hone hap hargs => ?_⟩
  let B : Base := ⟨w, h, fun b => (OB.irow ty k nil ex l).fp v = some b⟩
  have hl := (PV.relL_get hargs).1
  have one : ∀ (i : Nat) ob (u : Value), [OB.irow ty k nil ex l][i]? = some ob → [v][i]? = some u → i = 0 ∧ ob = .irow ty k nil ex l ∧ u = v := fun i ob u e1 e2 => by
    cases i with
    | zero => simp at e1 e2; exact ⟨rfl, e1.symm, e2.symm⟩
    | succ i => simp at e1
  have sat : Sat B [v] h [.irow ty k nil ex l] w := {
    len := rfl
    sub := hs
    ent := fun i ob u e1 e2 => by obtain ⟨_, rfl, rfl⟩ := one i ob u e1 e2; exact irow_any hsat
    nodup := fun i j ob ob' u u' b e1 e2 e3 e4 _ _ => by rw [(one i ob u e1 e2).1, (one j ob' u' e3 e4).1]
    apart := fun i ob u b e1 e2 e3 => by obtain ⟨_, rfl, rfl⟩ := one i ob u e1 e2; exact hap b e3
    size := Nat.le_refl _
    keep := fun _ _ _ => rfl
    old := fun _ _ _ => rfl
    mine := fun i ob u b e1 e2 e3 => by obtain ⟨_, rfl, rfl⟩ := one i ob u e1 e2; exact .inl e3
    outer := Out.refl }
  have rl : Rel B G [] [v] h ⟨.row 0 :: (args.map .p ++ List.replicate (n - (args.length + 1)) .any), [.irow ty k nil ex l]⟩ { tmps := (v :: vs).toArray ++ Array.replicate (fn.ntmps - (v :: vs).toArray.size) undef, defers := [] } w := by
    have ea : ((v :: vs).toArray ++ Array.replicate (fn.ntmps - (v :: vs).toArray.size) undef) = (v :: (vs ++ List.replicate (fn.ntmps - (v :: vs).toArray.size) undef)).toArray := by apply Array.ext'; simp
    rw [ea]
    refine ⟨by simp [hnt, hl], fun i x u e1 e2 => ?_, Defs.refl _ _ _, sat, hG⟩
    simp only [List.getElem?_toArray] at e1 e2
    cases i with
    | zero =>
      simp at e1 e2
      subst e1; subst e2
      exact ⟨rfl, hone⟩
    | succ i =>
      rw [List.getElem?_cons_succ] at e1
      rcases Nat.lt_or_ge i args.length with hi | hi
      · rw [List.getElem?_append_left (by simpa using hi)] at e1
        rw [List.getElem?_cons_succ, List.getElem?_append_left (by omega)] at e2
        exact (SV.relL_get (SV.relL_p (ρ := [v]) hargs)).2 i x u e1 e2
      · rw [List.getElem?_append_right (by simpa using hi)] at e1
        have := (List.getElem?_eq_some_iff.1 e1).2
        rw [List.getElem_replicate] at this
        rw [← this]; trivial
  have hw := hvc _ _ _ _ _ _ rl
  have fin : ∀ (S : St) (ρ : Env) (h' : Heap) (a : Act) (w' : World), rowK ty k nil' l' fn.results.toList S → Rel B G [] ρ h' S a w' → ∃ v', (results fn a.tmps).run P w' = .ok v' w' ∧
      (fun (e : Ending) (w' : World) => ∃ v', e = .returned v' ∧ (OB.irow ty k nil' false l').sat [] h w' v' ∧ v'.oneCell' = true ∧ (∀ b, (OB.irow ty k nil' false l').fp v' = some b → (OB.irow ty k nil ex l).fp v = some b ∨ w.heap.size ≤ b) ∧
        w.heap.size ≤ w'.heap.size ∧ (∀ b : Nat, b < w.heap.size → (OB.irow ty k nil ex l).fp v ≠ some b → w'.heap[b]? = w.heap[b]?) ∧ Out w w') (.returned v') w' := by
    intro S ρ h' a w' ⟨t, id, ex', e1, e2, e3⟩ rl'
    have hsl := rl'.slot t
    rw [e2] at hsl
    simp only [SV.res, e3] at hsl
    have hr : (results fn a.tmps).run P w' = .ok (a.tmps.getD t undef) w' := by
      rw [results_eq, Sem.run_bind]
      have e4 : (fn.results.mapM (resOne a.tmps)).run P w' = .ok #[a.tmps.getD t undef] w' := by
        rw [Array.mapM_eq_mapM_toList, e1]
        simp only [Sem.run_map, List.mapM_cons, List.mapM_nil, Sem.run_bind, Sem.run_pure, Result.andThen_ok, resOne]
      rw [e4]
      rfl
    obtain ⟨hv, hone'⟩ := hsl
    obtain ⟨hi, hs'⟩ := rl'.sat.look hv e3 (by simp)
    refine ⟨_, hr, _, rfl, irow_loose (irow_any hs'), hone', fun b hb => ?_, rl'.sat.size, fun b h1 h2 => rl'.sat.keep b h1 h2, rl'.sat.outer⟩
    exact rl'.sat.mine id _ _ b hi hv ((irow_fp ..).trans hb)
  refine calls_of_marks hf hb hw fun e a w' hpost => ?_
  cases e with
  | normal => obtain ⟨S, ρ, h', hK, rl'⟩ := hpost; exact leaves_rel a.tmps (fun h2 w2 r2 => fin S ρ h2 ⟨a.tmps, []⟩ w2 hK r2) a.defers rl'
  | ret => obtain ⟨S, ρ, h', ⟨_, hK⟩, rl'⟩ := hpost; exact leaves_rel a.tmps (fun h2 w2 r2 => fin S ρ h2 ⟨a.tmps, []⟩ w2 hK r2) a.defers rl'
  | panic => exact hpost.elim
  | outgrown => exact hpost.elim
  | exit => obtain ⟨S, ρ, h', ⟨e, _⟩, rl'⟩ := hpost; cases e
  | goto => obtain ⟨S, ρ, h', ⟨e, _⟩, rl'⟩ := hpost; cases e
/-- What a function leaves that gives back a new row. -/
def newK (P : Program) (ty : TypeId) (k : IntKind) (nil' : Bool) (l' : List Int) (rest : List PV) (rs : List ResultVar) (S : St) : Prop :=
  (resSV P S rs).1 ∧ PV.flatL rest = true ∧ rest ≠ [] ∧ ∃ x, (resSV P S rs).2 = x :: rest.map .p ∧ ((∃ id ex', x = .row id ∧ S.own.getD id .gone = .irow ty k nil' ex' l') ∨ (∃ ex' m, x = .p (.isl true ex' k m) ∧ nil' = true ∧ l' = []))
theorem new_of_core {P : Program} {G : Glob} {f : FuncId} {fn : Func} {c : Code} (hf : P.funcs[f]? = some fn) (hb : fn.body = some c) (hok : calleeOk P f = true)
    (hres : resOk P fn.results.toList = true) {ty : TypeId} {k : IntKind} {args : List PV} {nil' : Bool} {l' : List Int} {rest : List PV} {n : Nat} (hnt : fn.ntmps = n)
    (hvc : ∀ (B : Base) (D : List Deferred) (ρ : Env) (h : Heap) (a : Act) (w : World), Rel B G D ρ h ⟨args.map .p ++ List.replicate (n - args.length) .any, []⟩ a w →
      c.wpIn (FR none) 0 P (Post B G D (newK P ty k nil' l' rest fn.results.toList) (fun e S => e = .ret ∧ newK P ty k nil' l' rest fn.results.toList S)) a w) : FunNew P G f ty k args nil' l' rest := by
  refine ⟨hok, fun w h vs hs hG hargs => ?_⟩
  let B : Base := ⟨w, h, fun _ => False⟩
  have hl := (PV.relL_get hargs).1
  have sat : Sat B [] h [] w := {
    len := rfl
    sub := hs
    ent := fun i ob v e _ => by simp at e
    nodup := fun i j ob ob' v v' b e _ _ _ _ _ => by simp at e
    apart := fun i ob v b e _ _ => by simp at e
    size := Nat.le_refl _
    keep := fun _ _ _ => rfl
    old := fun _ _ _ => rfl
    mine := fun i ob v b e _ _ => by simp at e
    outer := Out.refl }
  have rl : Rel B G [] [] h ⟨args.map .p ++ List.replicate (n - args.length) .any, []⟩ { tmps := vs.toArray ++ Array.replicate (fn.ntmps - vs.toArray.size) undef, defers := [] } w := by
    refine ⟨by simp [hnt, hl], fun i x v e1 e2 => ?_, Defs.refl _ _ _, sat, hG⟩
    simp only at e1 e2
    rcases Nat.lt_or_ge i args.length with hi | hi
    · rw [List.getElem?_append_left (by simpa using hi)] at e1
      rw [Array.getElem?_append_left (by simp; omega)] at e2
      exact (SV.relL_get (SV.relL_p (ρ := []) hargs)).2 i x v e1 (by simpa using e2)
    · rw [List.getElem?_append_right (by simpa using hi)] at e1
      have := (List.getElem?_eq_some_iff.1 e1).2
      rw [List.getElem_replicate] at this
      rw [← this]; trivial
  have hw := hvc _ _ _ _ _ _ rl
  have fin : ∀ (S : St) (ρ : Env) (h' : Heap) (a : Act) (w' : World), newK P ty k nil' l' rest fn.results.toList S → Rel B G [] ρ h' S a w' → ∃ v, (results fn a.tmps).run P w' = .ok v w' ∧
      (fun (e : Ending) (w' : World) => ∃ u us, e = .returned (.tuple (u :: us).toArray) ∧ (OB.irow ty k nil' false l').sat [] h w' u ∧ u.oneCell' = true ∧ (∀ b, (OB.irow ty k nil' false l').fp u = some b → w.heap.size ≤ b) ∧ PV.relL h rest us ∧
        w.heap.size ≤ w'.heap.size ∧ (∀ b : Nat, b < w.heap.size → w'.heap[b]? = w.heap[b]?) ∧ Out w w') (.returned v) w' := by
    intro S ρ h' a w' ⟨hK1, hfl, hne, x, hx, hrow⟩ rl'
    obtain ⟨us, g1, g2⟩ := results_run rl' fn.results.toList hres hK1
    rw [hx] at g2
    obtain ⟨u, us', rfl, g3, g4⟩ := g2
    have hrest : PV.relL h rest us' := PV.flatL_rel _ _ hfl (SV.relL_of_p g4)
    have hr : (results fn a.tmps).run P w' = .ok (.tuple (u :: us').toArray) w' := by
      rw [results_eq, Sem.run_bind]
      have e2 : (fn.results.mapM (resOne a.tmps)).run P w' = .ok (u :: us').toArray w' := by
        rw [Array.mapM_eq_mapM_toList]
        simp only [Sem.run_map, g1, Result.andThen_ok]
      rw [e2]
      simp only [Result.andThen_ok, Sem.run_pure]
      cases rest with
      | nil => exact absurd rfl hne
      | cons z zs =>
        obtain ⟨u2, us2, rfl, _, _⟩ := hrest
        simp
    refine ⟨_, hr, u, us', rfl, ?_⟩
    have tail : PV.relL h rest us' ∧ w.heap.size ≤ w'.heap.size ∧ (∀ b : Nat, b < w.heap.size → w'.heap[b]? = w.heap[b]?) ∧ Out w w' := ⟨hrest, rl'.sat.size, fun b hb => rl'.sat.keep b hb fun x => x, rl'.sat.outer⟩
    rcases hrow with ⟨id, ex', rfl, e3⟩ | ⟨ex', m, rfl, rfl, rfl⟩
    · obtain ⟨hv, hone'⟩ := g3
      obtain ⟨hi, hs'⟩ := rl'.sat.look hv e3 (by simp)
      refine ⟨irow_loose (irow_any hs'), hone', fun b hb => ?_, tail⟩
      exact (rl'.sat.mine id _ _ b hi hv ((irow_fp ..).trans hb)).resolve_left (fun x => x)
    · obtain ⟨ad, cap, rfl, q1, q2, q3, q4, _⟩ := g3
      obtain rfl : ad = none := q3.1 rfl
      obtain rfl := q4 rfl
      have ql : m.length = 0 := by omega
      rw [ql]
      exact ⟨.inl ⟨rfl, rfl, rfl⟩, rfl, (fun b hb => by cases hb), tail⟩
  refine calls_of_marks hf hb hw fun e a w' hpost => ?_
  cases e with
  | normal => obtain ⟨S, ρ, h', hK, rl'⟩ := hpost; exact leaves_rel a.tmps (fun h2 w2 r2 => fin S ρ h2 ⟨a.tmps, []⟩ w2 hK r2) a.defers rl'
  | ret => obtain ⟨S, ρ, h', ⟨_, hK⟩, rl'⟩ := hpost; exact leaves_rel a.tmps (fun h2 w2 r2 => fin S ρ h2 ⟨a.tmps, []⟩ w2 hK r2) a.defers rl'
  | panic => exact hpost.elim
  | outgrown => exact hpost.elim
  | exit => obtain ⟨S, ρ, h', ⟨e, _⟩, rl'⟩ := hpost; cases e
  | goto => obtain ⟨S, ρ, h', ⟨e, _⟩, rl'⟩ := hpost; cases e
theorem row_of_vc {P : Program} {G : Glob} {f : FuncId} {fn : Func} {c : Code} {ir : IR} (L : List (List Nat)) (hf : P.funcs[f]? = some fn) (hb : fn.body = some c) (hok : calleeOk P f = true)
    (hir : compCode P c L = some (ir, [])) {ty : TypeId} {k : IntKind} {nil ex : Bool} {l : List Int} {args : List PV} {nil' : Bool} {l' : List Int} {n : Nat} (hnt : fn.ntmps = n)
    (hvc : vc P G ir ⟨.row 0 :: (args.map .p ++ List.replicate (n - (args.length + 1)) .any), [.irow ty k nil ex l]⟩ (rowK ty k nil' l' fn.results.toList) (fun e S => e = .ret ∧ rowK ty k nil' l' fn.results.toList S)) : FunRow P G f ty k nil ex l args nil' l' :=
  row_of_core hf hb hok hnt fun _ _ _ _ _ _ rl => vc_sound (compCode_ok hir) rl hvc
theorem fun_of_vc {P : Program} {G : Glob} {f : FuncId} {fn : Func} {c : Code} {ir : IR} (L : List (List Nat)) (hf : P.funcs[f]? = some fn) (hb : fn.body = some c) (hok : calleeOk P f = true)
    (hir : compCode P c L = some (ir, [])) (hres : resOk P fn.results.toList = true) {args : List PV} {r : PV} {n : Nat} (hnt : fn.ntmps = n)
    (hvc : vc P G ir ⟨args.map .p ++ List.replicate (n - args.length) .any, []⟩ (resK P fn.results.toList r) (fun e S => e = .ret ∧ resK P fn.results.toList r S)) : FunEq P G f args r := by
  exact fun_of_core hf hb hok hres hnt fun _ _ _ _ _ _ rl => vc_sound (compCode_ok hir) rl hvc
end Go.Fx
