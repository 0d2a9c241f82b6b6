/-
  Fx, part 13: a function cut in pieces: what is known behind a piece is told, and no more is carried on.
-/
import Derived.Test.YtlfffpkfipdboaaDoorFxRun
set_option linter.unusedSimpArgs false
set_option linter.unusedVariables false
namespace Go.Fx
/-- What a piece of code does, by its meaning. -/
def Does (P : Program) (G : Glob) (ir : IR) (S : St) (Kn : St → Prop) (Ke : Exit → St → Prop) : Prop :=
  ∀ (c : Code) (B : Base) (D : List Deferred) (ρ : Env) (h : Heap) (a : Act) (w : World), CompCode P c ir → Rel B G D ρ h S a w → c.wpIn (FR none) 0 P (Post B G D Kn Ke) a w
variable {P : Program} {G : Glob} {S : St} {Kn : St → Prop} {Ke : Exit → St → Prop}
theorem does_of_vc {ir : IR} (h : vc P G ir S Kn Ke) : Does P G ir S Kn Ke := fun _ _ _ _ _ _ _ hc rl => vc_sound hc rl h
theorem does_of {ir : IR} (h : run P G [.ir ir] S Kn Ke) : Does P G ir S Kn Ke := does_of_vc (run_of h)
theorem does_forget {ir : IR} (lv : List Nat) {ids : List Nat} (hn : ids.Nodup) (h : Does P G ir (S.forget lv ids) Kn Ke) : Does P G ir S Kn Ke :=
  fun c B D ρ h' a w hc rl => h c B D _ h' a w hc (rl.forget lv hn)
theorem does_seq {a b : IR} {M : St → Prop} (ha : vc P G a S M Ke) (hb : ∀ S', M S' → Does P G b S' Kn Ke) : Does P G (.seq a b) S Kn Ke := by
  intro c B D ρ h ac w hc rl
  cases hc with
  | seq h1 h2 =>
    refine wpIn_seq (wpIn_mono (vc_sound h1 rl ha) fun e a' w' hpost => ?_)
    cases e with
    | normal => obtain ⟨S', ρ', h', hK, rl'⟩ := hpost; exact hb S' hK _ B D ρ' h' a' w' h2 rl'
    | panic => exact hpost.elim
    | outgrown => exact hpost.elim
    | _ => exact hpost
/-- The first pieces, and those behind them. -/
def IR.pre : Nat → IR → IR
  | n + 2, .seq a b => .seq a (IR.pre (n + 1) b)
  | _, .seq a _ => a
  | _, c => c
def IR.post : Nat → IR → IR
  | n + 2, .seq _ b => IR.post (n + 1) b
  | _, .seq _ b => b
  | _, _ => .skip
/-- Whether there are so many pieces. -/
def IR.has : Nat → IR → Bool
  | n + 2, .seq _ b => IR.has (n + 1) b
  | 1, .seq _ _ => true
  | _, _ => false
theorem does_cut_vc (lv : List Nat) (M : St → Prop) : ∀ (n : Nat) (ir : IR) (S : St), ir.has n = true → vc P G (ir.pre n) S (fun S' => ∃ ids, ids.Nodup ∧ M (S'.forget lv ids)) Ke →
    (∀ S', M S' → Does P G (ir.post n) S' Kn Ke) → Does P G ir S Kn Ke
  | 0, ir, S, hh, _, _ => by cases ir <;> cases hh
  | 1, .seq a b, S, _, h, hp => does_seq (a := a) h fun S' ⟨ids, hn, hm⟩ => does_forget lv hn (hp _ hm)
  | n + 2, .seq a b, S, hh, h, hp => by
    have h : vc P G (.seq a (IR.pre (n + 1) b)) S (fun S' => ∃ ids, ids.Nodup ∧ M (S'.forget lv ids)) Ke := h
    simp only [vc] at h
    exact does_seq h fun S' h' => does_cut_vc lv M (n + 1) b S' hh h' hp
  | 1, .skip, _, hh, _, _ => by cases hh
  | 1, .ops _ _, _, hh, _, _ => by cases hh
  | 1, .cond _ _ _, _, hh, _, _ => by cases hh
  | 1, .block _ _, _, hh, _, _ => by cases hh
  | 1, .loop _ _, _, hh, _, _ => by cases hh
  | 1, .exit _, _, hh, _, _ => by cases hh
  | 1, .label _, _, hh, _, _ => by cases hh
  | 1, .goto _, _, hh, _, _ => by cases hh
  | 1, .ret, _, hh, _, _ => by cases hh
  | _ + 2, .skip, _, hh, _, _ => by cases hh
  | _ + 2, .ops _ _, _, hh, _, _ => by cases hh
  | _ + 2, .cond _ _ _, _, hh, _, _ => by cases hh
  | _ + 2, .block _ _, _, hh, _, _ => by cases hh
  | _ + 2, .loop _ _, _, hh, _, _ => by cases hh
  | _ + 2, .exit _, _, hh, _, _ => by cases hh
  | _ + 2, .label _, _, hh, _, _ => by cases hh
  | _ + 2, .goto _, _, hh, _, _ => by cases hh
  | _ + 2, .ret, _, hh, _, _ => by cases hh
/-- **A cut behind the n-th piece**: lv stays alive, M is known. -/
theorem does_cut (n : Nat) (lv : List Nat) (M : St → Prop) {ir : IR} (hh : ir.has n = true) (h : run P G [.ir (ir.pre n)] S (fun S' => ∃ ids, ids.Nodup ∧ M (S'.forget lv ids)) Ke)
    (hp : ∀ S', M S' → Does P G (ir.post n) S' Kn Ke) : Does P G ir S Kn Ke := does_cut_vc lv M n ir S hh (run_of h) hp
theorem fun_of_does {f : FuncId} {fn : Func} {c : Code} {ir : IR} (L : List (List Nat)) (hf : P.funcs[f]? = some fn) (hb : fn.body = some c) (hok : calleeOk P f = true)
    (hir : compCode P c L = some (ir, [])) (hres : resOk P fn.results.toList = true) {args : List PV} {r : PV} {n : Nat} (hnt : fn.ntmps = n)
    (h : Does P G ir ⟨args.map .p ++ List.replicate (n - args.length) .any, []⟩ (resK P fn.results.toList r) (fun e S => e = .ret ∧ resK P fn.results.toList r S)) : FunEq P G f args r :=
  fun_of_core hf hb hok hres hnt fun _ _ _ _ _ _ rl => h _ _ _ _ _ _ _ (compCode_ok hir) rl
end Go.Fx
