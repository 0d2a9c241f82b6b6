/-
  Fx, part 12: vc, step by step, over a stack of what is still to be walked.
-/
import Derived.Test.YtlfffpkfipdboaaDoorFxSound6
set_option linter.unusedSimpArgs false
set_option linter.unusedVariables false
namespace Go.Fx
theorem bits_u64 : IntKind.u64.bits = 64 := rfl
theorem bits_i64 : IntKind.i64.bits = 64 := rfl
theorem bits_u8 : IntKind.u8.bits = 8 := rfl
theorem bits_u32 : IntKind.u32.bits = 32 := rfl
theorem eqInt {k : IntKind} {a b : Int} (h : a = b) : some (PV.int k a) = some (PV.int k b) := by rw [h]
theorem eqBool {a b : Bool} (h : a = b) : some (PV.bool a) = some (PV.bool b) := by rw [h]
/-- A function's slots, of which these are known. -/
def slots : Nat → Nat → List (Nat × SV) → List SV
  | 0, _, _ => []
  | n + 1, k, [] => .any :: slots n (k + 1) []
  | n + 1, k, (i, x) :: r => if i = k then x :: slots n (k + 1) r else .any :: slots n (k + 1) ((i, x) :: r)
inductive Item where
  | ir (c : IR)
  | ops (d : Nat) (l : List IOp)
  | eb (id : Nat)
mutual
def run (P : Program) (G : Glob) : List Item → St → (St → Prop) → (Exit → St → Prop) → Prop
  | [], S, Kn, _ => Kn S
  | .ir c :: k, S, Kn, Ke => vc P G c S (fun S' => run P G k S' Kn Ke) (fun e S' => runX P G e k S' Kn Ke)
  | .ops d l :: k, S, Kn, Ke => match d with
    | 0 => vcOps P G l S (fun S' => run P G k S' Kn Ke)
    | d + 1 => vcDraw P G (d == 1) l S (fun S' => run P G k S' Kn Ke)
  | .eb _ :: k, S, Kn, Ke => run P G k S Kn Ke
def runX (P : Program) (G : Glob) (e : Exit) : List Item → St → (St → Prop) → (Exit → St → Prop) → Prop
  | [], S, _, Ke => Ke e S
  | .eb id :: k, S, Kn, Ke => match e with
    | .exit id' => if id' = id then run P G k S Kn Ke else runX P G (.exit id') k S Kn Ke
    | e => runX P G e k S Kn Ke
  | .ir _ :: k, S, Kn, Ke => runX P G e k S Kn Ke
  | .ops _ _ :: k, S, Kn, Ke => runX P G e k S Kn Ke
end
section
variable {P : Program} {G : Glob} {k : List Item} {S : St} {Kn : St → Prop} {Ke : Exit → St → Prop}
theorem run_of {c : IR} (h : run P G [.ir c] S Kn Ke) : vc P G c S Kn Ke := by
  simpa [run, runX] using h
theorem run_nil : run P G [] S Kn Ke = Kn S := by simp only [run]
theorem run_skip : run P G (.ir .skip :: k) S Kn Ke = run P G k S Kn Ke := by simp only [run, vc]
theorem run_label {l : Nat} : run P G (.ir (.label l) :: k) S Kn Ke = run P G k S Kn Ke := by simp only [run, vc]
theorem run_eb {id : Nat} : run P G (.eb id :: k) S Kn Ke = run P G k S Kn Ke := by simp only [run]
theorem run_seq {a b : IR} : run P G (.ir (.seq a b) :: k) S Kn Ke = run P G (.ir a :: .ir b :: k) S Kn Ke := by simp only [run, vc, runX]
theorem run_ops {d : Bool} {l : List IOp} : run P G (.ir (.ops d l) :: k) S Kn Ke = run P G (.ops (bif d then (bif IOp.apps l then 2 else 1) else 0) l :: k) S Kn Ke := by
  cases d
  · simp only [run, vc, cond_false]
  · cases h : IOp.apps l <;> simp only [run, vc, cond_true, cond_false, h] <;> rfl
theorem run_opsNil {d : Nat} : run P G (.ops d [] :: k) S Kn Ke = run P G k S Kn Ke := by cases d <;> simp only [run, vcOps, vcDraw]
theorem run_block {id : Nat} {a : IR} : run P G (.ir (.block id a) :: k) S Kn Ke = run P G (.ir a :: .eb id :: k) S Kn Ke := by
  simp only [run, vc]
  congr 1
  all_goals
    funext e S'
    cases e <;> simp only [runX]
theorem runX_ret : runX P G .ret k S Kn Ke = Ke .ret S := by
  induction k with
  | nil => simp only [runX]
  | cons i k ih => cases i <;> simp only [runX, ih]
theorem run_ret : run P G (.ir .ret :: k) S Kn Ke = Ke .ret S := by
  simp only [run, vc, runX_ret]
theorem run_exit {id : Nat} : run P G (.ir (.exit id) :: k) S Kn Ke = runX P G (.exit id) k S Kn Ke := by simp only [run, vc]
theorem runX_nil {e : Exit} : runX P G e [] S Kn Ke = Ke e S := by simp only [runX]
theorem runX_ir {e : Exit} {c : IR} : runX P G e (.ir c :: k) S Kn Ke = runX P G e k S Kn Ke := by simp only [runX]
theorem runX_ops {e : Exit} {d : Nat} {l : List IOp} : runX P G e (.ops d l :: k) S Kn Ke = runX P G e k S Kn Ke := by simp only [runX]
theorem runX_eb {id id' : Nat} : runX P G (.exit id') (.eb id :: k) S Kn Ke = if id' = id then run P G k S Kn Ke else runX P G (.exit id') k S Kn Ke := by simp only [runX]
/-- Where a test stands that is not decided yet. -/
def runC (P : Program) (G : Glob) (v : SV) (a b : IR) (k : List Item) (S : St) (Kn : St → Prop) (Ke : Exit → St → Prop) : Prop :=
  match v with
  | .p (.bool t) => (t = true → run P G (.ir a :: k) S Kn Ke) ∧ (t = false → run P G (.ir b :: k) S Kn Ke)
  | _ => False
theorem run_cond {c : Opd} {a b : IR} : run P G (.ir (.cond c a b) :: k) S Kn Ke = runC P G (evS G S c) a b k S Kn Ke := by
  simp only [run, vc, runC]
  cases evS G S c with
  | p x => cases x <;> rfl
  | _ => rfl
theorem runC_true {a b : IR} : runC P G (.p (.bool true)) a b k S Kn Ke = run P G (.ir a :: k) S Kn Ke := by simp [runC]
theorem runC_false {a b : IR} : runC P G (.p (.bool false)) a b k S Kn Ke = run P G (.ir b :: k) S Kn Ke := by simp [runC]
theorem runC_of {t : Bool} {a b : IR} (h1 : t = true → run P G (.ir a :: k) S Kn Ke) (h2 : t = false → run P G (.ir b :: k) S Kn Ke) : runC P G (.p (.bool t)) a b k S Kn Ke := ⟨h1, h2⟩
theorem runC_dec {p : Prop} [Decidable p] {a b : IR} (h1 : p → run P G (.ir a :: k) S Kn Ke) (h2 : ¬ p → run P G (.ir b :: k) S Kn Ke) : runC P G (.p (.bool (decide p))) a b k S Kn Ke :=
  ⟨fun h => h1 (of_decide_eq_true h), fun h => h2 (of_decide_eq_false h)⟩
def okD (dr kd : Nat) (a b : List OB) : Prop :=
  match dr with
  | 0 => True
  | _ => okOwn kd a b
/-- The next operation, and what stands behind it. -/
def nxt (P : Program) (G : Glob) (dr : Nat) (kd : Nat) (d : Option Nat) (l : List IOp) (k : List Item) (S : St) (Kn : St → Prop) (Ke : Exit → St → Prop) : SV → List OB → Prop :=
  fun x own => okD dr kd S.own own ∧ run P G (.ops dr l :: k) (S.put d x own) Kn Ke
/-- In an open order with new own things: no call leads to any. -/
def okN (dr : Nat) (G : Glob) (S : St) (io : Ins) : Prop :=
  match dr with
  | 2 => noIds S.own (fun y => (evS G S y).strip) io
  | _ => True
theorem run_val {dr : Nat} {o : IOp} {l : List IOp} : run P G (.ops dr (o :: l) :: k) S Kn Ke = (okN dr G S o.io ∧ vcVal P G S o (nxt P G dr o.io.kind o.dst l k S Kn Ke)) := by
  match dr with
  | 0 =>
    have key : nxt P G 0 o.io.kind o.dst l k S Kn Ke = fun x own => vcOps P G l (S.put o.dst x own) (fun S' => run P G k S' Kn Ke) := by
      funext x own; simp only [nxt, okD, run, true_and]
    rw [key]
    simp only [run, vcOps, vcOp, okN, true_and]
  | 1 =>
    have key : nxt P G 1 o.io.kind o.dst l k S Kn Ke = fun x own => okOwn o.io.kind S.own own ∧ vcDraw P G (0 == 1) l (S.put o.dst x own) (fun S' => run P G k S' Kn Ke) := by
      funext x own; simp only [nxt, okD, run]
    rw [key]
    simp only [run, vcDraw, okN, true_and, show ((0 : Nat) == 1) = false from rfl, Bool.false_eq_true, false_implies]
  | 2 =>
    have key : nxt P G 2 o.io.kind o.dst l k S Kn Ke = fun x own => okOwn o.io.kind S.own own ∧ vcDraw P G (1 == 1) l (S.put o.dst x own) (fun S' => run P G k S' Kn Ke) := by
      funext x own; simp only [nxt, okD, run]
    rw [key]
    simp only [run, vcDraw, okN, show ((1 : Nat) == 1) = true from rfl, true_implies]
  | d + 3 =>
    have key : nxt P G (d + 3) o.io.kind o.dst l k S Kn Ke = fun x own => okOwn o.io.kind S.own own ∧ vcDraw P G (d + 2 == 1) l (S.put o.dst x own) (fun S' => run P G k S' Kn Ke) := by
      funext x own; simp only [nxt, okD, run]
    rw [key]
    have h0 : (d + 2 == 1) = false := by simp
    simp only [run, vcDraw, okN, true_and, h0, Bool.false_eq_true, false_implies]
/-- An operation that is met by a law of its own. -/
def runE (P : Program) (G : Glob) (dr : Nat) (d : Option Nat) (io : Ins) (l : List IOp) (k : List Item) (S : St) (Kn : St → Prop) (Ke : Exit → St → Prop) : Prop :=
  okN dr G S io ∧ vcRun P G S.own (evS G S) io (nxt P G dr io.kind d l k S Kn Ke)
def runEG (P : Program) (G : Glob) (dr : Nat) (act : Bool) (d : Option Nat) (io : Ins) (l : List IOp) (k : List Item) (S : St) (Kn : St → Prop) (Ke : Exit → St → Prop) : Prop :=
  okN dr G S io ∧ vcGuard P G act S.own (evS G S) io (nxt P G dr io.kind d l k S Kn Ke)
theorem nxt_own {dr : Nat} {d : Option Nat} {l : List IOp} {x : SV} : nxt P G dr 0 d l k S Kn Ke x S.own = run P G (.ops dr l :: k) (S.put d x S.own) Kn Ke := by
  cases dr <;> simp only [nxt, okD, okOwn, true_and]
theorem Ins.calm_kind {io : Ins} (h : io.calm = true) : io.kind = 0 := by
  cases io <;> first | rfl | (cases h)
theorem okN_calm {dr : Nat} {io : Ins} (h : io.calm = true) : okN dr G S io := by
  unfold okN
  split
  · cases io <;> first | trivial | (cases h)
  · trivial
theorem run_op0 {dr : Nat} {d : Option Nat} {io : Ins} {l : List IOp} : run P G (.ops dr (⟨d, io, none⟩ :: l) :: k) S Kn Ke =
    (if io.calm = true then sureL (evS G S) io.opds ∧ (pev S.own (fun x => (evS G S x).strip) io).1 ∧ run P G (.ops dr l :: k) (S.put d (pev S.own (fun x => (evS G S x).strip) io).2 S.own) Kn Ke
    else runE P G dr d io l k S Kn Ke) := by
  rw [run_val]
  split
  · rename_i hp
    obtain ⟨n1, n2⟩ := Ins.calm_ne hp
    have h0 : okN dr G S io := okN_calm hp
    have hk := Ins.calm_kind hp
    simp only [vcVal, vcRun, h0, true_and, hk]
    cases io
    case pick => exact absurd rfl (n1 _ _ _)
    case call => exact absurd rfl (n2 _ _)
    all_goals (first | (cases hp; done) | (dsimp only; rw [if_pos hp, nxt_own]) | rw [if_pos hp, nxt_own])
  · rfl
def gAct : SV → Bool → Option Bool
  | .p (.bool t), want => some (bif want then t else !t)
  | .cnd t' (.p (.bool t)), want => some (t' && (bif want then t else !t))
  | _, _ => none
theorem vcVal_guard {o : IOp} {g : Nat} {want : Bool} {K : SV → List OB → Prop} (ho : o.guard = some (g, want)) :
    vcVal P G S o K = match gAct (S.t.getD g .any) want with
      | some act => vcGuard P G act S.own (evS G S) o.io K
      | none => False := by
  have hb : ∀ t : Bool, (t == want) = (bif want then t else !t) := fun t => by cases t <;> cases want <;> rfl
  unfold vcVal
  rw [ho]
  dsimp only
  cases S.t.getD g .any with
  | p x => cases x <;> simp only [gAct, hb]
  | cnd t x =>
    cases x with
    | p x => cases x <;> simp only [gAct, hb]
    | _ => rfl
  | _ => rfl
theorem run_opG {dr : Nat} {d : Option Nat} {io : Ins} {l : List IOp} {g : Nat} {want : Bool} : run P G (.ops dr (⟨d, io, some (g, want)⟩ :: l) :: k) S Kn Ke =
    match gAct (S.t.getD g .any) want with
    | some act => if io.calm = true then
        (act = true → sureL (evS G S) io.opds ∧ (pev S.own (fun x => (evS G S x).strip) io).1) ∧ run P G (.ops dr l :: k) (S.put d (.cnd act (pev S.own (fun x => (evS G S x).strip) io).2) S.own) Kn Ke
      else runEG P G dr act d io l k S Kn Ke
    | none => False := by
  rw [run_val, vcVal_guard (o := ⟨d, io, some (g, want)⟩) rfl]
  cases gAct (S.t.getD g .any) want with
  | none => simp
  | some act =>
    dsimp only
    split
    · rename_i hp
      obtain ⟨n1, n2⟩ := Ins.calm_ne hp
      have h0 : okN dr G S io := okN_calm hp
      have hk := Ins.calm_kind hp
      simp only [h0, true_and, hk]
      unfold vcGuard
      cases io
      case pick => exact absurd rfl (n1 _ _ _)
      case call => exact absurd rfl (n2 _ _)
      all_goals (first | (dsimp only; rw [if_pos hp, nxt_own]) | (cases hp))
    · rfl
def runP (P : Program) (G : Glob) (dr : Nat) (d : Option Nat) (t : Bool) (x y : SV) (l : List IOp) (k : List Item) (S : St) (Kn : St → Prop) (Ke : Exit → St → Prop) : Prop :=
  (t = true → x.sure) ∧ (t = false → y.sure) ∧ run P G (.ops dr l :: k) (S.put d (SV.mix t x.strip y.strip) S.own) Kn Ke
def runPG (P : Program) (G : Glob) (dr : Nat) (act : Bool) (d : Option Nat) (z : SV) (t : Bool) (x y : SV) (l : List IOp) (k : List Item) (S : St) (Kn : St → Prop) (Ke : Exit → St → Prop) : Prop :=
  (act = true → z.sure ∧ (t = true → x.sure) ∧ (t = false → y.sure)) ∧ run P G (.ops dr l :: k) (S.put d (.cnd act (SV.mix t x.strip y.strip)) S.own) Kn Ke
theorem run_pick {dr : Nat} {d : Option Nat} {c a b : Opd} {l : List IOp} : runE P G dr d (.pick c a b) l k S Kn Ke =
    ((evS G S c).sure ∧ match (evS G S c).strip with
      | .p (.bool t) => runP P G dr d t (evS G S a) (evS G S b) l k S Kn Ke
      | _ => False) := by
  have h0 : okN dr G S (.pick c a b) := by unfold okN; split <;> trivial
  simp only [runE, runP, vcRun, Ins.opds, sureL, h0, true_and, Ins.kind, nxt_own]
  cases (evS G S c).strip with
  | p x => cases x <;> rfl
  | _ => rfl
theorem run_pickG {dr : Nat} {d : Option Nat} {c a b : Opd} {l : List IOp} {act : Bool} : runEG P G dr act d (.pick c a b) l k S Kn Ke =
    match (evS G S c).strip with
      | .p (.bool t) => runPG P G dr act d (evS G S c) t (evS G S a) (evS G S b) l k S Kn Ke
      | _ => False := by
  have h0 : okN dr G S (.pick c a b) := by unfold okN; split <;> trivial
  simp only [runEG, runPG, vcGuard, h0, true_and, Ins.kind, nxt_own]
  cases (evS G S c).strip with
  | p x => cases x <;> rfl
  | _ => rfl
/-- An operation with own effects. -/
theorem run_eff {dr : Nat} {d : Option Nat} {io : Ins} {l : List IOp} (h1 : io.calm = false) (h2 : ∀ c a b, io ≠ .pick c a b) (h3 : ∀ c a, io ≠ .call c a) (h4 : ∀ c t a b, io ≠ .callR c t a b := by intros; simp) (h5 : ∀ c t b, io ≠ .callN c t b := by intros; simp) (h6 : ∀ c t a b, io ≠ .callI c t a b := by intros; simp) (h7 : ∀ o, io ≠ .fx o := by intros; simp) : runE P G dr d io l k S Kn Ke =
    (sureL (evS G S) io.opds ∧ eff S.own (fun x => (evS G S x).strip) io (nxt P G dr io.kind d l k S Kn Ke)) := by
  have h0 : okN dr G S io := by
    unfold okN
    split
    · cases io <;> first | trivial | exact absurd rfl (h3 _ _)
    · trivial
  unfold runE vcRun
  simp only [h0, true_and]
  cases io
  case pick => exact absurd rfl (h2 _ _ _)
  case call => exact absurd rfl (h3 _ _)
  case callR => exact absurd rfl (h4 _ _ _ _)
  case callN => exact absurd rfl (h5 _ _ _)
  case callI => exact absurd rfl (h6 _ _ _ _)
  case fx => exact absurd rfl (h7 _)
  all_goals (first | (cases h1; done) | (dsimp only; rw [if_neg (by rw [h1]; simp)]) | rw [if_neg (by rw [h1]; simp)])
theorem growsP_snoc {ob : OB} (h : ob.isFro = false) : ∀ a : List OB, growsP a (a ++ [ob])
  | [] => h
  | x :: a => ⟨rfl, growsP_snoc h a⟩
theorem okD_grow {dr : Nat} {a : List OB} {ob : OB} (h : ob.isFro = false) : okD dr 1 a (a ++ [ob]) := by
  cases dr
  · trivial
  · exact growsP_snoc h a
theorem okD_any {dr : Nat} {a b : List OB} : okD dr 2 a b := by
  cases dr <;> trivial
theorem run_box {dr : Nat} {d : Option Nat} {ty : TypeId} {x : Opd} {l : List IOp} : runE P G dr d (.box ty x) l k S Kn Ke =
    ((evS G S x).sure ∧ (evS G S x).strip.cells.all (·.scal) = true ∧ run P G (.ops dr l :: k) (S.put d (.ptr S.own.length 0) (S.own ++ [.box ty (evS G S x).strip.cells])) Kn Ke) := by
  rw [run_eff rfl (by simp) (by simp)]
  simp only [Ins.opds, sureL, eff, nxt, Ins.kind, okD_grow (ob := .box ty (evS G S x).strip.cells) rfl, true_and]
theorem run_alloc {dr : Nat} {d : Option Nat} {ty : TypeId} {z : List PV} {l : List IOp} : runE P G dr d (.alloc ty z) l k S Kn Ke =
    run P G (.ops dr l :: k) (S.put d (.ptr S.own.length 0) (S.own ++ [.box ty (z.map .p)])) Kn Ke := by
  rw [run_eff rfl (by simp) (by simp)]
  simp only [Ins.opds, sureL, eff, true_and, nxt, Ins.kind, okD_grow (ob := .box ty (z.map .p)) rfl]
/-- A store into a variable. -/
theorem run_st {dr : Nat} {d : Option Nat} {n : Nat} {a x : Opd} {l : List IOp} : runE P G dr d (.st n a x) l k S Kn Ke =
    (((evS G S a).sure ∧ (evS G S x).sure) ∧ match (evS G S a).strip with
      | .ptr id off => match S.own.getD id .gone with
        | .box ty cs => (evS G S x).strip.cells.length = n ∧ off + n ≤ cs.length ∧ (evS G S x).strip.cells.all (·.scal) = true ∧
            run P G (.ops dr l :: k) (S.put d .any (S.own.set id (.box ty (spliceL cs off (evS G S x).strip.cells)))) Kn Ke
        | _ => False
      | .rptr id wd i off => match S.own.getD id .gone, (evS G S x).strip with
        | .irow ty kd nil ex l', .p (.int k' n') => n = 1 ∧ wd = 1 ∧ off = 0 ∧ k' = kd ∧ i < l'.length ∧ run P G (.ops dr l :: k) (S.put d .any (S.own.set id (.irow ty kd nil ex (l'.set i n')))) Kn Ke
        | .row ty w' nil ex es, .p y => wd = w' ∧ n = w' ∧ off = 0 ∧ y.cells.length = n ∧ y.cells.all (·.scal) = true ∧ i < es.length ∧ run P G (.ops dr l :: k) (S.put d .any (S.own.set id (.row ty w' nil ex (es.set i y)))) Kn Ke
        | _, _ => False
      | _ => False) := by
  rw [run_eff rfl (by simp) (by simp)]
  simp only [Ins.opds, sureL, eff, nxt, Ins.kind, okD_any, true_and]
  congr 1
def okB (dr : Nat) (a b : List OB) : Prop :=
  match dr with
  | 0 => True
  | _ => growsP a b
/-- A literal slice. -/
def runB (P : Program) (G : Glob) (dr : Nat) (d : Option Nat) (elem : TypeId) (ik : Option IntKind) (w : Nat) (own' : List OB) (xs : Option (List PV)) (l : List IOp) (k : List Item) (S : St) (Kn : St → Prop) (Ke : Exit → St → Prop) : Prop :=
  match xs with
  | some xs => match ik with
    | some kd => match intsOf kd xs with
      | some m => okB dr S.own (own' ++ [.irow elem kd false true m]) ∧ run P G (.ops dr l :: k) (S.put d (.row own'.length) (own' ++ [.irow elem kd false true m])) Kn Ke
      | none => False
    | none => xs.all (fun x => x.cells.length == w && x.cells.all (·.scal)) = true ∧ okB dr S.own (own' ++ [.row elem w false true xs]) ∧ run P G (.ops dr l :: k) (S.put d (.row own'.length) (own' ++ [.row elem w false true xs])) Kn Ke
  | none => False
theorem run_bsl {dr : Nat} {d : Option Nat} {elem : TypeId} {ik : Option IntKind} {w : Nat} {ps : List Opd} {l : List IOp} : runE P G dr d (.bsl elem ik w ps) l k S Kn Ke =
    (sureL (evS G S) ps ∧ runB P G dr d elem ik w (fzL S.own ((ps.map fun x => (evS G S x).strip).flatMap (SV.ids S.own)))
      (SV.pvSL (fzL S.own ((ps.map fun x => (evS G S x).strip).flatMap (SV.ids S.own))) (ps.map fun x => (evS G S x).strip)) l k S Kn Ke) := by
  rw [run_eff rfl (by simp) (by simp)]
  have h1 : ∀ {a b : List OB}, okD dr 1 a b = okB dr a b := fun {a b} => by cases dr <;> rfl
  simp only [Ins.opds, eff, runB, nxt, Ins.kind, h1]
  congr 1
/-- Elements put behind a slice. -/
def runAI (P : Program) (G : Glob) (dr : Nat) (d : Option Nat) (elem : TypeId) (k' : IntKind) (bytes : Nat) (x : SV) (y : Option PV) (l : List IOp) (k : List Item) (S : St) (Kn : St → Prop) (Ke : Exit → St → Prop) : Prop :=
  match y with
  | some (.isl _ _ k2 m) => k2 = k' ∧ match x with
    | .row id => match S.own.getD id .gone with
      | .irow ty k1 nil _ l0 => ty = elem ∧ k1 = k' ∧ (l0.length + m.length) * bytes ≤ 140737488355328 ∧ l0.length + m.length ≤ 4611686018427387904 ∧
          run P G (.ops dr l :: k) (S.put d (.row S.own.length) (S.own.set id .gone ++ [.irow elem k' (nil && m.isEmpty) false (l0 ++ m)])) Kn Ke
      | _ => False
    | .p (.isl nil ex k1 l0) => k1 = k' ∧ ex = true ∧ (l0.length + m.length) * bytes ≤ 140737488355328 ∧ l0.length + m.length ≤ 4611686018427387904 ∧
        match nil with
        | true => run P G (.ops dr l :: k) (S.put d (.row S.own.length) (S.own ++ [.irow elem k' m.isEmpty false m])) Kn Ke
        | false => match m with
          | [] => run P G (.ops dr l :: k) (S.put d (.p (.isl false true k1 l0)) S.own) Kn Ke
          | n :: m => run P G (.ops dr l :: k) (S.put d (.row S.own.length) (S.own ++ [.irow elem k' false false (l0 ++ n :: m)])) Kn Ke
    | _ => False
  | _ => False
def runAS (P : Program) (G : Glob) (dr : Nat) (d : Option Nat) (elem : TypeId) (w bytes : Nat) (x : SV) (y : Option PV) (l : List IOp) (k : List Item) (S : St) (Kn : St → Prop) (Ke : Exit → St → Prop) : Prop :=
  match y with
  | some (.sl _ _ w2 m) => w2 = w ∧ match x with
    | .row id => match S.own.getD id .gone with
      | .row ty w1 nil _ l0 => ty = elem ∧ w1 = w ∧ (l0.length + m.length) * bytes ≤ 140737488355328 ∧ l0.length + m.length ≤ 4611686018427387904 ∧ (∀ y ∈ m, y.cells.all (·.scal) = true) ∧
          run P G (.ops dr l :: k) (S.put d (.row S.own.length) (S.own.set id .gone ++ [.row elem w (nil && m.isEmpty) false (l0 ++ m)])) Kn Ke
      | _ => False
    | .p (.sl nil ex w1 l0) => w1 = w ∧ ex = true ∧ (l0.length + m.length) * bytes ≤ 140737488355328 ∧ l0.length + m.length ≤ 4611686018427387904 ∧ (∀ y ∈ m, y.cells.all (·.scal) = true) ∧
        match nil with
        | true => run P G (.ops dr l :: k) (S.put d (.row S.own.length) (S.own ++ [.row elem w m.isEmpty false m])) Kn Ke
        | false => match m with
          | [] => run P G (.ops dr l :: k) (S.put d (.p (.sl false true w1 l0)) S.own) Kn Ke
          | n :: m => run P G (.ops dr l :: k) (S.put d (.row S.own.length) (S.own ++ [.row elem w false false (l0 ++ n :: m)])) Kn Ke
    | _ => False
  | _ => False
theorem run_appI {dr : Nat} {d : Option Nat} {elem : TypeId} {k' : IntKind} {w bytes : Nat} {x y : Opd} {l : List IOp} : runE P G dr d (.app elem (some k') w bytes x y) l k S Kn Ke =
    (((evS G S x).sure ∧ (evS G S y).sure) ∧ runAI P G dr d elem k' bytes (evS G S x).strip ((evS G S y).strip.see S.own) l k S Kn Ke) := by
  rw [run_eff rfl (by simp) (by simp)]
  have key : nxt P G dr 2 d l k S Kn Ke = fun x own => run P G (.ops dr l :: k) (S.put d x own) Kn Ke := by
    funext x own; simp only [nxt, okD_any, true_and]
  simp only [Ins.opds, sureL, eff, runAI, Ins.kind, key, appI]
  congr 1
theorem run_appS {dr : Nat} {d : Option Nat} {elem : TypeId} {w bytes : Nat} {x y : Opd} {l : List IOp} : runE P G dr d (.app elem none w bytes x y) l k S Kn Ke =
    (((evS G S x).sure ∧ (evS G S y).sure) ∧ runAS P G dr d elem w bytes (evS G S x).strip ((evS G S y).strip.see S.own) l k S Kn Ke) := by
  rw [run_eff rfl (by simp) (by simp)]
  have key : nxt P G dr 2 d l k S Kn Ke = fun x own => run P G (.ops dr l :: k) (S.put d x own) Kn Ke := by
    funext x own; simp only [nxt, okD_any, true_and]
  simp only [Ins.opds, sureL, eff, runAS, Ins.kind, key, appS]
  congr 1
theorem run_bad {dr : Nat} {d : Option Nat} {l : List IOp} : runE P G dr d .bad l k S Kn Ke = False := by
  rw [run_eff rfl (by simp) (by simp)]
  simp only [eff, and_false]
/-- A call, by the callee's contract. -/
theorem run_call {dr : Nat} {d : Option Nat} {f : Opd} {args : List Opd} {l : List IOp} {g : FuncId} {caps as full : List PV} {r : PV} (hc : FunEq P G g full r) (own' : List OB)
    (ho : fzL S.own ((f :: args).flatMap fun x => SV.ids S.own (evS G S x).strip) = own')
    (hs : sureL (evS G S) (f :: args)) (hf : (evS G S f).strip.pvS own' = some (.fn g caps)) (ha : SV.pvSL own' (args.map fun x => (evS G S x).strip) = some as) (hfull : as ++ caps = full)
    (hn : okN dr G S (.call f args)) (hd : okD dr 0 S.own (if r.flat then S.own else own'))
    (h : run P G (.ops dr l :: k) (S.put d (.p r) (if r.flat then S.own else own')) Kn Ke) :
    runE P G dr d (.call f args) l k S Kn Ke := by
  subst ho
  subst hfull
  refine ⟨hn, hs, ?_⟩
  show callVC _ _ _ _ _ _ _ _
  unfold callVC
  dsimp only
  rw [hf, ha]
  exact ⟨r, fun _ => hc, hd, h⟩
theorem run_callG {dr : Nat} {d : Option Nat} {f : Opd} {args : List Opd} {l : List IOp} {act : Bool} {g : FuncId} {caps as full : List PV} {r : PV}
    (hc : act = true → FunEq P G g full r) (own' : List OB) (ho : fzL S.own ((f :: args).flatMap fun x => SV.ids S.own (evS G S x).strip) = own')
    (hs : act = true → sureL (evS G S) (f :: args)) (hf : (evS G S f).strip.pvS own' = some (.fn g caps)) (ha : SV.pvSL own' (args.map fun x => (evS G S x).strip) = some as) (hfull : as ++ caps = full)
    (hn : okN dr G S (.call f args)) (hd : okD dr 0 S.own (if r.flat then S.own else own'))
    (h : run P G (.ops dr l :: k) (S.put d (.cnd act (.p r)) (if r.flat then S.own else own')) Kn Ke) :
    runEG P G dr act d (.call f args) l k S Kn Ke := by
  subst ho
  subst hfull
  refine ⟨hn, ?_⟩
  simp only [vcGuard]
  refine ⟨hs, ?_⟩
  unfold callVC
  dsimp only
  rw [hf, ha]
  exact ⟨r, hc, hd, h⟩
/-- A loop. -/
theorem run_loop {live : List Nat} {b : IR} (I : Nat → St → Prop) (h0 : ∃ n ids, ids.Nodup ∧ I n (S.forget live ids)) (h : ∀ n S', I n S' → run P G [.ir b] S' (fun S'' => ∃ m ids, ids.Nodup ∧ m < n ∧ I m (S''.forget live ids)) (fun e S'' => runX P G e k S'' Kn Ke)) :
    run P G (.ir (.loop live b) :: k) S Kn Ke := by
  simp only [run, vc]
  refine ⟨I, _, fun _ _ h => .inl h, h0, fun n S' hI => ?_⟩
  have := h n S' hI
  simpa only [run, runX] using this
/-- Where a loop is left by jumps behind it: what stays alive there (lv), and what is known of it (J). -/
def outJ (P : Program) (G : Glob) (id : Nat) (lv : List Nat) (J : St → Prop) (k : List Item) (Kn : St → Prop) (Ke : Exit → St → Prop) (e : Exit) (S : St) : Prop :=
  match e with
  | .exit id' => if id' = id then ∃ ids, ids.Nodup ∧ J (S.forget lv ids) else runX P G (.exit id') k S Kn Ke
  | e => runX P G e k S Kn Ke
theorem run_loopX {live : List Nat} {b : IR} {id : Nat} (lv : List Nat) (I : Nat → St → Prop) (J : St → Prop) (h0 : ∃ n ids, ids.Nodup ∧ I n (S.forget live ids))
    (h : ∀ n S', I n S' → run P G [.ir b] S' (fun S'' => ∃ m ids, ids.Nodup ∧ m < n ∧ I m (S''.forget live ids)) (outJ P G id lv J k Kn Ke))
    (hJ : ∀ S, J S → run P G k S Kn Ke) :
    run P G (.ir (.loop live b) :: .eb id :: k) S Kn Ke := by
  simp only [run, vc]
  refine ⟨I, outJ P G id lv J k Kn Ke, fun e S h => ?_, h0, fun n S' hI => ?_⟩
  · cases e with
    | exit id' =>
      simp only [outJ] at h
      split at h
      · rename_i he
        obtain ⟨ids, hnd, hj⟩ := h
        refine .inr ⟨lv, ids, hnd, ?_⟩
        simp only [runX, if_pos he]
        exact hJ _ hj
      · rename_i he
        refine .inl ?_
        simp only [runX, if_neg he]
        exact h
    | _ => exact .inl (by simpa only [outJ, runX] using h)
  · have := h n S' hI
    simpa only [run, runX] using this
end
end Go.Fx
